/- Plain Lean: the text of a valid declaration as the reference puts it together is the one of the program. No program in sight. Conditions: none. -/
import Derived.Test.YtanhkeeifnimgaaDoorSyn17q
namespace Go.Proofs.YtanhkeeifnimgaaDoor
open Go Go.RowKit Go.Proofs

def rB (refs : List ByteArray) (j : Nat) : ByteArray := refs.getD j ByteArray.empty
def nB (nums : List Int) (j : Nat) : ByteArray := itoaS (nums.getD j 0)
def unitS (nums : List Int) (j : Nat) : ByteArray := (⟨#[32, 108, 111, 97, 100, 32]⟩ : ByteArray) ++ nB nums j ++ (⟨#[32, 115, 105, 122, 101, 32]⟩ : ByteArray) ++ nB nums (j + 1) ++ (⟨#[32, 115, 104, 97, 114, 101, 32]⟩ : ByteArray) ++ nB nums (j + 2)
def domR (n : Int) : ByteArray := if n = 2 then (⟨#[114, 97, 99, 107]⟩ : ByteArray) else if n = 3 then (⟨#[102, 101, 101, 100]⟩ : ByteArray) else (⟨#[115, 105, 116, 101]⟩ : ByteArray)
def bodyB (k : Int) (nm : ByteArray) (refs : List ByteArray) (nums : List Int) (bY : Int) (al : Bool) : ByteArray :=
  if k = 0 ∨ k = 1 then nm
  else if k = 2 then nm ++ (⟨#[32, 105, 110, 32]⟩ : ByteArray) ++ rB refs 0 ++ (⟨#[32, 111, 110, 32]⟩ : ByteArray) ++ rB refs 1
  else if k = 3 then nm ++ (⟨#[32, 105, 110, 32]⟩ : ByteArray) ++ rB refs 0 ++ (⟨#[32, 99, 97, 112, 97, 99, 105, 116, 121, 32]⟩ : ByteArray) ++ nB nums 0
  else if k = 4 then rB refs 0 ++ (⟨#[32]⟩ : ByteArray) ++ rB refs 1 ++ (⟨#[32]⟩ : ByteArray) ++ nB nums 0
  else if k = 5 ∨ k = 7 then nm ++ (⟨#[32, 111, 110, 32]⟩ : ByteArray) ++ joinS refs (⟨#[44, 32]⟩ : ByteArray) ++ unitS nums 0
  else if k = 6 then nm ++ (⟨#[32]⟩ : ByteArray) ++ nB nums 0 ++ (⟨#[32, 111, 110, 32]⟩ : ByteArray) ++ joinS refs (⟨#[44, 32]⟩ : ByteArray) ++ unitS nums 1
  else if k = 8 then rB refs 0 ++ (⟨#[32, 115, 108, 111, 116, 115, 32]⟩ : ByteArray) ++ nB nums 0 ++ (⟨#[32, 114, 101, 115, 101, 114, 118, 101, 32]⟩ : ByteArray) ++ nB nums 1
  else if k = 9 then joinS (clsW bY.toNat) (⟨#[44, 32]⟩ : ByteArray)
  else if k = 10 then rB refs 0
  else if k = 11 then (if al then rB refs 0 ++ (⟨#[32]⟩ : ByteArray) ++ nB nums 0 ++ (⟨#[32, 97, 108, 119, 97, 121, 115]⟩ : ByteArray) else rB refs 0 ++ (⟨#[32]⟩ : ByteArray) ++ nB nums 0)
  else if k = 12 then rB refs 0 ++ (⟨#[32, 98, 121, 32]⟩ : ByteArray) ++ domR bY ++ (⟨#[32]⟩ : ByteArray) ++ nB nums 0
  else if k = 13 then rB refs 0 ++ (⟨#[32, 111, 110, 32]⟩ : ByteArray) ++ joinS refs.tail (⟨#[44, 32]⟩ : ByteArray)
  else if k = 14 then rB refs 0 ++ (⟨#[32, 98, 101, 102, 111, 114, 101, 32]⟩ : ByteArray) ++ rB refs 1
  else if k = 15 then nB nums 0
  else rB refs 0 ++ (⟨#[32]⟩ : ByteArray) ++ nB nums 0

theorem joinS_eq (l : List ByteArray) (b : ByteArray) (h : Lib.join (l.map (·.data.toList)) [32] = b.data.toList) : joinS l (⟨#[32]⟩ : ByteArray) = b := by
  rw [← data_S b, ← h]; rfl
theorem len0 {α : Type} {l : List α} (h : l.length = 0) : l = [] := List.eq_nil_of_length_eq_zero h
theorem len1 {α : Type} {l : List α} (h : l.length = 1) : ∃ a, l = [a] := by
  match l, h with
  | [a], _ => exact ⟨a, rfl⟩
theorem len2 {α : Type} {l : List α} (h : l.length = 2) : ∃ a b, l = [a, b] := by
  match l, h with
  | [a, b], _ => exact ⟨a, b, rfl⟩
theorem len3 {α : Type} {l : List α} (h : l.length = 3) : ∃ a b c, l = [a, b, c] := by
  match l, h with
  | [a, b, c], _ => exact ⟨a, b, c, rfl⟩
theorem len4 {α : Type} {l : List α} (h : l.length = 4) : ∃ a b c d, l = [a, b, c, d] := by
  match l, h with
  | [a, b, c, d], _ => exact ⟨a, b, c, d, rfl⟩

theorem body_eq {k : Int} {f : Form} (hfm : form? k = some f) (nm : ByteArray) (refs : List ByteArray) (nums : List Int) (bY : Int) (al : Bool) (hv : validB k nm refs nums bY al = true) :
    joinS (wordsD k nm refs nums bY al) (⟨#[32]⟩ : ByteArray) = bodyB k nm refs nums bY al := by
  have hr : 0 ≤ k ∧ k < 17 := Classical.byContradiction fun hn => by rw [form_none hn] at hfm; cases hfm
  have hk : k = 0 ∨ k = 1 ∨ k = 2 ∨ k = 3 ∨ k = 4 ∨ k = 5 ∨ k = 6 ∨ k = 7 ∨ k = 8 ∨ k = 9 ∨ k = 10 ∨ k = 11 ∨ k = 12 ∨ k = 13 ∨ k = 14 ∨ k = 15 ∨ k = 16 := by omega
  rw [validB_form hfm] at hv
  simp only [Bool.and_eq_true, decide_eq_true_eq] at hv
  obtain ⟨⟨⟨⟨⟨⟨⟨h1, h2⟩, h3⟩, h4⟩, h5⟩, h6⟩, h7⟩, h8⟩ := hv
  apply joinS_eq
  rcases hk with rfl | rfl | rfl | rfl | rfl | rfl | rfl | rfl | rfl | rfl | rfl | rfl | rfl | rfl | rfl | rfl | rfl
  all_goals
    obtain rfl : _ = f := Option.some.inj hfm
    simp only at h1 h2 h3
    try (have hq : nums.length = 0 := (by omega); obtain rfl := len0 hq)
    try (have hq : nums.length = 1 := (by omega); obtain ⟨n0, rfl⟩ := len1 hq)
    try (have hq : nums.length = 2 := (by omega); obtain ⟨n0, n1, rfl⟩ := len2 hq)
    try (have hq : nums.length = 3 := (by omega); obtain ⟨n0, n1, n2, rfl⟩ := len3 hq)
    try (have hq : nums.length = 4 := (by omega); obtain ⟨n0, n1, n2, n3, rfl⟩ := len4 hq)
    try (have hq : refs.length = 0 := (by omega); obtain rfl := len0 hq)
    try (have hq : refs.length = 1 := (by omega); obtain ⟨r0, rfl⟩ := len1 hq)
    try (have hq : refs.length = 2 := (by omega); obtain ⟨r0, r1, rfl⟩ := len2 hq)
  all_goals simp [wordsD, bodyB, loadW, keepW, unitS, rB, nB, Lib.join_cons, Lib.joinTail, ByteArray.data_append, joinS, S]
  · cases al <;> simp [ByteArray.data_append]
  · simp only [Bool.and_eq_true, decide_eq_true_eq] at h4
    have hb : bY = 2 ∨ bY = 3 ∨ bY = 4 := by omega
    rcases hb with rfl | rfl | rfl <;> rfl
  done
end Go.Proofs.YtanhkeeifnimgaaDoor
