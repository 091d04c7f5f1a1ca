/- The walks of syntax.Text and KindName. Conditions: lengths that fit memory; the tables are laid. -/
import Derived.Test.YtanhkeeifnimgaaGreatDoorSyn17o
import Derived.Test.YtanhkeeifnimgaaGreatDoorSyn17h
import Derived.Lib.ItoaLen
namespace Go.Proofs.YtanhkeeifnimgaaGreatDoor
open Go Go.RowKit Go.Proofs

def Small (l : List ByteArray) : Prop := l.length ≤ 40 ∧ ∀ x ∈ l, x.size ≤ 1000
theorem itoaS_small {n : Int} (h : numOk n = true) : (itoaS n).size ≤ 1000 := by
  simp only [numOk, Bool.and_eq_true, decide_eq_true_eq] at h
  have := Lib.itoa_length_le n (by omega) (by omega)
  show (Lib.itoa n).toArray.size ≤ 1000
  simp; omega
theorem joinS_small {l : List ByteArray} (h : l.all isName = true) (hl : l.length ≤ 17) : (joinS l (⟨#[44, 32]⟩ : ByteArray)).size ≤ 1000 := by
  have := join_len [44, 32] (l.map (·.data.toList)) 31 (by
    intro x hx
    obtain ⟨s, hs, rfl⟩ := List.mem_map.1 hx
    have := isName_size (List.all_eq_true.1 h s hs)
    simpa using this)
  have h2 : (l.map (·.data.toList)).length * (31 + 2) ≤ 17 * 33 := Nat.mul_le_mul (by simpa using hl) (by omega)
  show (Lib.join (l.map (·.data.toList)) [44, 32]).toArray.size ≤ 1000
  simp at this h2 ⊢; omega
theorem name_small {s : ByteArray} (h : isName s = true) : s.size ≤ 1000 := by have := isName_size h; omega
theorem ref_small {refs : List ByteArray} (h : refs.all isName = true) (i : Nat) : (refs.getD i ByteArray.empty).size ≤ 1000 := by
  by_cases hi : i < refs.length
  · have : refs.getD i ByteArray.empty = refs[i] := by simp [hi]
    rw [this]; exact name_small (List.all_eq_true.1 h _ (List.getElem_mem _))
  · have : refs.getD i ByteArray.empty = ByteArray.empty := by simp [List.getElem?_eq_none (Nat.le_of_not_lt hi)]
    rw [this]; decide
theorem num_small {nums : List Int} (h : nums.all numOk = true) (i : Nat) : (itoaS (nums.getD i 0)).size ≤ 1000 := by
  by_cases hi : i < nums.length
  · exact itoaS_small (numAt h hi)
  · have : nums.getD i 0 = 0 := by simp [List.getElem?_eq_none (Nat.le_of_not_lt hi)]
    rw [this]; exact itoaS_small (by decide)
theorem plain_small {refs : List ByteArray} {nums : List Int} (h : refs.all isName = true) (h2 : nums.all numOk = true) : ∀ x ∈ refs ++ nums.map itoaS, x.size ≤ 1000 := by
  intro x hx
  rcases List.mem_append.1 hx with hx | hx
  · exact name_small (List.all_eq_true.1 h _ hx)
  · obtain ⟨n, hn, rfl⟩ := List.mem_map.1 hx
    exact itoaS_small (List.all_eq_true.1 h2 _ hn)
theorem words_small {k : Int} {f : Form} (hfm : form? k = some f) {nm : ByteArray} {refs : List ByteArray} {nums : List Int} {bY : Int} {al : Bool} (hv : validB k nm refs nums bY al = true) : Small (wordsD k nm refs nums bY al) := by
  have hr : 0 ≤ k ∧ k < 17 := Classical.byContradiction fun hn => by rw [form_none hn] at hfm; cases hfm
  have hk : k = 0 ∨ k = 1 ∨ k = 2 ∨ k = 3 ∨ k = 4 ∨ k = 5 ∨ k = 6 ∨ k = 7 ∨ k = 8 ∨ k = 9 ∨ k = 10 ∨ k = 11 ∨ k = 12 ∨ k = 13 ∨ k = 14 ∨ k = 15 ∨ k = 16 := by omega
  rw [validB_form hfm] at hv
  simp only [Bool.and_eq_true, decide_eq_true_eq] at hv
  obtain ⟨⟨⟨⟨⟨⟨⟨v1, v2⟩, v3⟩, v4⟩, v5⟩, v6⟩, v7⟩, v8⟩ := hv
  have hnm : nm.size ≤ 1000 := by
    revert v6
    split
    · exact fun h => name_small h
    · intro h; have := (isEmpty_iff nm).1 h; omega
  have n0 := num_small v8 0
  have n1 := num_small v8 1
  have n2 := num_small v8 2
  have n3 := num_small v8 3
  have r0 := ref_small v7 0
  have r1 := ref_small v7 1
  have hp := plain_small v7 v8
  have hdw : ∀ b : Int, (domW b).size ≤ 1000 := fun b => by
    unfold domW; repeat' split
    all_goals decide
  have hcl : ∀ b : Nat, b ≤ 7 → (joinS (clsW b) (⟨#[44, 32]⟩ : ByteArray)).size ≤ 1000 := by decide +kernel
  have hw : ∀ x ∈ [(⟨#[108, 111, 97, 100]⟩ : ByteArray), (⟨#[115, 105, 122, 101]⟩ : ByteArray), (⟨#[115, 104, 97, 114, 101]⟩ : ByteArray), (⟨#[105, 110]⟩ : ByteArray), (⟨#[111, 110]⟩ : ByteArray), (⟨#[99, 97, 112, 97, 99, 105, 116, 121]⟩ : ByteArray), (⟨#[115, 108, 111, 116, 115]⟩ : ByteArray), (⟨#[114, 101, 115, 101, 114, 118, 101]⟩ : ByteArray), (⟨#[98, 121]⟩ : ByteArray), (⟨#[98, 101, 102, 111, 114, 101]⟩ : ByteArray), (⟨#[97, 108, 119, 97, 121, 115]⟩ : ByteArray)], x.size ≤ 1000 := by decide
  clear v5 v6
  rcases hk with rfl | rfl | rfl | rfl | rfl | rfl | rfl | rfl | rfl | rfl | rfl | rfl | rfl | rfl | rfl | rfl | rfl
  all_goals
    obtain rfl : _ = f := Option.some.inj hfm
    clear hfm
    simp only [] at v1 v2 v3
    have hj := joinS_small v7 (by omega)
    have hj2 := joinS_small (names_tail v7) (by simp; omega)
    refine ⟨?_, ?_⟩
    · simp [wordsD, loadW, keepW] <;> first | omega | (cases al <;> simp <;> omega)
    · intro x hx
      simp [wordsD, loadW, keepW] at hx
      simp only [List.getD_eq_getElem?_getD] at n0 n1 n2 n3 r0 r1
      simp only [List.mem_cons, List.not_mem_nil, or_false, forall_eq_or_imp, forall_eq] at hw
      have hd := hdw bY
      have hp' : ∀ n ∈ nums, (itoaS n).size ≤ 1000 := fun n hn => itoaS_small (List.all_eq_true.1 v8 n hn)
      have hq' : ∀ s ∈ refs, s.size ≤ 1000 := fun s hs => name_small (List.all_eq_true.1 v7 s hs)
      clear hdw hp
      first
        | (simp only [Bool.and_eq_true, decide_eq_true_eq] at v4
           subst hx
           exact hcl bY.toNat (by omega))
        | grind
end Go.Proofs.YtanhkeeifnimgaaGreatDoor
