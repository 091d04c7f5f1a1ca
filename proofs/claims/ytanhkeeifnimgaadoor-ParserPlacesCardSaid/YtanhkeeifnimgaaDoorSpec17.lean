/- Plain Lean: the declarations of chapter 17, their validity and their text. No program in sight. Conditions: none. -/
import Derived.Test.YtanhkeeifnimgaaDoorBase
namespace Go.Proofs.YtanhkeeifnimgaaDoor
open Go

theorem toList_beq (a b : ByteArray) : (a.toList == b.toList) = decide (a = b) := by
  rw [ByteArray.toList_eq, ByteArray.toList_eq, Bool.eq_iff_iff]
  simp [ByteArray.ext_iff]
theorem toList_beq_true {a b : ByteArray} (h : a = b) : (a.toList == b.toList) = true := by rw [toList_beq]; simpa
theorem toList_beq_false {a b : ByteArray} (h : ¬ a = b) : (a.toList == b.toList) = false := by rw [toList_beq]; simpa
theorem eq_of_toList {a b : ByteArray} (h : (a.toList == b.toList) = true) : a = b := by rw [toList_beq] at h; simpa using h
theorem ne_of_toList {a b : ByteArray} (h : (a.toList == b.toList) = false) : a ≠ b := by rw [toList_beq] at h; simpa using h

/-- the bytes of a list as a string -/
def S (l : List UInt8) : ByteArray := ⟨l.toArray⟩
theorem S_data (l : List UInt8) : (S l).data.toList = l := rfl
theorem data_S (s : ByteArray) : S s.data.toList = s := rfl
theorem S_inj {a b : List UInt8} (h : S a = S b) : a = b := by rw [← S_data a, ← S_data b, h]
theorem S_append (a b : List UInt8) : S (a ++ b) = S a ++ S b := by
  rw [ByteArray.ext_iff]; simp [S]

structure Decl where
  kind : Int
  name : ByteArray
  refs : List ByteArray
  nums : List Int
  by_ : Int
  always : Bool

def letterI (c : Int) : Bool := decide (97 ≤ c) && decide (c ≤ 122)
def digitI (c : Int) : Bool := decide (48 ≤ c) && decide (c ≤ 57)
def nameI (c : Int) : Bool := letterI c || digitI c || decide (c = 95)
def keywords : List ByteArray := [(⟨#[97, 108, 119, 97, 121, 115]⟩ : ByteArray), (⟨#[98, 101, 102, 111, 114, 101]⟩ : ByteArray), (⟨#[98, 121]⟩ : ByteArray), (⟨#[99, 97, 112, 97, 99, 105, 116, 121]⟩ : ByteArray), (⟨#[100, 97, 114, 107]⟩ : ByteArray), (⟨#[100, 105, 115, 116, 117, 114, 98]⟩ : ByteArray), (⟨#[102, 97, 105, 108, 117, 114, 101, 115]⟩ : ByteArray), (⟨#[102, 101, 101, 100]⟩ : ByteArray), (⟨#[103, 114, 111, 117, 112]⟩ : ByteArray), (⟨#[105, 110]⟩ : ByteArray), (⟨#[106, 111, 98]⟩ : ByteArray), (⟨#[107, 101, 101, 112]⟩ : ByteArray), (⟨#[108, 105, 110, 107]⟩ : ByteArray), (⟨#[108, 111, 97, 100]⟩ : ByteArray), (⟨#[109, 97, 99, 104, 105, 110, 101]⟩ : ByteArray), (⟨#[111, 110]⟩ : ByteArray), (⟨#[111, 110, 108, 121]⟩ : ByteArray), (⟨#[111, 114, 100, 101, 114]⟩ : ByteArray), (⟨#[112, 111, 111, 108]⟩ : ByteArray), (⟨#[113, 117, 111, 114, 117, 109]⟩ : ByteArray), (⟨#[114, 97, 99, 107]⟩ : ByteArray), (⟨#[114, 101, 115, 101, 114, 118, 101]⟩ : ByteArray), (⟨#[115, 104, 97, 114, 101]⟩ : ByteArray), (⟨#[115, 105, 108, 101, 110, 99, 101]⟩ : ByteArray), (⟨#[115, 105, 116, 101]⟩ : ByteArray), (⟨#[115, 105, 122, 101]⟩ : ByteArray), (⟨#[115, 108, 111, 116, 115]⟩ : ByteArray), (⟨#[115, 112, 114, 101, 97, 100]⟩ : ByteArray)]
def hasS (l : List ByteArray) (s : ByteArray) : Bool := l.any (fun x => decide (x = s))
theorem hasS_iff {l : List ByteArray} {s : ByteArray} : hasS l s = true ↔ s ∈ l := by simp [hasS]
def isName (s : ByteArray) : Bool :=
  decide (1 ≤ s.size) && decide (s.size ≤ 31) && letterI (s.data.toList.getD 0 0).toNat && !hasS keywords s && s.data.toList.all (fun c => nameI c.toNat)

/-- the form of a kind: its word, whether it has a name, the least and greatest number of references, the number of numbers, whether By may be v, whether Always may be set -/
structure Form where
  word : ByteArray
  name : Bool
  least : Nat
  most : Nat
  numbers : Nat
  by_ : Int → Bool
  always : Bool
def zeroI (n : Int) : Bool := decide (n = 0)
def form? (k : Int) : Option Form :=
  if k = 0 then some ⟨(⟨#[115, 105, 116, 101]⟩ : ByteArray), true, 0, 0, 0, zeroI, false⟩
  else if k = 1 then some ⟨(⟨#[102, 101, 101, 100]⟩ : ByteArray), true, 0, 0, 0, zeroI, false⟩
  else if k = 2 then some ⟨(⟨#[114, 97, 99, 107]⟩ : ByteArray), true, 2, 2, 0, zeroI, false⟩
  else if k = 3 then some ⟨(⟨#[109, 97, 99, 104, 105, 110, 101]⟩ : ByteArray), true, 1, 1, 1, zeroI, false⟩
  else if k = 4 then some ⟨(⟨#[108, 105, 110, 107]⟩ : ByteArray), false, 2, 2, 1, zeroI, false⟩
  else if k = 5 then some ⟨(⟨#[103, 114, 111, 117, 112]⟩ : ByteArray), true, 1, 16, 3, zeroI, false⟩
  else if k = 6 then some ⟨(⟨#[112, 111, 111, 108]⟩ : ByteArray), true, 1, 16, 4, zeroI, false⟩
  else if k = 7 then some ⟨(⟨#[106, 111, 98]⟩ : ByteArray), true, 1, 1, 3, zeroI, false⟩
  else if k = 8 then some ⟨(⟨#[100, 97, 114, 107]⟩ : ByteArray), false, 1, 1, 2, zeroI, false⟩
  else if k = 9 then some ⟨(⟨#[102, 97, 105, 108, 117, 114, 101, 115]⟩ : ByteArray), false, 0, 0, 0, fun n => decide (1 ≤ n) && decide (n ≤ 7), false⟩
  else if k = 10 then some ⟨(⟨#[113, 117, 111, 114, 117, 109]⟩ : ByteArray), false, 1, 1, 0, zeroI, false⟩
  else if k = 11 then some ⟨(⟨#[107, 101, 101, 112]⟩ : ByteArray), false, 1, 1, 1, zeroI, true⟩
  else if k = 12 then some ⟨(⟨#[115, 112, 114, 101, 97, 100]⟩ : ByteArray), false, 1, 1, 1, fun n => decide (2 ≤ n) && decide (n ≤ 4), false⟩
  else if k = 13 then some ⟨(⟨#[111, 110, 108, 121]⟩ : ByteArray), false, 2, 17, 0, zeroI, false⟩
  else if k = 14 then some ⟨(⟨#[111, 114, 100, 101, 114]⟩ : ByteArray), false, 2, 2, 0, zeroI, false⟩
  else if k = 15 then some ⟨(⟨#[100, 105, 115, 116, 117, 114, 98]⟩ : ByteArray), false, 0, 0, 1, zeroI, false⟩
  else if k = 16 then some ⟨(⟨#[115, 105, 108, 101, 110, 99, 101]⟩ : ByteArray), false, 1, 1, 1, zeroI, false⟩
  else none
def kindName (k : Int) : ByteArray := match form? k with | some f => f.word | none => ⟨#[]⟩
def fits (f : Form) (d : Decl) : Bool :=
  (f.name == decide (d.name ≠ ⟨#[]⟩)) && decide (f.least ≤ d.refs.length) && decide (d.refs.length ≤ f.most) && decide (d.nums.length = f.numbers) && f.by_ d.by_ && (f.always || !d.always)
def shaped (d : Decl) : Bool := match form? d.kind with | some f => fits f d | none => false
def numOk (n : Int) : Bool := decide (0 ≤ n) && decide (n ≤ 1048576)
def validD (d : Decl) : Bool := shaped d && (decide (d.name = ⟨#[]⟩) || isName d.name) && d.refs.all isName && d.nums.all numOk

theorem nameI_false {c : Int} (h : nameI c = false) : letterI c = false ∧ digitI c = false ∧ (c != 95) = true := by
  simp [nameI] at h; obtain ⟨⟨a, b⟩, d⟩ := h; exact ⟨a, b, by simpa using d⟩
theorem nameI_true {c : Int} (h : nameI c = true) : letterI c = true ∨ (letterI c = false ∧ digitI c = true) ∨ (letterI c = false ∧ digitI c = false ∧ (c != 95) = false) := by
  cases h1 : letterI c <;> cases h2 : digitI c <;> simp_all [nameI]
theorem getD_zero (s : ByteArray) (h : 0 < s.size) : s.data.toList.getD 0 0 = s[0] := by
  rw [List.getD_eq_getElem?_getD, List.getElem?_eq_getElem (by simpa using h)]; rfl
theorem all_iff (s : ByteArray) (p : UInt8 → Bool) : s.data.toList.all p = true ↔ ∀ j (h : j < s.size), p s[j] = true := by
  rw [List.all_eq_true]
  constructor
  · intro h j hj
    exact h _ (by have : s[j] = s.data.toList[j]'(by simpa using hj) := rfl
                  rw [this]; exact List.getElem_mem _)
  · intro h x hx
    obtain ⟨j, hj, rfl⟩ := List.getElem_of_mem hx
    exact h j (by simpa using hj)
theorem isName_true {s : ByteArray} (h1 : 1 ≤ s.size) (h2 : s.size ≤ 31) (h3 : letterI s[0].toNat = true) (h4 : hasS keywords s = false)
    (h5 : ∀ j (h : j < s.size), nameI s[j].toNat = true) : isName s = true := by
  unfold isName
  rw [getD_zero s h1, h3, h4, (all_iff s (fun c => nameI c.toNat)).2 h5]
  simp [h1, h2]
theorem isName_first {s : ByteArray} (h1 : 1 ≤ s.size) (h3 : letterI s[0].toNat = false) : isName s = false := by
  unfold isName
  rw [getD_zero s h1, h3]
  simp
theorem isName_key {s : ByteArray} (h : hasS keywords s = true) : isName s = false := by
  unfold isName
  rw [h]; simp
theorem isName_at {s : ByteArray} {j : Nat} (h : j < s.size) (hj : nameI s[j].toNat = false) : isName s = false := by
  unfold isName
  have : s.data.toList.all (fun c => nameI c.toNat) = false := by
    rw [Bool.eq_false_iff, Ne, all_iff s (fun c => nameI c.toNat)]
    intro h'; rw [h' j h] at hj; cases hj
  rw [this]; simp
theorem isName_short {s : ByteArray} (h : s.size < 1) : isName s = false := by simp [isName]; omega
theorem isName_long {s : ByteArray} (h : 31 < s.size) : isName s = false := by simp [isName]; omega
end Go.Proofs.YtanhkeeifnimgaaDoor
