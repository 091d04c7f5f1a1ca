/- A part of the claim: see its last text. -/
import Derived.Test.YtcfogipaadhbeaaGreatDoorUK16

set_option maxRecDepth 100000
set_option maxHeartbeats 16000000
namespace Go.Proofs.YtcfogipaadhbeaaGreatDoor
open Go Go.RowKit Go.Proofs
theorem isEmpty_iff (s : ByteArray) : s.toList.isEmpty = true ↔ s.size = 0 := by
 rw [ByteArray.toList_eq, List.isEmpty_iff_length_eq_zero, Array.length_toList]; rfl
theorem validB_none {k : Int} (h : form? k = none) (nm : ByteArray) (refs : List ByteArray) (nums : List Int) (bY : Int) (al : Bool) : validB k nm refs nums bY al = false := by
 have hk : ¬ (0 ≤ k ∧ k < 17) := by
  intro hk
  have : k = 0 ∨ k = 1 ∨ k = 2 ∨ k = 3 ∨ k = 4 ∨ k = 5 ∨ k = 6 ∨ k = 7 ∨ k = 8 ∨ k = 9 ∨ k = 10 ∨ k = 11 ∨ k = 12 ∨ k = 13 ∨ k = 14 ∨ k = 15 ∨ k = 16 := by omega
  rcases this with rfl | rfl | rfl | rfl | rfl | rfl | rfl | rfl | rfl | rfl | rfl | rfl | rfl | rfl | rfl | rfl | rfl <;> cases h
 have : shapeB k nm refs.length nums.length bY al = false := by
  unfold shapeB
  rw [if_neg (by omega)]
  repeat rw [if_neg (by omega)]
 simp [validB, this]
theorem nameOk_eq (b : Bool) (nm : ByteArray) : ((b == !nm.toList.isEmpty) && (nm.toList.isEmpty || isName nm)) = if b then isName nm else nm.toList.isEmpty := by
 cases b
 · cases nm.toList.isEmpty <;> simp
 · cases h : nm.toList.isEmpty
   · simp
   · have := (isEmpty_iff nm).1 h
     simp [isName_short (s := nm) (by omega)]
theorem shapeB_form {k : Int} {f : Form} (h : form? k = some f) (nm : ByteArray) (rn nn : Nat) (bY : Int) (al : Bool) :
    shapeB k nm rn nn bY al = ((f.name == !nm.toList.isEmpty) && decide ((f.least : Int) ≤ (rn : Int)) && decide ((rn : Int) ≤ (f.most : Int)) && decide ((nn : Int) = (f.numbers : Int)) && f.by_ bY && (f.always || !al)) := by
 have hr : 0 ≤ k ∧ k < 17 := Classical.byContradiction fun hn => by rw [form_none hn] at h; cases h
 have : k = 0 ∨ k = 1 ∨ k = 2 ∨ k = 3 ∨ k = 4 ∨ k = 5 ∨ k = 6 ∨ k = 7 ∨ k = 8 ∨ k = 9 ∨ k = 10 ∨ k = 11 ∨ k = 12 ∨ k = 13 ∨ k = 14 ∨ k = 15 ∨ k = 16 := by omega
 rcases this with rfl | rfl | rfl | rfl | rfl | rfl | rfl | rfl | rfl | rfl | rfl | rfl | rfl | rfl | rfl | rfl | rfl
 all_goals
  obtain rfl : _ = f := Option.some.inj h
  rw [Bool.eq_iff_iff]
  simp [shapeB, formB, zeroI]
  try grind
theorem validB_form {k : Int} {f : Form} (h : form? k = some f) (nm : ByteArray) (refs : List ByteArray) (nums : List Int) (bY : Int) (al : Bool) :
    validB k nm refs nums bY al = (decide ((f.least : Int) ≤ (refs.length : Int)) && decide ((refs.length : Int) ≤ (f.most : Int)) && decide ((nums.length : Int) = (f.numbers : Int)) && f.by_ bY && (f.always || !al) && (if f.name then isName nm else nm.toList.isEmpty) && refs.all isName && nums.all numOk) := by
 have := nameOk_eq f.name nm
 rw [validB, shapeB_form h, ← this]
 generalize (f.name == !nm.toList.isEmpty) = a
 generalize (nm.toList.isEmpty || isName nm) = b
 generalize (f.always || !al) = c
 cases a <;> cases b <;> cases c <;> simp
end Go.Proofs.YtcfogipaadhbeaaGreatDoor
