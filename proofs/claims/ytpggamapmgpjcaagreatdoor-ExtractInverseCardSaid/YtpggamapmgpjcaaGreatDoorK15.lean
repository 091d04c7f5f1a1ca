/- Plain Lean: numbers of units in domains; failures that are declared, in the order of a loop. Conditions: none. -/
import Derived.Test.YtpggamapmgpjcaaGreatDoorK02

namespace Go.Proofs.YtpggamapmgpjcaaGreatDoor
open Go

theorem domI_range (m : Mod) (by_ mc : Int) : domI m by_ mc = 0 ∨ (1 ≤ domI m by_ mc ∧ domI m by_ mc ≤ domsI m by_) := by
  unfold domI
  split
  · rename_i h
    simp only [exI, Bool.and_eq_true, decide_eq_true_eq] at h
    exact .inr h.2
  · exact .inl rfl
theorem domsI_nonneg (m : Mod) (by_ : Int) : 0 ≤ domsI m by_ := by
  unfold domsI
  repeat' split
  all_goals omega
def spreadL (m : Mod) (by_ : Int) (l : List Int) : List Int :=
  (List.range (domsI m by_).toNat).map fun (d : Nat) => ((l.filter fun k => decide (domI m by_ k = (d : Int) + 1)).length : Int)
theorem spreadP_eq (m : Mod) (p : PlaceM) (item by_ : Int) : spreadP m p item by_ = spreadL m by_ (machinesP p item 0) := rfl
theorem spreadL_len (m : Mod) (by_ : Int) (l : List Int) : (spreadL m by_ l).length = (domsI m by_).toNat := by simp [spreadL]
theorem spreadL_nil (m : Mod) (by_ : Int) : spreadL m by_ [] = List.replicate (domsI m by_).toNat 0 := by
  unfold spreadL
  apply List.ext_getElem <;> simp
theorem spreadL_no (m : Mod) (by_ : Int) (l : List Int) {x : Int} (h : domI m by_ x < 1) : spreadL m by_ (l ++ [x]) = spreadL m by_ l := by
  unfold spreadL
  apply List.map_congr_left
  intro d _
  rw [List.filter_append]
  have : decide (domI m by_ x = (d : Int) + 1) = false := by simp; omega
  simp [this]
theorem spreadL_yes (m : Mod) (by_ : Int) (l : List Int) {x : Int} {d : Nat} (h : domI m by_ x = (d : Int) + 1) (hd : d < (spreadL m by_ l).length) : spreadL m by_ (l ++ [x]) = (spreadL m by_ l).set d ((spreadL m by_ l)[d] + 1) := by
  apply List.ext_getElem
  · simp [spreadL]
  · intro i h1 h2
    rw [List.getElem_set]
    split
    · rename_i e
      subst e
      simp [spreadL, List.filter_append, h]
    · rename_i e
      have : decide (domI m by_ x = (i : Int) + 1) = false := by simp; omega
      simp [spreadL, List.filter_append, this]
theorem spreadL_le (m : Mod) (by_ : Int) (l : List Int) {d : Nat} (hd : d < (spreadL m by_ l).length) : 0 ≤ (spreadL m by_ l)[d] ∧ (spreadL m by_ l)[d] ≤ l.length := by
  simp only [spreadL, List.getElem_map, List.getElem_range]
  have := List.length_filter_le (fun k => decide (domI m by_ k = (d : Int) + 1)) l
  omega
theorem machinesP_len (p : PlaceM) (item st : Int) : (machinesP p item st).length ≤ (unitsP p item).length := by
  unfold machinesP
  rw [List.length_map]
  exact List.length_filter_le _ _
theorem survP_len (m : Mod) (p : PlaceM) (f : Int × Int) (item : Int) : (survP m p f item).length ≤ (machinesP p item 0).length := List.length_filter_le _ _
theorem failsOf_len (m : Mod) (bit by_ : Int) : (failsOf m bit by_).length ≤ (domsI m by_).toNat := by
  unfold failsOf
  split <;> simp
end Go.Proofs.YtpggamapmgpjcaaGreatDoor
