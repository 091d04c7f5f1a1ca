/- The condition 'laid' of the rows of chapter 18 that print nothing: what it gives the walks, and that a world meets it. Conditions: none. -/
import Derived.Test.YtanhkeeifnimgaaDoorFr17c
namespace Go.Proofs.YtanhkeeifnimgaaDoor
open Go Go.Proofs Go.RowKit Go.ChangeShapes Go.WideShapes Go.ChangeAt Go.WideMaps Go.WideElems

def laid18 : List (String × DataW Unit) := [("unicode.White_Space", Rows.laid_unicode_White_Space), ("strings.asciiSpace", Rows.laid_strings_asciiSpace)]
set_option maxRecDepth 100000 in
theorem door_met18 (os : Os) (args : Array Value) : laidMetH Tryd.prog laid18 ((World.doorLaid Tryd.prog 400 os).forCall (fun _ _ => 0) ⟨#[], args, []⟩).memory :=
  laidMetH_of_parts3 (fuel := 8) (laidMet_of_run' 8 (by kernel_rfl) (by kernel_rfl)) (by kernel_rfl) (by kernel_rfl)
set_option maxRecDepth 100000 in
theorem asc_of_laid18 {W : World} (h : laidMet Tryd.prog laid18 W) : Asc W := by
  have h : laidMet Tryd.prog (("strings.asciiSpace", Lib.tabData .u8 Lib.asciiSpaceTab) :: []) W := h.tail
  exact Lib.tabIs_of_head gAsc (t := 122) (by kernel_rfl) Tryd.underlying122 Tryd.underlying5 (by kernel_rfl) (by kernel_rfl) h
theorem of_laid18 {W : World} (h : laidMetH Tryd.prog laid18 W) : Asc W := by
  rw [MakeChecks.laidMetH_plain _ _ _ (by kernel_rfl)] at h
  exact asc_of_laid18 h
end Go.Proofs.YtanhkeeifnimgaaDoor
