/- The condition 'laid' of the rows of chapter 17: what it gives the walks, and that a world meets it. Conditions: none. -/
import Derived.Test.YtanhkeeifnimgaaGreatDoorRows
import Derived.Test.YtanhkeeifnimgaaGreatDoorOpens
import Derived.Test.YtanhkeeifnimgaaGreatDoorSyn17i
import Derived.ProofKit
import Derived.LaidMore
import Derived.OpenShut
import Derived.Stop.Joined
import Derived.Stop.LaidErr
import Derived.Carry
namespace Go.Proofs.YtanhkeeifnimgaaGreatDoor
open Go Go.Proofs Go.RowKit Go.ChangeShapes Go.WideShapes Go.ChangeAt Go.WideMaps Go.WideElems

theorem own : ownKnob Tryz.prog.godebug = none := by kernel_rfl
theorem laidOut : laidOutB Tryz.prog = true := by kernel_rfl

def laid17 : List (String × DataW Unit) := [("math/bits.deBruijn32tab", Rows.laid_math_bits_deBruijn32tab), ("math/bits.deBruijn64tab", Rows.laid_math_bits_deBruijn64tab), ("internal/strconv.uint64pow10", Rows.laid_internal_strconv_uint64pow10), ("unicode.White_Space", Rows.laid_unicode_White_Space), ("strings.asciiSpace", Rows.laid_strings_asciiSpace)]

set_option maxRecDepth 100000 in
theorem door_met (os : Os) (args : Array Value) : laidMetH Tryz.prog laid17 ((World.doorLaid Tryz.prog 400 os).forCall (fun _ _ => 0) ⟨#[], args, []⟩).memory :=
  laidMetH_of_parts3 (fuel := 8) (laidMet_of_run' 8 (by kernel_rfl) (by kernel_rfl)) (by kernel_rfl) (by kernel_rfl)

theorem gAsc : Tryz.prog.globalNamed "strings.asciiSpace" = some 0 := by kernel_rfl
theorem gPow : Tryz.prog.globalNamed "internal/strconv.uint64pow10" = some 3 := by kernel_rfl

set_option maxRecDepth 100000 in
theorem asc_of_laid {W : World} (h : laidMet Tryz.prog laid17 W) : Asc W := by
  have h : laidMet Tryz.prog (("strings.asciiSpace", Lib.tabData .u8 Lib.asciiSpaceTab) :: []) W := (((h.tail).tail).tail).tail
  exact Lib.tabIs_of_head gAsc (t := 123) (by kernel_rfl) Tryz.underlying123 Tryz.underlying5 (by kernel_rfl) (by kernel_rfl) h
set_option maxRecDepth 100000 in
theorem pow_of_laid {W : World} (h : laidMet Tryz.prog laid17 W) : Pow W := by
  have h : laidMet Tryz.prog (("internal/strconv.uint64pow10", Lib.tabData .u64 Lib.pow10Tab) :: [("unicode.White_Space", Rows.laid_unicode_White_Space), ("strings.asciiSpace", Rows.laid_strings_asciiSpace)]) W := (h.tail).tail
  exact Lib.tabIs_of_head gPow (t := 152) (by kernel_rfl) Tryz.underlying152 Tryz.underlying134 (by kernel_rfl) (by kernel_rfl) h
theorem of_laid {W : World} (h : laidMetH Tryz.prog laid17 W) : Asc W ∧ Pow W := by
  rw [MakeChecks.laidMetH_plain _ _ _ (by kernel_rfl)] at h
  exact ⟨asc_of_laid h, pow_of_laid h⟩
end Go.Proofs.YtanhkeeifnimgaaGreatDoor
