/- The condition 'laid' of the rows of chapter 17: what it gives the walks, and that a world meets it. Conditions: none. Arguments of the rows of chapter 17: what a list of declarations is, and that arguments stay. Conditions: none. An argument of the rows of chapter 17 that is one declaration, by value. Conditions: none. -/
import Derived.Test.YtanhkeeifnimgaaDoorRows
import Derived.Test.YtanhkeeifnimgaaDoorOpens
import Derived.Test.YtanhkeeifnimgaaDoorSyn17i
import Derived.ProofKit
import Derived.LaidMore
import Derived.OpenShut
import Derived.Stop.Joined
import Derived.Stop.LaidErr
import Derived.Carry

namespace Go.Proofs.YtanhkeeifnimgaaDoor
open Go Go.Proofs Go.RowKit Go.ChangeShapes Go.WideShapes Go.ChangeAt Go.WideMaps Go.WideElems

theorem own : ownKnob Tryd.prog.godebug = none := by kernel_rfl
theorem laidOut : laidOutB Tryd.prog = true := by kernel_rfl

def laid17 : List (String × DataW Unit) := [("math/bits.deBruijn32tab", Rows.laid_math_bits_deBruijn32tab), ("math/bits.deBruijn64tab", Rows.laid_math_bits_deBruijn64tab), ("internal/strconv.uint64pow10", Rows.laid_internal_strconv_uint64pow10), ("unicode.White_Space", Rows.laid_unicode_White_Space), ("strings.asciiSpace", Rows.laid_strings_asciiSpace)]

set_option maxRecDepth 100000 in
theorem door_met (os : Os) (args : Array Value) : laidMetH Tryd.prog laid17 ((World.doorLaid Tryd.prog 400 os).forCall (fun _ _ => 0) ⟨#[], args, []⟩).memory :=
  laidMetH_of_parts3 (fuel := 8) (laidMet_of_run' 8 (by kernel_rfl) (by kernel_rfl)) (by kernel_rfl) (by kernel_rfl)

theorem gAsc : Tryd.prog.globalNamed "strings.asciiSpace" = some 0 := by kernel_rfl
theorem gPow : Tryd.prog.globalNamed "internal/strconv.uint64pow10" = some 3 := by kernel_rfl

set_option maxRecDepth 100000 in
theorem asc_of_laid {W : World} (h : laidMet Tryd.prog laid17 W) : Asc W := by
  have h : laidMet Tryd.prog (("strings.asciiSpace", Lib.tabData .u8 Lib.asciiSpaceTab) :: []) W := (((h.tail).tail).tail).tail
  exact Lib.tabIs_of_head gAsc (t := 122) (by kernel_rfl) Tryd.underlying122 Tryd.underlying5 (by kernel_rfl) (by kernel_rfl) h
set_option maxRecDepth 100000 in
theorem pow_of_laid {W : World} (h : laidMet Tryd.prog laid17 W) : Pow W := by
  have h : laidMet Tryd.prog (("internal/strconv.uint64pow10", Lib.tabData .u64 Lib.pow10Tab) :: [("unicode.White_Space", Rows.laid_unicode_White_Space), ("strings.asciiSpace", Rows.laid_strings_asciiSpace)]) W := (h.tail).tail
  exact Lib.tabIs_of_head gPow (t := 155) (by kernel_rfl) Tryd.underlying155 Tryd.underlying137 (by kernel_rfl) (by kernel_rfl) h
theorem of_laid {W : World} (h : laidMetH Tryd.prog laid17 W) : Asc W ∧ Pow W := by
  rw [MakeChecks.laidMetH_plain _ _ _ (by kernel_rfl)] at h
  exact ⟨asc_of_laid h, pow_of_laid h⟩
end Go.Proofs.YtanhkeeifnimgaaDoor

namespace Go.Proofs.YtanhkeeifnimgaaDoor
open Go Go.Proofs Go.RowKit Go.ChangeShapes Go.WideShapes Go.ChangeAt Go.WideMaps Go.WideElems

set_option maxRecDepth 100000 in
/-- a list of declarations that came in -/
theorem opens_decls {H : Type} {enc : TypeId × Value → H} {w : World} {r : Reach} {b0 : Nat} {held : Bool} {v : Value} {d : DataW H} {p : List MemPlace} (hv : Value.okWide Tryd.prog w r b0 23 v) (h : DataW.Trod enc Tryd.prog w 0 (fun _ => true) held 23 v d p) :
    ∃ (A : Option Addr) (c : Nat) (l : List Decl), v = .slice A l.length c ∧ l.length ≤ c ∧ c ≤ maxLen ∧ Decls w w.heap.size A l ∧ ∀ x ∈ l, FineI x :=
  decls_open Tryd.underlying23 Tryd.underlying38 (by kernel_rfl) (by kernel_rfl) ⟨Tryd.underlying3, Tryd.underlying9, ⟨_, Tryd.underlying35, Tryd.underlying9, by kernel_rfl⟩, ⟨_, Tryd.underlying36, Tryd.underlying3, by kernel_rfl⟩, Tryd.underlying3, Tryd.underlying4⟩ hv h

/-- an argument that came in reads as it did, where old blocks have stayed -/
theorem arg_stays {H : Type} {enc : TypeId × Value → H} {W W' : World} {t : TypeId} {v : Value} {d : DataW H} {ps : List MemPlace} (hr : Tryd.prog.readableRec t = true) (hrow : t < Tryd.prog.types.size)
    (h : DataW.Trod enc Tryd.prog W 0 (fun _ => true) true t v d ps) (hb : Below W.heap.size W W') (hlt : ∀ x ∈ ps, x.block < W.heap.size) {sp : Nat → Bool} (hsp : ∀ x ∈ ps, sp x.block = true) : DataW.Trod enc Tryd.prog W' 0 sp true t v d ps :=
  WideElems.Trod_stays laidOut hr hrow h (fun x hx => hb.same (hlt x hx)) hsp
end Go.Proofs.YtanhkeeifnimgaaDoor

namespace Go.Proofs.YtanhkeeifnimgaaDoor
open Go Go.Proofs Go.RowKit Go.ChangeShapes Go.WideShapes Go.ChangeAt Go.WideMaps Go.WideElems

set_option maxRecDepth 100000 in
/-- a declaration that came in by value -/
theorem opens_decl {H : Type} {enc : TypeId × Value → H} {w : World} {r : Reach} {b0 : Nat} {held : Bool} {v : Value} {d : DataW H} {p : List MemPlace} (hv : Value.okWide Tryd.prog w r b0 38 v) (h : DataW.Trod enc Tryd.prog w 0 (fun _ => true) held 38 v d p) :
    ∃ (x : Decl) (ra : Option Addr) (rc : Nat) (na : Option Addr) (nc : Nat), v = .agg #[.int .i64 x.kind, .string x.name, .slice ra x.refs.length rc, .slice na x.nums.length nc, .int .i64 x.by_, .bool x.always] ∧ (x.refs.length ≤ rc ∧ x.nums.length ≤ nc) ∧ Strs w w.heap.size ra x.refs ∧ Ints w w.heap.size na x.nums ∧ Fine x ∧ FineI x := by
  obtain ⟨v0, v1, v2, v3, v4, v5, y0, y1, y2, y3, y4, y5, n, rfl, _, _, t0, t1, t2, t3, t4, t5⟩ := open_agg6 Tryd.underlying38 (by kernel_rfl) (by kernel_rfl) hv h
  obtain ⟨x, ra, rc, na, nc, hc, h1, h2, h3, h4, h5⟩ := decl_fields ⟨Tryd.underlying3, Tryd.underlying9, ⟨_, Tryd.underlying35, Tryd.underlying9, by kernel_rfl⟩, ⟨_, Tryd.underlying36, Tryd.underlying3, by kernel_rfl⟩, Tryd.underlying3, Tryd.underlying4⟩ t0 t1 t2 t3 t4 t5
  refine ⟨x, ra, rc, na, nc, ?_, h1, h2, h3, h4, h5⟩
  simp only [declCells, List.cons.injEq, and_true] at hc
  obtain ⟨rfl, rfl, rfl, rfl, rfl, rfl⟩ := hc
  rfl
end Go.Proofs.YtanhkeeifnimgaaDoor
