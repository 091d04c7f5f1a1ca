/- An argument of the rows of chapter 17 that is one declaration, by value. Conditions: none. -/
import Derived.Test.YtanhkeeifnimgaaGreatDoorFr17b
namespace Go.Proofs.YtanhkeeifnimgaaGreatDoor
open Go Go.Proofs Go.RowKit Go.ChangeShapes Go.WideShapes Go.ChangeAt Go.WideMaps Go.WideElems

set_option maxRecDepth 100000 in
/-- a declaration that came in by value -/
theorem opens_decl {H : Type} {enc : TypeId × Value → H} {w : World} {r : Reach} {b0 : Nat} {held : Bool} {v : Value} {d : DataW H} {p : List MemPlace} (hv : Value.okWide Tryz.prog w r b0 25 v) (h : DataW.Trod enc Tryz.prog w 0 (fun _ => true) held 25 v d p) :
    ∃ (x : Decl) (ra : Option Addr) (rc : Nat) (na : Option Addr) (nc : Nat), v = .agg #[.int .i64 x.kind, .string x.name, .slice ra x.refs.length rc, .slice na x.nums.length nc, .int .i64 x.by_, .bool x.always] ∧ (x.refs.length ≤ rc ∧ x.nums.length ≤ nc) ∧ Strs w w.heap.size ra x.refs ∧ Ints w w.heap.size na x.nums ∧ Fine x ∧ FineI x := by
  obtain ⟨v0, v1, v2, v3, v4, v5, y0, y1, y2, y3, y4, y5, n, rfl, _, _, t0, t1, t2, t3, t4, t5⟩ := open_agg6 Tryz.underlying25 (by kernel_rfl) (by kernel_rfl) hv h
  obtain ⟨x, ra, rc, na, nc, hc, h1, h2, h3, h4, h5⟩ := decl_fields ⟨Tryz.underlying3, Tryz.underlying9, ⟨_, Tryz.underlying22, Tryz.underlying9, by kernel_rfl⟩, ⟨_, Tryz.underlying23, Tryz.underlying3, by kernel_rfl⟩, Tryz.underlying3, Tryz.underlying4⟩ t0 t1 t2 t3 t4 t5
  refine ⟨x, ra, rc, na, nc, ?_, h1, h2, h3, h4, h5⟩
  simp only [declCells, List.cons.injEq, and_true] at hc
  obtain ⟨rfl, rfl, rfl, rfl, rfl, rfl⟩ := hc
  rfl
end Go.Proofs.YtanhkeeifnimgaaGreatDoor
