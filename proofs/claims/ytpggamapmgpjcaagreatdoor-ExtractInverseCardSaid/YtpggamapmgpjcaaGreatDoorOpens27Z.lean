/- Points and plans that came in, opened to cells. Conditions: none. -/
import Derived.Test.YtpggamapmgpjcaaGreatDoorOpens14Z
import Derived.Test.YtpggamapmgpjcaaGreatDoorK10
import Derived.Carry

namespace Go.Proofs.YtpggamapmgpjcaaGreatDoor
open Go Go.Proofs Go.RowKit Go.Joins Go.ChangeShapes Go.WideShapes Go.Deep

def relSt27 : RelK StM := ⟨fun _ _ x vs => vs = [.int .i64 x.1, .int .i64 x.2.1, .int .i64 x.2.2.1, .int .i64 x.2.2.2], fun h _ => h, fun h _ => h⟩
theorem rd_of_rows {w : World} {A : Option Addr} {l : List StM} (h : Rows relSt27 4 w w.heap.size A l) : RdE elSt w A l := fun k hk => by
  obtain ⟨b, off, vs, e, hb, _, hR, hc⟩ := h k hk
  have hR : vs = [.int .i64 l[k].1, .int .i64 l[k].2.1, .int .i64 l[k].2.2.1, .int .i64 l[k].2.2.2] := hR
  subst hR
  exact ⟨b, off, e, hb, fun j u hu => hc j u hu⟩
section
variable {H : Type} {enc : TypeId × Value → H} {P : Program} {w : World} {held : Bool}
theorem parts27 {base : Nat} {spare : Nat → Bool} {fs : Array Field} {e : TypeId} {n : Nat} {cs : List Value} {y : DataW H × List MemPlace} (he : P.underlying e = some (.struct fs))
    (h : DataW.trod enc P w base spare held n e cs = some y) : ∀ (j : Nat) (f : Field), fs[j]? = some f → ∃ (n' : Nat) (y' : DataW H × List MemPlace), DataW.trod enc P w base spare held n' f.type ((cs.drop f.offset).take (P.cellsOf f.type)) = some y' := by
  intro j f hj
  obtain ⟨ys, n', _, _, _, hyl, hf⟩ := DataW.trod_struct he h
  have hjl : j < fs.size := (Array.getElem?_eq_some_iff.1 hj).1
  exact ⟨_, _, (hf j f hj).trans (List.getElem?_eq_getElem (by omega))⟩
theorem cInt27 : Tryz.prog.cellsOf 3 = 1 := by kernel_rfl
theorem cMove27 : Tryz.prog.cellsOf 51 = 3 := by kernel_rfl
set_option maxRecDepth 100000 in
theorem each_st27 (n : Nat) (cs : List Value) (y : DataW H × List MemPlace) (hl : cs.length = 4) (h : DataW.trod enc Tryz.prog w 0 (fun _ => true) held n 53 cs = some y) : ∃ x : StM, relSt27.R w w.heap.size x cs ∧ True := by
  match cs, hl with
  | [c0, c1, c2, c3], hl =>
    have g := parts27 Tryz.underlying53 h
    obtain ⟨_, _, t0⟩ := g 0 _ rfl
    simp [cInt27] at t0
    obtain ⟨_, _, t1⟩ := g 1 _ rfl
    simp [cMove27] at t1
    have t0 : DataW.trod enc Tryz.prog w 0 (fun _ => true) held _ 3 [c0] = some _ := t0
    have t1 : DataW.trod enc Tryz.prog w 0 (fun _ => true) held _ 51 [c1, c2, c3] = some _ := t1
    have g1 := struct_one Tryz.underlying51 (by kernel_rfl) rfl t1
    obtain ⟨_, _, _, e1, u1⟩ := g1 0 _ rfl
    obtain ⟨_, _, _, e2, u2⟩ := g1 1 _ rfl
    obtain ⟨_, _, _, e3, u3⟩ := g1 2 _ rfl
    obtain ⟨i0, d0, _, _⟩ := DataW.trod_int Tryz.underlying3 t0
    obtain ⟨i1, d1, _, _⟩ := DataW.trod_int Tryz.underlying3 u1
    obtain ⟨i2, d2, _, _⟩ := DataW.trod_int Tryz.underlying3 u2
    obtain ⟨i3, d3, _, _⟩ := DataW.trod_int Tryz.underlying3 u3
    simp at e1 e2 e3 d0 d1 d2 d3
    subst e1 e2 e3 d0 d1 d2 d3
    exact ⟨(i0, i1, i2, i3), rfl, trivial⟩
set_option maxRecDepth 100000 in
/-- a plan that came in -/
theorem opens_plan {r : Reach} {b0 : Nat} {v : Value} {d : DataW H} {p : List MemPlace} (hv : Value.okWide Tryz.prog w r b0 35 v) (h : DataW.Trod enc Tryz.prog w 0 (fun _ => true) held 35 v d p) :
    ∃ (A : Option Addr) (c : Nat) (q : List StM), v = .agg #[.slice A q.length c] ∧ RdE elSt w A q := by
  obtain ⟨⟨cs⟩, rfl, hsz⟩ := okWide_struct Tryz.underlying35 hv
  have hsz : cs.length = 1 := hsz.trans (by kernel_rfl)
  obtain ⟨fuel, h⟩ := h
  match cs, hsz with
  | [c0], hsz =>
    have g := struct_one Tryz.underlying35 (by kernel_rfl) hsz h
    obtain ⟨_, _, _, e0, t0⟩ := g 0 _ rfl
    obtain ⟨A0, k0, l0, d0, _, _, hr0, _⟩ := rows_open (E := relSt27) (k := 4) Tryz.underlying33 (by kernel_rfl) (by decide) each_st27 t0
    simp at e0
    subst e0 d0
    exact ⟨A0, k0, l0, rfl, rd_of_rows hr0⟩
set_option maxRecDepth 100000 in
/-- a point that came in -/
theorem opens_point {r : Reach} {b0 : Nat} {v : Value} {d : DataW H} {p : List MemPlace} (hv : Value.okWide Tryz.prog w r b0 30 v) (h : DataW.Trod enc Tryz.prog w 0 (fun _ => true) held 30 v d p) :
    ∃ (A : Option Addr) (c : Nat) (l : List Int), v = .slice A l.length c ∧ Ints w w.heap.size A l := by
  obtain ⟨fuel, hf⟩ := h
  have hcs : v.cells.toList = [v] := by
    obtain ⟨_, _, _, rfl⟩ := okWide_slice Tryz.underlying30 hv
    rfl
  rw [hcs] at hf
  obtain ⟨A, c, l, e, _, _, h3, _⟩ := ints_open Tryz.underlying30 Tryz.underlying2 (by kernel_rfl) hf
  exact ⟨A, c, l, e, h3⟩
end
end Go.Proofs.YtpggamapmgpjcaaGreatDoor
