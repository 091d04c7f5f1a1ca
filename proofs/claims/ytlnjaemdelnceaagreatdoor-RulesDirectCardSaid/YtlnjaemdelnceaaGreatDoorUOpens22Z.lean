/- A part of the claim: see its last text. -/
import Derived.Test.YtlnjaemdelnceaaGreatDoorUOpens14Z
import Derived.Test.YtlnjaemdelnceaaGreatDoorUK24
import Derived.Carry

set_option maxRecDepth 100000
set_option maxHeartbeats 16000000
namespace Go.Proofs.YtlnjaemdelnceaaGreatDoor
open Go Go.Proofs Go.RowKit Go.Joins Go.ChangeShapes Go.WideShapes Go.Deep
def encUnit : RelK UnitM := ⟨fun _ _ x vs => vs = [.int .i64 x.1, .int .i64 x.2], fun h _ => h, fun h _ => h⟩
def encUnits : RelK (List UnitM) := ⟨fun w B l vs => ∃ A c, vs = [.slice A l.length c] ∧ l.length ≤ c ∧ c ≤ 9223372036854775807 ∧ FR w B A l,
 fun ⟨A, c, h1, h2, h3, h4⟩ hk => ⟨A, c, h1, h2, h3, Reads.keep h4 hk⟩, fun ⟨A, c, h1, h2, h3, h4⟩ hB => ⟨A, c, h1, h2, h3, h4.more hB⟩⟩
theorem fr_of_rows {w : World} {B : Nat} {A : Option Addr} {l : List UnitM} (h : Rows encUnit 2 w B A l) : FR w B A l := by
 refine ⟨unitCells_len l, fun h0 => ?_⟩
 obtain ⟨b, off, vs, e, hb, _, _, _⟩ := h 0 h0
 refine ⟨⟨b, off, none⟩, e, hb, fun j u hu => ?_⟩
 have hj : j < l.length * 2 := by rw [← unitCells_len]; exact (List.getElem?_eq_some_iff.1 hu).1
 obtain ⟨i, hi⟩ : ∃ i, j = i * 2 ∨ j = i * 2 + 1 := ⟨j / 2, by omega⟩
 have hil : i < l.length := by omega
 obtain ⟨b', off', vs', e', hb', hl', hR, hc⟩ := h i hil
 rw [e] at e'
 obtain ⟨rfl, rfl⟩ : b = b' ∧ off = off' := by simpa using e'
 have hR : vs' = [.int .i64 l[i].1, .int .i64 l[i].2] := hR
 rw [add_none]
 rcases hi with rfl | rfl
 · rw [(unitCells_at l i hil).1] at hu
   exact hc 0 u (by rw [hR]; exact hu)
 · rw [(unitCells_at l i hil).2] at hu
   exact hc 1 u (by rw [hR]; exact hu)
section
variable {H : Type} {enc : TypeId × Value → H} {w : World} {held : Bool}
theorem each_unit (n : Nat) (cs : List Value) (y : DataW H × List MemPlace) (hl : cs.length = 2) (h : DataW.trod enc Tryz.prog w 0 (fun _ => true) held n 87 cs = some y) : ∃ x : UnitM, encUnit.R w w.heap.size x cs ∧ True := by
 match cs, hl with
 | [c0, c1], hl =>
   have g := struct_one Tryz.underlying87 (by kernel_rfl) hl h
   obtain ⟨_, _, _, e0, t0⟩ := g 0 _ rfl
   obtain ⟨_, _, _, e1, t1⟩ := g 1 _ rfl
   obtain ⟨i0, d0, _, _⟩ := DataW.trod_int Tryz.underlying3 t0
   obtain ⟨i1, d1, _, _⟩ := DataW.trod_int Tryz.underlying3 t1
   simp at e0 e1 d0 d1
   subst e0 e1 d0 d1
   exact ⟨(i0, i1), rfl, trivial⟩
theorem each_units (n : Nat) (cs : List Value) (y : DataW H × List MemPlace) (hl : cs.length = 1) (h : DataW.trod enc Tryz.prog w 0 (fun _ => true) held n 83 cs = some y) : ∃ x : List UnitM, encUnits.R w w.heap.size x cs ∧ True := by
 match cs, hl with
 | [c0], _ =>
   obtain ⟨A, c, l, d, hc, hm, hr, _⟩ := rows_open (E := encUnit) (k := 2) Tryz.underlying83 (by kernel_rfl) (by decide) each_unit h
   subst d
   exact ⟨l, ⟨A, c, rfl, hc, hm, fr_of_rows hr⟩, trivial⟩
theorem opens_place {r : Reach} {b0 : Nat} {v : Value} {d : DataW H} {p : List MemPlace} (hv : Value.okWide Tryz.prog w r b0 35 v) (h : DataW.Trod enc Tryz.prog w 0 (fun _ => true) held 35 v d p) :
    ∃ (A : Option Addr) (c : Nat) (q : PlaceM), v = .agg #[.slice A q.length c] ∧ q.length ≤ c ∧ c ≤ 9223372036854775807 ∧ PR w w.heap.size A q := by
 obtain ⟨⟨cs⟩, rfl, hsz⟩ := okWide_struct Tryz.underlying35 hv
 have hsz : cs.length = 1 := hsz.trans (by kernel_rfl)
 obtain ⟨fuel, h⟩ := h
 match cs, hsz with
 | [c0], hsz =>
   have g := struct_one Tryz.underlying35 (by kernel_rfl) hsz h
   obtain ⟨_, _, _, e0, t0⟩ := g 0 _ rfl
   obtain ⟨A0, k0, l0, d0, hc0, hm0, hr0, _⟩ := rows_open (E := encUnits) (k := 1) Tryz.underlying33 (by kernel_rfl) (by decide) each_units t0
   simp at e0
   subst e0 d0
   exact ⟨A0, k0, l0, rfl, hc0, hm0, fun i hi => by
    obtain ⟨b, off, vs, e, hb, _, ⟨A2, c2, rfl, h1, h2, h3⟩, hc⟩ := hr0 i hi
    exact ⟨b, off, A2, c2, e, hb, by simpa using hc 0 _ rfl, h1, h2, h3⟩⟩
theorem opens_rule {r : Reach} {b0 : Nat} {v : Value} {d : DataW H} {p : List MemPlace} (hv : Value.okWide Tryz.prog w r b0 32 v) (h : DataW.Trod enc Tryz.prog w 0 (fun _ => true) held 32 v d p) :
    ∃ (A : Option Addr) (c : Nat) (x : RuleM), v = .agg #[.int .i64 x.kind, .int .i64 x.item, .int .i64 x.other, .int .i64 x.n, .int .i64 x.by_, .bool x.always, .slice A x.machines.length c] ∧ x.machines.length ≤ c ∧ c ≤ 9223372036854775807 ∧ Ints w w.heap.size A x.machines := by
 obtain ⟨⟨cs⟩, rfl, hsz⟩ := okWide_struct Tryz.underlying32 hv
 have hsz : cs.length = 7 := hsz.trans (by kernel_rfl)
 obtain ⟨fuel, h⟩ := h
 obtain ⟨x, ⟨A, c, e, h1, h2, h3⟩, _⟩ := each_rule fuel cs _ hsz h
 subst e
 exact ⟨A, c, x, rfl, h1, h2, h3⟩
theorem opens_fail {r : Reach} {b0 : Nat} {v : Value} {d : DataW H} {p : List MemPlace} (hv : Value.okWide Tryz.prog w r b0 37 v) (h : DataW.Trod enc Tryz.prog w 0 (fun _ => true) held 37 v d p) :
    ∃ f : Int × Int, v = .agg #[.int .i64 f.1, .int .i64 f.2] := by
 obtain ⟨⟨cs⟩, rfl, hsz⟩ := okWide_struct Tryz.underlying37 hv
 have hsz : cs.length = 2 := hsz.trans (by kernel_rfl)
 obtain ⟨fuel, h⟩ := h
 match cs, hsz with
 | [c0, c1], hsz =>
   have g := struct_one Tryz.underlying37 (by kernel_rfl) hsz h
   obtain ⟨_, _, _, e0, t0⟩ := g 0 _ rfl
   obtain ⟨_, _, _, e1, t1⟩ := g 1 _ rfl
   obtain ⟨i0, d0, _, _⟩ := DataW.trod_int Tryz.underlying3 t0
   obtain ⟨i1, d1, _, _⟩ := DataW.trod_int Tryz.underlying3 t1
   simp at e0 e1 d0 d1
   subst e0 e1 d0 d1
   exact ⟨(i0, i1), rfl⟩
end
theorem u8_wf {n : Int} (h : (Lit.int IntKind.u8 n).wf = true) : 0 ≤ n ∧ n ≤ 255 := by
 have h2 : IntKind.u8.min ≤ n ∧ n ≤ IntKind.u8.max := by simpa [Lit.wf] using h
 have e1 : IntKind.u8.min = 0 := rfl
 have e2 : IntKind.u8.max = 255 := rfl
 omega
section
variable {H : Type} {enc : TypeId × Value → H} {P : Program} {w : World} {base : Nat} {spare : Nat → Bool} {held : Bool}
theorem trodAll_five {t0 t1 t2 t3 t4 : TypeId} {args : Array Value} {ds : List (DataW H)} {ps : List MemPlace} (h : DataW.TrodAll enc P w base spare held [t0, t1, t2, t3, t4] args.toList ds ps) :
    ∃ v0 v1 v2 v3 v4 d0 d1 d2 d3 d4 p0 p1 p2 p3 p4, args = #[v0, v1, v2, v3, v4] ∧ ds = [d0, d1, d2, d3, d4] ∧ ps = p0 ++ (p1 ++ (p2 ++ (p3 ++ p4))) ∧ DataW.Trod enc P w base spare held t0 v0 d0 p0 ∧ DataW.Trod enc P w base spare held t1 v1 d1 p1 ∧ DataW.Trod enc P w base spare held t2 v2 d2 p2 ∧ DataW.Trod enc P w base spare held t3 v3 d3 p3 ∧ DataW.Trod enc P w base spare held t4 v4 d4 p4 := by
 obtain ⟨v0, vs, d0, ds0, p0, q0, hargs, rfl, rfl, h0, r0⟩ := trodAll_cons h
 obtain ⟨v1, vs1, d1, ds1, p1, q1, rfl, rfl, rfl, h1, r1⟩ := trodAll_cons r0
 obtain ⟨v2, vs2, d2, ds2, p2, q2, rfl, rfl, rfl, h2, r2⟩ := trodAll_cons r1
 obtain ⟨v3, vs3, d3, ds3, p3, q3, rfl, rfl, rfl, h3, r3⟩ := trodAll_cons r2
 obtain ⟨v4, vs4, d4, ds4, p4, q4, rfl, rfl, rfl, h4, r4⟩ := trodAll_cons r3
 obtain ⟨rfl, rfl, rfl⟩ := trodAll_nil r4
 exact ⟨v0, v1, v2, v3, v4, d0, d1, d2, d3, d4, p0, p1, p2, p3, p4, by cases args; simp_all, rfl, by simp, h0, h1, h2, h3, h4⟩
theorem trodAll_mk5 {t0 t1 t2 t3 t4 : TypeId} {v0 v1 v2 v3 v4 : Value} {d0 d1 d2 d3 d4 : DataW H} {p0 p1 p2 p3 p4 : List MemPlace} (h0 : DataW.Trod enc P w base spare held t0 v0 d0 p0) (h1 : DataW.Trod enc P w base spare held t1 v1 d1 p1) (h2 : DataW.Trod enc P w base spare held t2 v2 d2 p2) (h3 : DataW.Trod enc P w base spare held t3 v3 d3 p3) (h4 : DataW.Trod enc P w base spare held t4 v4 d4 p4) :
    DataW.TrodAll enc P w base spare held [t0, t1, t2, t3, t4] [v0, v1, v2, v3, v4] [d0, d1, d2, d3, d4] (p0 ++ (p1 ++ (p2 ++ (p3 ++ p4)))) := ⟨p0, p1 ++ (p2 ++ (p3 ++ p4)), h0, trodAll_mk4 h1 h2 h3 h4, rfl⟩
end
end Go.Proofs.YtlnjaemdelnceaaGreatDoor
