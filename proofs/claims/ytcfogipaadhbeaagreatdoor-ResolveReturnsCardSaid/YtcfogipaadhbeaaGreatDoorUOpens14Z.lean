/- A part of the claim: see its last text. -/
import Derived.Test.YtcfogipaadhbeaaGreatDoorUOpensGZ
import Derived.Test.YtcfogipaadhbeaaGreatDoorUK02

set_option maxRecDepth 100000
set_option maxHeartbeats 16000000
namespace Go.Proofs.YtcfogipaadhbeaaGreatDoor
open Go Go.Proofs Go.RowKit Go.Joins Go.ChangeShapes Go.WideShapes Go.Deep
section
variable {H : Type} {enc : TypeId × Value → H} {P : Program} {w : World}
theorem rows_open {α : Type} {E : RelK α} {F : α → Prop} {k : Nat} {t e : TypeId} {n : Nat} {held : Bool} {v : Value} {y : DataW H × List MemPlace} (ht : P.underlying t = some (.slice e)) (hC : P.cellsOf e = k) (hk : 0 < k)
    (each : ∀ (n : Nat) (cs : List Value) (y : DataW H × List MemPlace), cs.length = k → DataW.trod enc P w 0 (fun _ => true) held n e cs = some y → ∃ x : α, E.R w w.heap.size x cs ∧ F x)
    (h : DataW.trod enc P w 0 (fun _ => true) held n t [v] = some y) :
    ∃ (A : Option Addr) (c : Nat) (l : List α), v = .slice A l.length c ∧ l.length ≤ c ∧ c ≤ 9223372036854775807 ∧ Rows E k w w.heap.size A l ∧ ∀ x ∈ l, F x := by
 rcases open_slice ht h with ⟨hv, _⟩ | ⟨a, len, cap, m, n', D, Pl, hv, _, hl, hm, hmm, _, hi⟩
 · obtain rfl : v = _ := by simpa using hv
   exact ⟨none, 0, [], rfl, Nat.le_refl _, Nat.zero_le _, Rows.nil_, by simp⟩
 · obtain rfl : v = _ := by simpa using hv
   have hmm : m = cap := by simpa using hmm
   subst hmm
   have hx : maxLen = 9223372036854775807 := by decide
   rcases Nat.eq_zero_or_pos len with hz | hz
   · subst hz
     exact ⟨some a, m, [], rfl, by simp, by omega, Rows.nil_, by simp⟩
   have hsp : a.spot = none := by
    obtain ⟨cs, hc, htr⟩ := hi 0 (by omega)
    rw [hC] at hc
    obtain ⟨_, hcl, hat⟩ := World.cells?_some hc
    have h0 : w.cell? ((a.add (0 * k)).add 0) = some (cs[0]'(by omega)) := (hat 0 (by omega)).trans (List.getElem?_eq_getElem (by omega))
    have := World.cell?_spot h0
    simpa [Addr.add] using this
   have each2 : ∀ i, i < len → ∃ x : α, (∃ (b off : Nat) (vs : List Value), some a = some (⟨b, off, none⟩ : Addr) ∧ b < w.heap.size ∧ vs.length = k ∧ E.R w w.heap.size x vs ∧ ∀ (j : Nat) (u : Value), vs[j]? = some u → w.cell? ⟨b, off + i * k + j, none⟩ = some u) ∧ F x := by
    intro i hil
    obtain ⟨cs, hc, htr⟩ := hi i (by omega)
    rw [hC] at hc
    obtain ⟨_, hcl, hat⟩ := World.cells?_some hc
    obtain ⟨x, hR, hF⟩ := each _ cs _ hcl htr
    obtain ⟨b, off, spot⟩ := a
    have h0 : w.cell? ((Addr.add ⟨b, off, spot⟩ (i * k)).add 0) = some (cs[0]'(by omega)) := (hat 0 (by omega)).trans (List.getElem?_eq_getElem (by omega))
    have hb := World.block_lt_of_cell? w _ h0
    rw [block_of_add, block_of_add] at hb
    have hs : spot = none := hsp
    subst hs
    refine ⟨x, ⟨b, off, cs, rfl, hb, hcl, hR, fun j u hu => ?_⟩, hF⟩
    have hj : j < k := by rw [← hcl]; exact (List.getElem?_eq_some_iff.1 hu).1
    have := hat j hj
    rw [add_none, add_none] at this
    exact this.trans hu
   obtain ⟨l, hll, hlx⟩ : ∃ l : List α, l.length = len ∧ ∀ i (hi : i < l.length), (∃ (b off : Nat) (vs : List Value), some a = some (⟨b, off, none⟩ : Addr) ∧ b < w.heap.size ∧ vs.length = k ∧ E.R w w.heap.size l[i] vs ∧ ∀ (j : Nat) (u : Value), vs[j]? = some u → w.cell? ⟨b, off + i * k + j, none⟩ = some u) ∧ F l[i] := by
    refine ⟨(List.range len).attach.map fun i => (each2 i.1 (List.mem_range.1 i.2)).choose, by simp, fun i hi => ?_⟩
    have hil : i < len := by simpa using hi
    have := (each2 i hil).choose_spec
    simpa using this
   refine ⟨some a, m, l, by rw [hll], by omega, by omega, fun i hi => ?_, fun x hx => ?_⟩
   · exact (hlx i hi).1
   · obtain ⟨i, hi, rfl⟩ := List.getElem_of_mem hx
     exact (hlx i hi).2
theorem struct_one {base : Nat} {spare : Nat → Bool} {held : Bool} {fs : Array Field} {e : TypeId} {n : Nat} {cs : List Value} {y : DataW H × List MemPlace} (he : P.underlying e = some (.struct fs)) (hone : oneCellFields P fs = true) (hcl : cs.length = fs.size)
    (h : DataW.trod enc P w base spare held n e cs = some y) : ∀ (j : Nat) (f : Field), fs[j]? = some f → ∃ (v : Value) (n' : Nat) (y' : DataW H × List MemPlace), cs[j]? = some v ∧ DataW.trod enc P w base spare held n' f.type [v] = some y' := by
 intro j f hj
 obtain ⟨ys, n', _, _, _, hyl, hf⟩ := DataW.trod_struct he h
 obtain ⟨ho, hk⟩ := hone_of hone j f hj
 have hjl : j < fs.size := (Array.getElem?_eq_some_iff.1 hj).1
 have h1 := hf j f hj
 rw [ho, hk] at h1
 have hone' : (cs.drop j).take 1 = [cs[j]'(by omega)] := by
  rw [List.drop_eq_getElem_cons (by omega)]
  rfl
 rw [hone'] at h1
 exact ⟨_, _, _, List.getElem?_eq_getElem (by omega), h1.trans (List.getElem?_eq_getElem (by omega))⟩
end
section
variable {H : Type} {enc : TypeId × Value → H} {w : World} {held : Bool}
theorem each_rack (n : Nat) (cs : List Value) (y : DataW H × List MemPlace) (hl : cs.length = 3) (h : DataW.trod enc Tryz.prog w 0 (fun _ => true) held n 69 cs = some y) : ∃ x : RackM, encRack.R w w.heap.size x cs ∧ True := by
 match cs, hl with
 | [c0, c1, c2], hl =>
   have g := struct_one Tryz.underlying69 (by kernel_rfl) hl h
   obtain ⟨_, _, _, e0, t0⟩ := g 0 _ rfl
   obtain ⟨_, _, _, e1, t1⟩ := g 1 _ rfl
   obtain ⟨_, _, _, e2, t2⟩ := g 2 _ rfl
   obtain ⟨s0, d0, _, z0⟩ := DataW.trod_string Tryz.underlying9 t0
   obtain ⟨i1, d1, _, _⟩ := DataW.trod_int Tryz.underlying3 t1
   obtain ⟨i2, d2, _, _⟩ := DataW.trod_int Tryz.underlying3 t2
   simp at e0 e1 e2 d0 d1 d2
   subst e0 e1 e2 d0 d1 d2
   exact ⟨⟨s0, i1, i2⟩, ⟨rfl, z0⟩, trivial⟩
theorem each_mach (n : Nat) (cs : List Value) (y : DataW H × List MemPlace) (hl : cs.length = 3) (h : DataW.trod enc Tryz.prog w 0 (fun _ => true) held n 71 cs = some y) : ∃ x : MachM, encMach.R w w.heap.size x cs ∧ True := by
 match cs, hl with
 | [c0, c1, c2], hl =>
   have g := struct_one Tryz.underlying71 (by kernel_rfl) hl h
   obtain ⟨_, _, _, e0, t0⟩ := g 0 _ rfl
   obtain ⟨_, _, _, e1, t1⟩ := g 1 _ rfl
   obtain ⟨_, _, _, e2, t2⟩ := g 2 _ rfl
   obtain ⟨s0, d0, _, z0⟩ := DataW.trod_string Tryz.underlying9 t0
   obtain ⟨i1, d1, _, _⟩ := DataW.trod_int Tryz.underlying3 t1
   obtain ⟨i2, d2, _, _⟩ := DataW.trod_int Tryz.underlying3 t2
   simp at e0 e1 e2 d0 d1 d2
   subst e0 e1 e2 d0 d1 d2
   exact ⟨⟨s0, i1, i2⟩, ⟨rfl, z0⟩, trivial⟩
theorem each_link (n : Nat) (cs : List Value) (y : DataW H × List MemPlace) (hl : cs.length = 3) (h : DataW.trod enc Tryz.prog w 0 (fun _ => true) held n 73 cs = some y) : ∃ x : LinkM, encLink.R w w.heap.size x cs ∧ True := by
 match cs, hl with
 | [c0, c1, c2], hl =>
   have g := struct_one Tryz.underlying73 (by kernel_rfl) hl h
   obtain ⟨_, _, _, e0, t0⟩ := g 0 _ rfl
   obtain ⟨_, _, _, e1, t1⟩ := g 1 _ rfl
   obtain ⟨_, _, _, e2, t2⟩ := g 2 _ rfl
   obtain ⟨i0, d0, _, _⟩ := DataW.trod_int Tryz.underlying3 t0
   obtain ⟨i1, d1, _, _⟩ := DataW.trod_int Tryz.underlying3 t1
   obtain ⟨i2, d2, _, _⟩ := DataW.trod_int Tryz.underlying3 t2
   simp at e0 e1 e2 d0 d1 d2
   subst e0 e1 e2 d0 d1 d2
   exact ⟨⟨i0, i1, i2⟩, rfl, trivial⟩
theorem each_item (n : Nat) (cs : List Value) (y : DataW H × List MemPlace) (hl : cs.length = 7) (h : DataW.trod enc Tryz.prog w 0 (fun _ => true) held n 49 cs = some y) : ∃ x : ItemM, encItem.R w w.heap.size x cs ∧ True := by
 match cs, hl with
 | [c0, c1, c2, c3, c4, c5, c6], hl =>
   have g := struct_one Tryz.underlying49 (by kernel_rfl) hl h
   obtain ⟨_, _, _, e0, t0⟩ := g 0 _ rfl
   obtain ⟨_, _, _, e1, t1⟩ := g 1 _ rfl
   obtain ⟨_, _, _, e2, t2⟩ := g 2 _ rfl
   obtain ⟨_, _, _, e3, t3⟩ := g 3 _ rfl
   obtain ⟨_, _, _, e4, t4⟩ := g 4 _ rfl
   obtain ⟨_, _, _, e5, t5⟩ := g 5 _ rfl
   obtain ⟨v6, _, _, e6, t6⟩ := g 6 _ rfl
   obtain ⟨s0, d0, _, z0⟩ := DataW.trod_string Tryz.underlying9 t0
   obtain ⟨i1, d1, _, _⟩ := DataW.trod_int Tryz.underlying3 t1
   obtain ⟨i2, d2, _, _⟩ := DataW.trod_int Tryz.underlying3 t2
   obtain ⟨i3, d3, _, _⟩ := DataW.trod_int Tryz.underlying3 t3
   obtain ⟨i4, d4, _, _⟩ := DataW.trod_int Tryz.underlying3 t4
   obtain ⟨i5, d5, _, _⟩ := DataW.trod_int Tryz.underlying3 t5
   obtain ⟨A6, c6', l6, d6, hc6, hm6, hi6, _⟩ := ints_open Tryz.underlying41 Tryz.underlying3 (by kernel_rfl) t6
   have hx : maxLen = 9223372036854775807 := by decide
   simp at e0 e1 e2 e3 e4 e5 e6 d0 d1 d2 d3 d4 d5
   subst e0 e1 e2 e3 e4 e5 e6 d0 d1 d2 d3 d4 d5 d6
   exact ⟨⟨s0, i1, i2, i3, i4, i5, l6⟩, ⟨A6, c6', rfl, z0, hc6, by omega, hi6⟩, trivial⟩
theorem each_rule (n : Nat) (cs : List Value) (y : DataW H × List MemPlace) (hl : cs.length = 7) (h : DataW.trod enc Tryz.prog w 0 (fun _ => true) held n 62 cs = some y) : ∃ x : RuleM, encRule.R w w.heap.size x cs ∧ True := by
 match cs, hl with
 | [c0, c1, c2, c3, c4, c5, c6], hl =>
   have g := struct_one Tryz.underlying62 (by kernel_rfl) hl h
   obtain ⟨_, _, _, e0, t0⟩ := g 0 _ rfl
   obtain ⟨_, _, _, e1, t1⟩ := g 1 _ rfl
   obtain ⟨_, _, _, e2, t2⟩ := g 2 _ rfl
   obtain ⟨_, _, _, e3, t3⟩ := g 3 _ rfl
   obtain ⟨_, _, _, e4, t4⟩ := g 4 _ rfl
   obtain ⟨_, _, _, e5, t5⟩ := g 5 _ rfl
   obtain ⟨v6, _, _, e6, t6⟩ := g 6 _ rfl
   obtain ⟨i0, d0, _, _⟩ := DataW.trod_int Tryz.underlying3 t0
   obtain ⟨i1, d1, _, _⟩ := DataW.trod_int Tryz.underlying3 t1
   obtain ⟨i2, d2, _, _⟩ := DataW.trod_int Tryz.underlying3 t2
   obtain ⟨i3, d3, _, _⟩ := DataW.trod_int Tryz.underlying3 t3
   obtain ⟨i4, d4, _, _⟩ := DataW.trod_int Tryz.underlying3 t4
   obtain ⟨b5, d5, _⟩ := DataW.trod_bool Tryz.underlying4 t5
   obtain ⟨A6, c6', l6, d6, hc6, hm6, hi6, _⟩ := ints_open Tryz.underlying41 Tryz.underlying3 (by kernel_rfl) t6
   have hx : maxLen = 9223372036854775807 := by decide
   simp at e0 e1 e2 e3 e4 e5 e6 d0 d1 d2 d3 d4 d5
   subst e0 e1 e2 e3 e4 e5 e6 d0 d1 d2 d3 d4 d5 d6
   exact ⟨⟨i0, i1, i2, i3, i4, b5, l6⟩, ⟨A6, c6', rfl, hc6, by omega, hi6⟩, trivial⟩
structure MCap (h : MH) (m : Mod) : Prop where
 cs : m.sT.length ≤ h.sc ∧ h.sc ≤ 9223372036854775807
 cf : m.fT.length ≤ h.fc ∧ h.fc ≤ 9223372036854775807
 cr : m.rT.length ≤ h.rc ∧ h.rc ≤ 9223372036854775807
 cm : m.mT.length ≤ h.mc ∧ h.mc ≤ 9223372036854775807
 cl : m.lT.length ≤ h.lc ∧ h.lc ≤ 9223372036854775807
 ci : m.iT.length ≤ h.ic ∧ h.ic ≤ 9223372036854775807
 cu : m.uT.length ≤ h.uc ∧ h.uc ≤ 9223372036854775807
theorem opens_model {r : Reach} {b0 : Nat} {v : Value} {d : DataW H} {p : List MemPlace} (hv : Value.okWide Tryz.prog w r b0 32 v) (h : DataW.Trod enc Tryz.prog w 0 (fun _ => true) held 32 v d p) :
    ∃ (h : MH) (m : Mod), v = .agg #[.slice h.s m.sT.length h.sc, .slice h.f m.fT.length h.fc, .slice h.r m.rT.length h.rc, .slice h.m m.mT.length h.mc, .slice h.l m.lT.length h.lc, .slice h.i m.iT.length h.ic, .int .i64 m.dT, .int .i64 m.oT, .int .i64 m.vT, .int .i64 m.aT, .slice h.u m.uT.length h.uc] ∧ MD w w.heap.size h m ∧ MCap h m := by
 obtain ⟨⟨cs⟩, rfl, hsz⟩ := okWide_struct Tryz.underlying32 hv
 have hsz : cs.length = 11 := hsz.trans (by kernel_rfl)
 obtain ⟨fuel, h⟩ := h
 match cs, hsz with
 | [c0, c1, c2, c3, c4, c5, c6, c7, c8, c9, c10], hsz =>
   have g := struct_one Tryz.underlying32 (by kernel_rfl) hsz h
   obtain ⟨_, _, _, e0, t0⟩ := g 0 _ rfl
   obtain ⟨_, _, _, e1, t1⟩ := g 1 _ rfl
   obtain ⟨_, _, _, e2, t2⟩ := g 2 _ rfl
   obtain ⟨_, _, _, e3, t3⟩ := g 3 _ rfl
   obtain ⟨_, _, _, e4, t4⟩ := g 4 _ rfl
   obtain ⟨_, _, _, e5, t5⟩ := g 5 _ rfl
   obtain ⟨_, _, _, e6, t6⟩ := g 6 _ rfl
   obtain ⟨_, _, _, e7, t7⟩ := g 7 _ rfl
   obtain ⟨_, _, _, e8, t8⟩ := g 8 _ rfl
   obtain ⟨_, _, _, e9, t9⟩ := g 9 _ rfl
   obtain ⟨_, _, _, e10, t10⟩ := g 10 _ rfl
   obtain ⟨A0, k0, l0, d0, hc0, hm0, hr0, hz0⟩ := strs_open Tryz.underlying25 Tryz.underlying9 (by kernel_rfl) t0
   obtain ⟨A1, k1, l1, d1, hc1, hm1, hr1, hz1⟩ := strs_open Tryz.underlying25 Tryz.underlying9 (by kernel_rfl) t1
   obtain ⟨A2, k2, l2, d2, hc2, hm2, hr2, _⟩ := rows_open (E := encRack) (k := 3) Tryz.underlying26 (by kernel_rfl) (by decide) each_rack t2
   obtain ⟨A3, k3, l3, d3, hc3, hm3, hr3, _⟩ := rows_open (E := encMach) (k := 3) Tryz.underlying27 (by kernel_rfl) (by decide) each_mach t3
   obtain ⟨A4, k4, l4, d4, hc4, hm4, hr4, _⟩ := rows_open (E := encLink) (k := 3) Tryz.underlying28 (by kernel_rfl) (by decide) each_link t4
   obtain ⟨A5, k5, l5, d5, hc5, hm5, hr5, _⟩ := rows_open (E := encItem) (k := 7) Tryz.underlying29 (by kernel_rfl) (by decide) each_item t5
   obtain ⟨i6, d6, _, _⟩ := DataW.trod_int Tryz.underlying3 t6
   obtain ⟨i7, d7, _, _⟩ := DataW.trod_int Tryz.underlying3 t7
   obtain ⟨i8, d8, _, _⟩ := DataW.trod_int Tryz.underlying3 t8
   obtain ⟨i9, d9, _, _⟩ := DataW.trod_int Tryz.underlying3 t9
   obtain ⟨A10, k10, l10, d10, hc10, hm10, hr10, _⟩ := rows_open (E := encRule) (k := 7) Tryz.underlying30 (by kernel_rfl) (by decide) each_rule t10
   have hx : maxLen = 9223372036854775807 := by decide
   rw [hx] at hm0 hm1 hz0 hz1
   simp at e0 e1 e2 e3 e4 e5 e6 e7 e8 e9 e10 d6 d7 d8 d9
   subst e0 e1 e2 e3 e4 e5 e6 e7 e8 e9 e10 d0 d1 d2 d3 d4 d5 d6 d7 d8 d9 d10
   exact ⟨⟨A0, k0, A1, k1, A2, k2, A3, k3, A4, k4, A5, k5, A10, k10⟩, ⟨l0, l1, l2, l3, l4, l5, i6, i7, i8, i9, l10⟩, rfl,
    ⟨hr0, hr1, hr2, hr3, hr4, hr5, hr10, by show l0.length ≤ _; omega, by show l1.length ≤ _; omega, by show l2.length ≤ _; omega, by show l3.length ≤ _; omega, by show l4.length ≤ _; omega, by show l5.length ≤ _; omega, by show l10.length ≤ _; omega, hz0, hz1⟩,
    ⟨⟨hc0, hm0⟩, ⟨hc1, hm1⟩, ⟨hc2, hm2⟩, ⟨hc3, hm3⟩, ⟨hc4, hm4⟩, ⟨hc5, hm5⟩, ⟨hc10, hm10⟩⟩⟩
end
end Go.Proofs.YtcfogipaadhbeaaGreatDoor
