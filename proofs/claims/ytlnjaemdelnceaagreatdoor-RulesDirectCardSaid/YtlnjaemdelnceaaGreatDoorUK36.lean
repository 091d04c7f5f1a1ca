/- A part of the claim: see its last text. -/
import Derived.Test.YtlnjaemdelnceaaGreatDoorUK24
import Derived.Test.YtlnjaemdelnceaaGreatDoorUK30
import Derived.Test.YtlnjaemdelnceaaGreatDoorUK35
import Derived.Test.YtlnjaemdelnceaaGreatDoorUK25

set_option maxRecDepth 100000
set_option maxHeartbeats 16000000
namespace Go.Proofs.YtlnjaemdelnceaaGreatDoor
open Go Go.RowKit Go.Proofs
theorem units_rd (A : Option Addr) (c : Nat) (p : PlaceM) (item : Int) (w : World) (h : PR w w.heap.size A p) (hl : p.length ≤ 9223372036854775807) :
    Calls Tryz.prog 43 #[.agg #[.slice A p.length c], .int .i64 item] w (UnitsQ w (unitsP p item)) := by
 have HB := hide ((Below.refl w.heap.size w).alloc (Nat.le_refl _) (.cells #[.slice A p.length c] 35))
 cases e1 : exI item p.length
 · have HU := hide (unitsP_no e1)
   go_enter Tryz.func43, Tryz.ntmps43
   go_wp2_with (go_at_call 51; refine (exists_ref _ _ _).mono ?_; rintro e w2 ⟨rfl, rfl⟩)
   go_ret
   rw [HU.out]
   exact ⟨none, 0, rfl, ⟨rfl, fun h0 => absurd h0 (by simp)⟩, HB.out⟩
 · have hit : 1 ≤ item ∧ item ≤ (p.length : Int) := by simpa [exI] using e1
   obtain ⟨j, hj, rfl⟩ : ∃ j : Nat, j < p.length ∧ item = (j : Int) + 1 := ⟨(item - 1).toNat, by omega, by omega⟩
   obtain ⟨b, off, A2, c2, rfl, hb, x0, _, _, hu⟩ := h j hj
   have HU := hide (unitsP_yes hj)
   have HT := hide hu
   have hjI : (j : Int) < (p.length : Int) := by omega
   clear hu h hit
   go_enter Tryz.func43, Tryz.ntmps43
   go_wp2_with (go_at_call 51; refine (exists_ref _ _ _).mono ?_; rintro e w2 ⟨rfl, rfl⟩)
   go_ret
   rw [HU.out]
   exact ⟨A2, c2, rfl, (HT.out.below HB.out).more HB.out.size, HB.out⟩
theorem index_rd (A : Option Addr) (c : Nat) (l : List UnitM) (mc : Int) (w : World) (hl : l.length ≤ 9223372036854775807) (h : FR w w.heap.size A l) :
    Calls Tryz.prog 54 #[.slice A l.length c, .int .i64 mc] w fun e w' => e = .returned (.int .i64 (findI l mc)) ∧ w = w' := by
 go_enter Tryz.func54, Tryz.ntmps54
 go_wp2_with fail
 go_loop [5] (fun i => ∃ k : Nat, k ≤ l.length ∧ i = .int .i64 k ∧ Hid (∀ j (hj : j < l.length), j < k → (fun u : UnitM => decide (u.1 = mc)) l[j] = false)) (fun i => l.length - (intOf i).toNat)
 case atStart => exact ⟨0, Nat.zero_le _, rfl, fun j hj h0 => absurd h0 (by omega)⟩
 case round =>
  obtain ⟨k, hk, rfl, hs⟩ := hrel
  by_cases hlt : k < l.length
  · obtain ⟨b, off, hA, hb, x0, x1⟩ := h.at_ hlt
    subst hA
    by_cases e1 : l[k].1 = mc
    · have g1 : (l[k].1 == mc) = true := by simpa using e1
      have HF := hide (firstI_at (p := fun u : UnitM => decide (u.1 = mc)) hlt (by simpa using e1) hs)
      clear e1
      go_wp2_with fail
      go_ret
      exact ⟨ret_congr (by rw [findI, HF.out]; rfl), rfl⟩
    · have g1 : (l[k].1 == mc) = false := by simpa using e1
      have HK := hide e1
      clear e1
      go_wp2_with fail
      go_round
      case rel => exact ⟨k + 1, by omega, by go_num, fun j hj h1 => by
       rcases Nat.lt_or_ge j k with h2 | h2
       · exact hs j hj h2
       · obtain rfl : j = k := by omega
         simpa using HK.out⟩
      case measure => simp [intOf]; omega
  · have HF := hide (firstI_none (p := fun u : UnitM => decide (u.1 = mc)) fun j hj => hs j hj (by omega))
    go_wp2_with fail
    go_ret
    exact ⟨ret_congr (by rw [findI, HF.out]; rfl), rfl⟩
def stateP (p : PlaceM) (item mc : Int) : Option Int := ((unitsP p item).find? fun u => decide (u.1 = mc)).map (·.2)
theorem find_findIdx {l : List UnitM} {f : UnitM → Bool} : l.find? f = match l.findIdx? f with | some i => l[i]? | none => none := by
 induction l with
 | nil => rfl
 | cons a l ih =>
   rw [List.find?_cons, List.findIdx?_cons]
   cases h : f a
   · simp only [Bool.false_eq_true, ↓reduceIte]
     rw [ih]
     cases l.findIdx? f <;> simp
   · simp
theorem state_ref (A : Option Addr) (c : Nat) (p : PlaceM) (item mc : Int) (w : World) (h : PR w w.heap.size A p) (hl : p.length ≤ 9223372036854775807) (hul : (unitsP p item).length ≤ 9223372036854775807) :
    Calls Tryz.prog 25 #[.agg #[.slice A p.length c], .int .i64 item, .int .i64 mc] w (AnsB w (.tuple #[.int .i64 ((stateP p item mc).getD 0), .bool (stateP p item mc).isSome])) := by
 have hb := (Below.refl w.heap.size w).alloc (Nat.le_refl _) (.cells #[.slice A p.length c] 35)
 have HB := hide hb
 have HU := hide (units_rd A c p item _ (h.grow hb) hl)
 have hst : stateP p item mc = (match findU (unitsP p item) mc with | some i => ((unitsP p item)[i]?) | none => none).map (fun u : UnitM => u.2) := by rw [stateP, find_findIdx]; rfl
 have hfi := findI_eq (unitsP p item) mc
 obtain ⟨L, hL⟩ : ∃ L, L = unitsP p item := ⟨_, rfl⟩
 rw [← hL] at HU hst hfi hul
 cases hf : findU L mc with
 | none =>
   rw [hf] at hst hfi
   have HS := hide (show stateP p item mc = none by rw [hst]; rfl)
   have HF := hide hfi
   clear hst hfi hf hb h hL
   go_enter Tryz.func25, Tryz.ntmps25
   go_wp2_with (first
    | (go_at_call 43; refine HU.out.mono ?_; rintro e w1 ⟨A2, c2, rfl, hr, hb1⟩; have HI := hide (index_rd A2 c2 L mc w1 hul hr); rw [HF.out] at HI; have HB1 := hide hb1; clear hr hb1)
    | (go_at_call 54; refine HI.out.mono ?_; rintro e w2 ⟨rfl, rfl⟩))
   go_ret2
   rw [HS.out]
   exact ⟨rfl, HB.out.trans (HB1.out.mono HB.out.size)⟩
 | some i =>
   rw [hf] at hst hfi
   have hil : i < L.length := by
    unfold findU at hf
    rw [List.findIdx?_eq_some_iff_getElem] at hf
    exact hf.1
   have HS := hide (show stateP p item mc = some L[i].2 by rw [hst]; simp [hil])
   have HF := hide hfi
   have hiI : (i : Int) < (L.length : Int) := by omega
   clear hst hfi hf hb h hL
   go_enter Tryz.func25, Tryz.ntmps25
   go_wp2_with (first
    | (go_at_call 43; refine HU.out.mono ?_; rintro e w1 ⟨A2, c2, rfl, hr, hb1⟩; have HI := hide (index_rd A2 c2 L mc w1 hul hr); rw [HF.out] at HI; have HB1 := hide hb1; obtain ⟨b, off, hA, hb, x0, x1⟩ := hr.at_ hil; subst hA; clear hr hb1)
    | (go_at_call 54; refine HI.out.mono ?_; rintro e w2 ⟨rfl, rfl⟩))
   go_ret2
   rw [HS.out]
   exact ⟨rfl, HB.out.trans (HB1.out.mono HB.out.size)⟩
def MacS (l : List UnitM) (st : Int) (w : World) (v i : Value) (wr : World) : Prop := ∃ k : Nat, k ≤ l.length ∧ i = .int .i64 k ∧ Hid (OwnI w.heap.size wr v (((l.take k).filter fun u => decide (u.2 = st)).map (·.1))) ∧ Below w.heap.size w wr
theorem machines_ref (A : Option Addr) (c : Nat) (p : PlaceM) (item st : Int) (w : World) (h : PR w w.heap.size A p) (hl : p.length ≤ 1000) (hul : (unitsP p item).length ≤ 1000) :
    Calls Tryz.prog 35 #[.agg #[.slice A p.length c], .int .i64 item, .int .i64 st] w (IntsR w (machinesP p item st)) := by
 have hb := (Below.refl w.heap.size w).alloc (Nat.le_refl _) (.cells #[.slice A p.length c] 35)
 have HB := hide hb
 have HU := hide (units_rd A c p item _ (h.grow hb) (by omega))
 have HMP := hide (show machinesP p item st = ((unitsP p item).filter fun u => decide (u.2 = st)).map (·.1) from rfl)
 obtain ⟨l, hL⟩ : ∃ l, l = unitsP p item := ⟨_, rfl⟩
 rw [← hL] at HU HMP hul
 clear hL hb h
 go_enter Tryz.func35, Tryz.ntmps35
 go_wp2_with (go_at_call 43; refine HU.out.mono ?_; rintro e w1 ⟨A2, c2, rfl, hr, hb1⟩
              have HR := hide hr
              have HB1 := hide (HB.out.trans (hb1.mono HB.out.size))
              have HO := hide (OwnI.new w1 [] (Nat.le_refl _) (by simp))
              clear hr hb1)
 have HB2 := hide (HB1.out.alloc HB1.out.size (.cells #[] 3))
 go_loopw [8, 9] (fun v i wr => MacS l st w1 v i wr) (fun _ i _ => l.length - (intOf i).toNat)
 case atStart => exact ⟨0, Nat.zero_le _, rfl, HO.out, (Below.refl _ _).alloc (Nat.le_refl _) _⟩
 case round =>
  clear HO
  obtain ⟨k, hk, rfl, hM, hbr⟩ := hrel
  by_cases hlt : k < l.length
  · obtain ⟨b, off, hA, hb, x0, x1⟩ := ((HR.out.below hbr).more hbr.size).at_ hlt
    subst hA
    obtain ⟨x, hx⟩ : ∃ x, x = l[k] := ⟨_, rfl⟩
    have hfx : ((l.take (k + 1)).filter fun u => decide (u.2 = st)).map (·.1) = ((l.take k).filter fun u => decide (u.2 = st)).map (·.1) ++ if x.2 = st then [x.1] else [] := by
     rw [List.take_succ_eq_append_getElem hlt, List.filter_append, hx, List.map_append]
     by_cases e : l[k].2 = st <;> simp [e]
    obtain ⟨q, hq⟩ : ∃ q, q = ((l.take k).filter fun u => decide (u.2 = st)).map (·.1) := ⟨_, rfl⟩
    have hql : q.length ≤ 1000 := by
     rw [hq]; have := List.length_filter_le (fun u : UnitM => decide (u.2 = st)) (l.take k); simp at this ⊢; omega
    rw [← hx] at x0 x1
    rw [← hq] at hM hfx
    have HFX := hide hfx
    have hbw := hide hbr
    clear hfx hx hq
    have hB : ∀ b : Bool, b = false ∨ b = true := fun b => by cases b <;> simp
    rcases hB (x.2 == st) with hpx | hpx
    · have HFY := hide (show (if x.2 = st then [x.1] else []) = [] by simp at hpx; simp [hpx])
      go_wp2_with fail
      go_roundw
      case rel => exact ⟨k + 1, by omega, by go_num, hide (by rw [HFX.out, HFY.out]; simpa using hM.out), hbw.out⟩
      case measure => simp [intOf]; omega
    · have HFY := hide (show (if x.2 = st then [x.1] else []) = [x.1] by simp at hpx; simp [hpx])
      have HO2 := hide (hM.out.alloc (.cells #[.int .i64 x.1] 3))
      have HR2 := hide (Ints.newRow2 wr 3 [x.1] rfl)
      have HZ := hide (show w1.heap.size ≤ (wr.alloc (.cells #[.int .i64 x.1] 3)).heap.size by have := hbw.out.size; simp; omega)
      go_wp2_with (at_builtin; refine append_ints rfl _ _ rfl w1.heap.size _ q rfl HO2.out (wr.heap.size + 1) (some ⟨wr.heap.size, 0, none⟩) _ [x.1] rfl HR2.out (by simp; omega) HZ.out ?_; intro v3 w3 ho3 hg3 _; have ho3 := hide ho3; have hg3 := hide hg3)
      have hb3 : Below w1.heap.size w1 w3 := (hbw.out.alloc hbw.out.size (.cells #[.int .i64 x.1] 3)).grown hg3.out (by have := hbw.out.size; simp; omega) (fun g hg => (HO2.out.lt g hg).1)
      go_roundw
      case rel => exact ⟨k + 1, by omega, by go_num, hide (by rw [HFX.out, HFY.out]; simpa using ho3.out), hb3⟩
      case measure => simp [intOf]; omega
  · obtain rfl : k = l.length := by omega
    have hM2 := hM.out
    rw [List.take_length, ← HMP.out] at hM2
    have HM := hide hM2
    clear hM hM2
    go_wp2_with fail
    go_ret
    exact ⟨_, rfl, own_lowerI HM.out HB1.out.size, HB1.out.trans (hbr.mono HB1.out.size)⟩
theorem hits_ref (h : MH) (m : Mod) (f : Int × Int) (mc : Int) (w : World) (d : MD w w.heap.size h m) :
    Calls Tryz.prog 61 #[.agg #[.slice h.s m.sT.length h.sc, .slice h.f m.fT.length h.fc, .slice h.r m.rT.length h.rc, .slice h.m m.mT.length h.mc, .slice h.l m.lT.length h.lc, .slice h.i m.iT.length h.ic, .int .i64 m.dT, .int .i64 m.oT, .int .i64 m.vT, .int .i64 m.aT, .slice h.u m.uT.length h.uc], .agg #[.int .i64 f.1, .int .i64 f.2], .int .i64 mc] w (AnsB w (.bool (hitsB m f mc))) := by
 have HS := hide (S2.start w #[.slice h.s m.sT.length h.sc, .slice h.f m.fT.length h.fc, .slice h.r m.rT.length h.rc, .slice h.m m.mT.length h.mc, .slice h.l m.lT.length h.lc, .slice h.i m.iT.length h.ic, .int .i64 m.dT, .int .i64 m.oT, .int .i64 m.vT, .int .i64 m.aT, .slice h.u m.uT.length h.uc] #[.int .i64 f.1, .int .i64 f.2])
 have HD := hide (fun W (hb : Below w.heap.size w W) => domain_ref h m f.1 mc W (d.grow hb))
 have hU : undef = Value.tuple #[] := rfl
 clear d
 by_cases hf : 1 ≤ f.2
 · have HV := hide (show hitsB m f mc = (domI m f.1 mc == f.2) by unfold hitsB; rw [decide_eq_true hf, Bool.true_and, Bool.eq_iff_iff, decide_eq_true_eq, beq_iff_eq])
   go_enter Tryz.func61, Tryz.ntmps61
   go_wp2_with fail
   have HC := hide (HD.out _ HS.out.drew.2.2)
   first
    | (go_region_held3 (fun W => (W.cell? ⟨w.heap.size, 0, none⟩ = some (.slice h.s m.sT.length h.sc) ∧ W.cell? ⟨w.heap.size, 1, none⟩ = some (.slice h.f m.fT.length h.fc) ∧ W.cell? ⟨w.heap.size, 2, none⟩ = some (.slice h.r m.rT.length h.rc) ∧ W.cell? ⟨w.heap.size, 3, none⟩ = some (.slice h.m m.mT.length h.mc) ∧ W.cell? ⟨w.heap.size, 4, none⟩ = some (.slice h.l m.lT.length h.lc) ∧ W.cell? ⟨w.heap.size, 5, none⟩ = some (.slice h.i m.iT.length h.ic) ∧ W.cell? ⟨w.heap.size, 6, none⟩ = some (.int .i64 m.dT) ∧ W.cell? ⟨w.heap.size, 7, none⟩ = some (.int .i64 m.oT) ∧ W.cell? ⟨w.heap.size, 8, none⟩ = some (.int .i64 m.vT) ∧ W.cell? ⟨w.heap.size, 9, none⟩ = some (.int .i64 m.aT) ∧ W.cell? ⟨w.heap.size, 10, none⟩ = some (.slice h.u m.uT.length h.uc) ∧ W.cell? ⟨w.heap.size + 1, 0, none⟩ = some (.int .i64 f.1) ∧ W.cell? ⟨w.heap.size + 1, 1, none⟩ = some (.int .i64 f.2)) ∧ S2 w #[.slice h.s m.sT.length h.sc, .slice h.f m.fT.length h.fc, .slice h.r m.rT.length h.rc, .slice h.m m.mT.length h.mc, .slice h.l m.lT.length h.lc, .slice h.i m.iT.length h.ic, .int .i64 m.dT, .int .i64 m.oT, .int .i64 m.vT, .int .i64 m.aT, .slice h.u m.uT.length h.uc] #[.int .i64 f.1, .int .i64 f.2] W) ((with_reducible (first | (go_keep; done) | exact ⟨S2.cells HS.out.drew, HS.out.drew⟩ | exact ⟨S2.cells c7, c7⟩ | (have hH := (by assumption : _ ∧ S2 _ _ _ _); exact ⟨S2.cells (S2.drew hH.2), S2.drew hH.2⟩)))) (((with_reducible refine HC.out.mono ?_); rintro e w1 ⟨rfl, hb1⟩; have c7 := S2.grow HS.out.drew hb1)))
    | fail
   all_goals
    go_wp2_with fail
    go_ret
    exact ⟨ret_congr (by rw [HV.out]; rfl), c7.2.2⟩
 · have HF := hide hf
   have HV := hide (show hitsB m f mc = false by unfold hitsB; rw [decide_eq_false hf, Bool.false_and])
   clear hf
   go_enter Tryz.func61, Tryz.ntmps61
   go_wp2_with fail
   refine (show ∀ W0, S2 w #[.slice h.s m.sT.length h.sc, .slice h.f m.fT.length h.fc, .slice h.r m.rT.length h.rc, .slice h.m m.mT.length h.mc, .slice h.l m.lT.length h.lc, .slice h.i m.iT.length h.ic, .int .i64 m.dT, .int .i64 m.oT, .int .i64 m.vT, .int .i64 m.aT, .slice h.u m.uT.length h.uc] #[.int .i64 f.1, .int .i64 f.2] W0 → Code.wp Tryz.prog _ _ _ W0 from ?_) _ HS.out
   intro W0 hS0
   have g1 := hS0.2.1.cell 1
   have gl := hS0.2.1.lt
   simp at g1
   have HS0 := hide hS0
   have hd : decide (1 ≤ f.2) = false := decide_eq_false (by have := HF.out; omega)
   clear hS0
   go_quiet (fail)
   go_wp2_with fail
   go_ret
   exact ⟨ret_congr (by rw [HV.out]; rfl), below_drawn HS0.out.2.2 _⟩
structure SvW (w : World) (h : MH) (m : Mod) (f : Int × Int) (q : Addr) (x : Int) (w2 W : World) : Prop where
 s : Blk W w.heap.size 29 #[.slice h.s m.sT.length h.sc, .slice h.f m.fT.length h.fc, .slice h.r m.rT.length h.rc, .slice h.m m.mT.length h.mc, .slice h.l m.lT.length h.lc, .slice h.i m.iT.length h.ic, .int .i64 m.dT, .int .i64 m.oT, .int .i64 m.vT, .int .i64 m.aT, .slice h.u m.uT.length h.uc]
 f : Blk W (w.heap.size + 1 + 1) 37 #[.int .i64 f.1, .int .i64 f.2]
 x : W.cell? q = some (.int .i64 x)
 lt : q.block < w2.heap.size
 b : Below w2.heap.size w2 W
theorem SvW.drew {w : World} {h : MH} {m : Mod} {f : Int × Int} {q : Addr} {x : Int} {w2 W : World} (s : SvW w h m f q x w2 W) : SvW w h m f q x w2 W.drew := ⟨s.s.drew, s.f.drew, s.x, s.lt, s.b.drew⟩
theorem SvW.grow {w : World} {h : MH} {m : Mod} {f : Int × Int} {q : Addr} {x : Int} {w2 W W' : World} (s : SvW w h m f q x w2 W) (hb : Below W.heap.size W W') : SvW w h m f q x w2 W' :=
 ⟨s.s.below hb s.s.lt, s.f.below hb s.f.lt, (hb.cell (Nat.lt_of_lt_of_le s.lt s.b.size)).trans s.x, s.lt, s.b.trans (hb.mono s.b.size)⟩
theorem SvW.cells {w : World} {h : MH} {m : Mod} {f : Int × Int} {q : Addr} {x : Int} {w2 W : World} (s : SvW w h m f q x w2 W) : (W.cell? ⟨w.heap.size, 0, none⟩ = some (.slice h.s m.sT.length h.sc) ∧ W.cell? ⟨w.heap.size, 1, none⟩ = some (.slice h.f m.fT.length h.fc) ∧ W.cell? ⟨w.heap.size, 2, none⟩ = some (.slice h.r m.rT.length h.rc) ∧ W.cell? ⟨w.heap.size, 3, none⟩ = some (.slice h.m m.mT.length h.mc) ∧ W.cell? ⟨w.heap.size, 4, none⟩ = some (.slice h.l m.lT.length h.lc) ∧ W.cell? ⟨w.heap.size, 5, none⟩ = some (.slice h.i m.iT.length h.ic) ∧ W.cell? ⟨w.heap.size, 6, none⟩ = some (.int .i64 m.dT) ∧ W.cell? ⟨w.heap.size, 7, none⟩ = some (.int .i64 m.oT) ∧ W.cell? ⟨w.heap.size, 8, none⟩ = some (.int .i64 m.vT) ∧ W.cell? ⟨w.heap.size, 9, none⟩ = some (.int .i64 m.aT) ∧ W.cell? ⟨w.heap.size, 10, none⟩ = some (.slice h.u m.uT.length h.uc)) ∧ (W.cell? ⟨w.heap.size + 1 + 1, 0, none⟩ = some (.int .i64 f.1) ∧ W.cell? ⟨w.heap.size + 1 + 1, 1, none⟩ = some (.int .i64 f.2)) ∧ W.cell? q = some (.int .i64 x) := ⟨MB.cells s.s, ⟨s.f.cell 0, s.f.cell 1⟩, s.x⟩
def SviS (m : Mod) (f : Int × Int) (L : List Int) (w : World) (v i : Value) (wr : World) : Prop := ∃ k : Nat, k ≤ L.length ∧ i = .int .i64 k ∧ Hid (OwnI w.heap.size wr v ((L.take k).filter fun x => !hitsB m f x)) ∧ Below w.heap.size w wr
theorem survivors_ref (h : MH) (m : Mod) (A : Option Addr) (c : Nat) (p : PlaceM) (f : Int × Int) (item : Int) (w : World) (d : MD w w.heap.size h m) (hp : PR w w.heap.size A p) (hl : p.length ≤ 1000) (hul : (unitsP p item).length ≤ 1000) :
    Calls Tryz.prog 34 #[.agg #[.slice h.s m.sT.length h.sc, .slice h.f m.fT.length h.fc, .slice h.r m.rT.length h.rc, .slice h.m m.mT.length h.mc, .slice h.l m.lT.length h.lc, .slice h.i m.iT.length h.ic, .int .i64 m.dT, .int .i64 m.oT, .int .i64 m.vT, .int .i64 m.aT, .slice h.u m.uT.length h.uc], .agg #[.slice A p.length c], .agg #[.int .i64 f.1, .int .i64 f.2], .int .i64 item] w (IntsR w (survP m p f item)) := by
 have hb0 : Below w.heap.size w (((w.alloc (.cells #[.slice h.s m.sT.length h.sc, .slice h.f m.fT.length h.fc, .slice h.r m.rT.length h.rc, .slice h.m m.mT.length h.mc, .slice h.l m.lT.length h.lc, .slice h.i m.iT.length h.ic, .int .i64 m.dT, .int .i64 m.oT, .int .i64 m.vT, .int .i64 m.aT, .slice h.u m.uT.length h.uc] 29)).alloc (.cells #[.slice A p.length c] 35)).alloc (.cells #[.int .i64 f.1, .int .i64 f.2] 37)) := (((Below.refl w.heap.size w).alloc (Nat.le_refl _) _).alloc (by simp) _).alloc (by simp; omega) _
 have HB := hide hb0
 have HM := hide (machines_ref A c p item 0 _ (hp.grow hb0) hl hul)
 have HM0 := hide (show Blk _ w.heap.size 29 #[.slice h.s m.sT.length h.sc, .slice h.f m.fT.length h.fc, .slice h.r m.rT.length h.rc, .slice h.m m.mT.length h.mc, .slice h.l m.lT.length h.lc, .slice h.i m.iT.length h.ic, .int .i64 m.dT, .int .i64 m.oT, .int .i64 m.vT, .int .i64 m.aT, .slice h.u m.uT.length h.uc] from ((Blk.new w 29 #[.slice h.s m.sT.length h.sc, .slice h.f m.fT.length h.fc, .slice h.r m.rT.length h.rc, .slice h.m m.mT.length h.mc, .slice h.l m.lT.length h.lc, .slice h.i m.iT.length h.ic, .int .i64 m.dT, .int .i64 m.oT, .int .i64 m.vT, .int .i64 m.aT, .slice h.u m.uT.length h.uc]).alloc (.cells #[.slice A p.length c] 35)).alloc (.cells #[.int .i64 f.1, .int .i64 f.2] 37))
 have HF0 := hide (show Blk (((w.alloc (.cells #[.slice h.s m.sT.length h.sc, .slice h.f m.fT.length h.fc, .slice h.r m.rT.length h.rc, .slice h.m m.mT.length h.mc, .slice h.l m.lT.length h.lc, .slice h.i m.iT.length h.ic, .int .i64 m.dT, .int .i64 m.oT, .int .i64 m.vT, .int .i64 m.aT, .slice h.u m.uT.length h.uc] 29)).alloc (.cells #[.slice A p.length c] 35)).alloc (.cells #[.int .i64 f.1, .int .i64 f.2] 37)) (w.heap.size + 1 + 1) 37 #[.int .i64 f.1, .int .i64 f.2] by
  have := Blk.new ((w.alloc (.cells #[.slice h.s m.sT.length h.sc, .slice h.f m.fT.length h.fc, .slice h.r m.rT.length h.rc, .slice h.m m.mT.length h.mc, .slice h.l m.lT.length h.lc, .slice h.i m.iT.length h.ic, .int .i64 m.dT, .int .i64 m.oT, .int .i64 m.vT, .int .i64 m.aT, .slice h.u m.uT.length h.uc] 29)).alloc (.cells #[.slice A p.length c] 35)) 37 #[.int .i64 f.1, .int .i64 f.2]
  simpa using this)
 have HML := hide (show (machinesP p item 0).length ≤ 1000 by have := machinesP_len p item 0; omega)
 have HD := hide (fun W (hb : Below w.heap.size w W) (x : Int) => hits_ref h m f x W (d.grow hb))
 have HSP := hide (show survP m p f item = (machinesP p item 0).filter fun x => !hitsB m f x from rfl)
 clear hb0 d hp
 obtain ⟨L, hL⟩ : ∃ L, L = machinesP p item 0 := ⟨_, rfl⟩
 rw [← hL] at HM HML HSP
 clear hL
 go_enter Tryz.func34, Tryz.ntmps34
 go_wp2_with (go_at_call 35; refine HM.out.mono ?_; rintro e w1 ⟨v1, rfl, ho1, hb1⟩
              obtain ⟨A1, c1, rfl, _, hI1⟩ := ho1.form
              have HM1 := hide (HM0.out.below hb1 HM0.out.lt)
              have HF1 := hide (HF0.out.below hb1 HF0.out.lt)
              have HB1 := hide (HB.out.trans (hb1.mono HB.out.size))
              have HI1 := hide hI1
              have HO := hide (OwnI.new w1 [] (Nat.le_refl _) (by simp))
              clear ho1 hb1 hI1)
 clear HM0 HF0
 go_loopw [10, 11] (fun v i wr => SviS m f L w1 v i wr) (fun _ i _ => L.length - (intOf i).toNat)
 case atStart => exact ⟨0, Nat.zero_le _, rfl, HO.out, (Below.refl _ _).alloc (Nat.le_refl _) _⟩
 case round =>
  clear HO
  obtain ⟨k, hk, rfl, hM, hbr⟩ := hrel
  by_cases hlt : k < L.length
  · obtain ⟨b, off, hA, hb, x0⟩ := int_at HI1.out hlt
    subst hA
    obtain ⟨x, hx⟩ : ∃ x, x = L[k] := ⟨_, rfl⟩
    have hfx : ((L.take (k + 1)).filter fun x => !hitsB m f x) = ((L.take k).filter fun x => !hitsB m f x) ++ if hitsB m f x = true then [] else [x] := by
     rw [List.take_succ_eq_append_getElem hlt, List.filter_append, hx]
     cases e : hitsB m f L[k] <;> simp [e]
    obtain ⟨q, hq⟩ : ∃ q, q = (L.take k).filter fun x => !hitsB m f x := ⟨_, rfl⟩
    have hql : q.length ≤ 1000 := by
     rw [hq]; have := List.length_filter_le (fun x => !hitsB m f x) (L.take k); have := HML.out; simp at *; omega
    rw [← hx] at x0
    rw [← hq] at hM hfx
    have HFX := hide hfx
    have HS := hide (show SvW w h m f ⟨b, off + k, none⟩ x w1 wr from ⟨HM1.out.below hbr HM1.out.lt, HF1.out.below hbr HF1.out.lt, (hbr.cell (p := ⟨b, off + k, none⟩) hb).trans x0, hb, hbr⟩)
    have hlI : (k : Int) < (L.length : Int) := by omega
    have HLT := hide hlt
    have hLl := HML.out
    have HC := hide (HD.out wr.drew (HB1.out.trans (HS.out.drew.b.mono HB1.out.size)) x)
    obtain ⟨⟨a0, a1, a2, a3, a4, a5, a6, a7, a8, a9, a10⟩, ⟨f0, f1⟩, x1⟩ := HS.out.cells
    have al := HS.out.s.lt
    have fl := HS.out.f.lt
    have xl := Nat.lt_of_lt_of_le hb hbr.size
    clear hfx hx hq hbr x0 hb
    cases hh : hitsB m f x
    · rw [hh] at HC HFX
      go_wp2_with fail
      go_region_held3 (fun W => ((W.cell? ⟨w.heap.size, 0, none⟩ = some (.slice h.s m.sT.length h.sc) ∧ W.cell? ⟨w.heap.size, 1, none⟩ = some (.slice h.f m.fT.length h.fc) ∧ W.cell? ⟨w.heap.size, 2, none⟩ = some (.slice h.r m.rT.length h.rc) ∧ W.cell? ⟨w.heap.size, 3, none⟩ = some (.slice h.m m.mT.length h.mc) ∧ W.cell? ⟨w.heap.size, 4, none⟩ = some (.slice h.l m.lT.length h.lc) ∧ W.cell? ⟨w.heap.size, 5, none⟩ = some (.slice h.i m.iT.length h.ic) ∧ W.cell? ⟨w.heap.size, 6, none⟩ = some (.int .i64 m.dT) ∧ W.cell? ⟨w.heap.size, 7, none⟩ = some (.int .i64 m.oT) ∧ W.cell? ⟨w.heap.size, 8, none⟩ = some (.int .i64 m.vT) ∧ W.cell? ⟨w.heap.size, 9, none⟩ = some (.int .i64 m.aT) ∧ W.cell? ⟨w.heap.size, 10, none⟩ = some (.slice h.u m.uT.length h.uc)) ∧ (W.cell? ⟨w.heap.size + 1 + 1, 0, none⟩ = some (.int .i64 f.1) ∧ W.cell? ⟨w.heap.size + 1 + 1, 1, none⟩ = some (.int .i64 f.2)) ∧ W.cell? ⟨b, off + k, none⟩ = some (.int .i64 x)) ∧ SvW w h m f ⟨b, off + k, none⟩ x w1 W)
       ((with_reducible (first | (go_keep; done) | exact ⟨SvW.cells HS.out.drew, HS.out.drew⟩ | exact ⟨SvW.cells c7, c7⟩ | (have hH := (by assumption : _ ∧ SvW _ _ _ _ _ _ _ _); exact ⟨SvW.cells (SvW.drew hH.2), SvW.drew hH.2⟩))))
       (((with_reducible refine HC.out.mono ?_); rintro e w5 ⟨rfl, hb5⟩; have c7 := SvW.grow HS.out.drew hb5))
      have HS5 := hide c7
      have x5 := c7.x
      have xl5 := Nat.lt_of_lt_of_le c7.lt c7.b.size
      have HO5 := hide (OwnI.below (w := wr.drew) hM.out hb5)
      have HO6 := hide (HO5.out.alloc (.cells #[.int .i64 x] 3))
      have HR6 := hide (Ints.newRow2 w5 3 [x] rfl)
      have HZ := hide (show w1.heap.size ≤ (w5.alloc (.cells #[.int .i64 x] 3)).heap.size by have := c7.b.size; simp; omega)
      clear c7 hb5
      go_wp2_with (at_builtin; refine append_ints rfl _ _ rfl w1.heap.size _ q rfl HO6.out (w5.heap.size + 1) (some ⟨w5.heap.size, 0, none⟩) _ [x] rfl HR6.out (by simp; omega) HZ.out ?_; intro v3 w3 ho3 hg3 _; have ho3 := hide ho3; have hg3 := hide hg3)
      have hb3 : Below w1.heap.size w1 w3 := (HS5.out.b.alloc HS5.out.b.size (.cells #[.int .i64 x] 3)).grown hg3.out HZ.out (fun g hg => (HO6.out.lt g hg).1)
      go_roundw
      case rel => exact ⟨k + 1, HLT.out, by have := HML.out; have := HLT.out; go_num, hide (by rw [HFX.out]; simpa using ho3.out), hb3⟩
      case measure => have := HML.out; have := HLT.out; simp [intOf]; omega
    · rw [hh] at HC HFX
      go_wp2_with fail
      go_region_held3 (fun W => ((W.cell? ⟨w.heap.size, 0, none⟩ = some (.slice h.s m.sT.length h.sc) ∧ W.cell? ⟨w.heap.size, 1, none⟩ = some (.slice h.f m.fT.length h.fc) ∧ W.cell? ⟨w.heap.size, 2, none⟩ = some (.slice h.r m.rT.length h.rc) ∧ W.cell? ⟨w.heap.size, 3, none⟩ = some (.slice h.m m.mT.length h.mc) ∧ W.cell? ⟨w.heap.size, 4, none⟩ = some (.slice h.l m.lT.length h.lc) ∧ W.cell? ⟨w.heap.size, 5, none⟩ = some (.slice h.i m.iT.length h.ic) ∧ W.cell? ⟨w.heap.size, 6, none⟩ = some (.int .i64 m.dT) ∧ W.cell? ⟨w.heap.size, 7, none⟩ = some (.int .i64 m.oT) ∧ W.cell? ⟨w.heap.size, 8, none⟩ = some (.int .i64 m.vT) ∧ W.cell? ⟨w.heap.size, 9, none⟩ = some (.int .i64 m.aT) ∧ W.cell? ⟨w.heap.size, 10, none⟩ = some (.slice h.u m.uT.length h.uc)) ∧ (W.cell? ⟨w.heap.size + 1 + 1, 0, none⟩ = some (.int .i64 f.1) ∧ W.cell? ⟨w.heap.size + 1 + 1, 1, none⟩ = some (.int .i64 f.2)) ∧ W.cell? ⟨b, off + k, none⟩ = some (.int .i64 x)) ∧ SvW w h m f ⟨b, off + k, none⟩ x w1 W)
       ((with_reducible (first | (go_keep; done) | exact ⟨SvW.cells HS.out.drew, HS.out.drew⟩ | exact ⟨SvW.cells c7, c7⟩ | (have hH := (by assumption : _ ∧ SvW _ _ _ _ _ _ _ _); exact ⟨SvW.cells (SvW.drew hH.2), SvW.drew hH.2⟩))))
       (((with_reducible refine HC.out.mono ?_); rintro e w5 ⟨rfl, hb5⟩; have c7 := SvW.grow HS.out.drew hb5))
      go_wp2_with fail
      go_roundw
      case rel => exact ⟨k + 1, HLT.out, by have := HML.out; have := HLT.out; go_num, hide (by rw [HFX.out]; simpa using OwnI.below (w := wr.drew) hM.out hb5), c7.b⟩
      case measure => have := HML.out; have := HLT.out; simp [intOf]; omega
  · obtain rfl : k = L.length := by omega
    have hM2 := hM.out
    rw [List.take_length, ← HSP.out] at hM2
    have HMM := hide hM2
    clear hM hM2
    go_wp2_with fail
    go_ret
    exact ⟨_, rfl, own_lowerI HMM.out HB1.out.size, HB1.out.trans (hbr.mono HB1.out.size)⟩
end Go.Proofs.YtlnjaemdelnceaaGreatDoor
