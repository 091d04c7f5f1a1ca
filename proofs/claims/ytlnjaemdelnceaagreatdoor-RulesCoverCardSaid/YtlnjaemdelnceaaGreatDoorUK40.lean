/- A part of the claim: see its last text. -/
import Derived.Test.YtlnjaemdelnceaaGreatDoorUK39

set_option maxRecDepth 100000
set_option maxHeartbeats 16000000
namespace Go.Proofs.YtlnjaemdelnceaaGreatDoor
open Go Go.RowKit Go.Proofs
theorem filter_first {l : List UnitM} {g : Int → Bool} {q : Nat} (hq : q < l.length) (h : g l[q].1 = true) (hb : ∀ j (hj : j < l.length), j < q → g l[j].1 = false) : ∃ r, (l.map (·.1)).filter g = l[q].1 :: r := by
 have e : l.map (·.1) = (l.take q).map (·.1) ++ (l[q].1 :: (l.drop (q + 1)).map (·.1)) := by
  rw [← List.map_cons (f := fun u : UnitM => u.1), ← List.drop_eq_getElem_cons hq, ← List.map_append, List.take_append_drop]
 have h0 : ((l.take q).map (·.1)).filter g = [] := List.filter_eq_nil_iff.2 fun x hx => by
  obtain ⟨u, hu, rfl⟩ := List.mem_map.1 hx
  obtain ⟨j, hj, rfl⟩ := List.getElem_of_mem hu
  rw [List.length_take] at hj
  rw [List.getElem_take, hb j (by omega) (by omega)]
  simp
 rw [e, List.filter_append, h0, List.nil_append, List.filter_cons_of_pos h]
 exact ⟨_, rfl⟩
theorem filter_no {l : List UnitM} {g : Int → Bool} (hb : ∀ j (hj : j < l.length), g l[j].1 = false) : (l.map (·.1)).filter g = [] := List.filter_eq_nil_iff.2 fun x hx => by
 obtain ⟨u, hu, rfl⟩ := List.mem_map.1 hx
 obtain ⟨j, hj, rfl⟩ := List.getElem_of_mem hu
 rw [hb j hj]; simp
def FnR (w : World) (M P : Array Value) (q : Addr) (n : Int) (W0 W : World) : Prop := MPB w M P W ∧ W.cell? q = some (.int .i64 n) ∧ q.block < W.heap.size ∧ Below W0.heap.size W0 W
theorem FnR.drew {w : World} {M P : Array Value} {q : Addr} {n : Int} {W0 W : World} (s : FnR w M P q n W0 W) : FnR w M P q n W0 W.drew := ⟨s.1.drew, s.2.1, s.2.2.1, s.2.2.2.drew⟩
theorem FnR.grow {w : World} {M P : Array Value} {q : Addr} {n : Int} {W0 W W2 : World} (s : FnR w M P q n W0 W) (hb : Below W.heap.size W W2) : FnR w M P q n W0 W2 := ⟨s.1.grow hb, (hb.cell s.2.2.1).trans s.2.1, Nat.lt_of_lt_of_le s.2.2.1 hb.size, s.2.2.2.trans (hb.mono s.2.2.2.size)⟩
theorem FnR.cells {w : World} {h : MH} {m : Mod} {P : Array Value} {q : Addr} {n : Int} {W0 W : World} (s : FnR w #[.slice h.s m.sT.length h.sc, .slice h.f m.fT.length h.fc, .slice h.r m.rT.length h.rc, .slice h.m m.mT.length h.mc, .slice h.l m.lT.length h.lc, .slice h.i m.iT.length h.ic, .int .i64 m.dT, .int .i64 m.oT, .int .i64 m.vT, .int .i64 m.aT, .slice h.u m.uT.length h.uc] P q n W0 W) : (W.cell? ⟨w.heap.size, 0, none⟩ = some (.slice h.s m.sT.length h.sc) ∧ W.cell? ⟨w.heap.size, 1, none⟩ = some (.slice h.f m.fT.length h.fc) ∧ W.cell? ⟨w.heap.size, 2, none⟩ = some (.slice h.r m.rT.length h.rc) ∧ W.cell? ⟨w.heap.size, 3, none⟩ = some (.slice h.m m.mT.length h.mc) ∧ W.cell? ⟨w.heap.size, 4, none⟩ = some (.slice h.l m.lT.length h.lc) ∧ W.cell? ⟨w.heap.size, 5, none⟩ = some (.slice h.i m.iT.length h.ic) ∧ W.cell? ⟨w.heap.size, 6, none⟩ = some (.int .i64 m.dT) ∧ W.cell? ⟨w.heap.size, 7, none⟩ = some (.int .i64 m.oT) ∧ W.cell? ⟨w.heap.size, 8, none⟩ = some (.int .i64 m.vT) ∧ W.cell? ⟨w.heap.size, 9, none⟩ = some (.int .i64 m.aT) ∧ W.cell? ⟨w.heap.size, 10, none⟩ = some (.slice h.u m.uT.length h.uc)) ∧ W.cell? q = some (.int .i64 n) := ⟨MB.cells s.1.m, s.2.1⟩
theorem FnR.cells2 {w : World} {h : MH} {m : Mod} {A : Option Addr} {k c bi oi : Nat} {q : Addr} {n : Int} {W0 W : World} (hA : h.i = some ⟨bi, oi, none⟩) (s : FnR w #[.slice h.s m.sT.length h.sc, .slice h.f m.fT.length h.fc, .slice h.r m.rT.length h.rc, .slice h.m m.mT.length h.mc, .slice h.l m.lT.length h.lc, .slice h.i m.iT.length h.ic, .int .i64 m.dT, .int .i64 m.oT, .int .i64 m.vT, .int .i64 m.aT, .slice h.u m.uT.length h.uc] #[.slice A k c] q n W0 W) : W.cell? ⟨w.heap.size + 1, 0, none⟩ = some (.slice A k c) ∧ W.cell? ⟨w.heap.size, 5, none⟩ = some (.slice (some ⟨bi, oi, none⟩) m.iT.length h.ic) ∧ W.cell? q = some (.int .i64 n) := ⟨s.1.p.cell 0, by rw [← hA]; exact s.1.m.cell 5, s.2.1⟩
theorem final_ref (h : MH) (m : Mod) (Ap : Option Addr) (cp : Nat) (p : PlaceM) (w : World) (d : MD w w.heap.size h m) (hp : PR w w.heap.size Ap p) (hil : m.iT.length ≤ 1000) (hl : p.length ≤ 1000) (hul : ∀ i, (unitsP p i).length ≤ 1000) :
    Calls Tryz.prog 20 #[.agg #[.slice h.s m.sT.length h.sc, .slice h.f m.fT.length h.fc, .slice h.r m.rT.length h.rc, .slice h.m m.mT.length h.mc, .slice h.l m.lT.length h.lc, .slice h.i m.iT.length h.ic, .int .i64 m.dT, .int .i64 m.oT, .int .i64 m.vT, .int .i64 m.aT, .slice h.u m.uT.length h.uc], .agg #[.slice Ap p.length cp]] w (AnsR w (.tuple #[.int .i64 (finalM m p).1, .int .i64 (finalM m p).2.1, .bool (finalM m p).2.2])) := by
 have HS := hide (MPB.start w #[.slice h.s m.sT.length h.sc, .slice h.f m.fT.length h.fc, .slice h.r m.rT.length h.rc, .slice h.m m.mT.length h.mc, .slice h.l m.lT.length h.lc, .slice h.i m.iT.length h.ic, .int .i64 m.dT, .int .i64 m.oT, .int .i64 m.vT, .int .i64 m.aT, .slice h.u m.uT.length h.uc] #[.slice Ap p.length cp])
 have HD := hide (fun W (hW : Below w.heap.size w W) => d.grow hW)
 have HUN := hide (fun W (hW : Below w.heap.size w W) i => units_rd Ap cp p i W (hp.grow hW) (by omega))
 have HDK := hide (fun W (hW : Below w.heap.size w W) n => darkR_prog h m n W (d.grow hW))
 have HM := hide (fun W (hW : Below w.heap.size w W) i => machines_ref Ap cp p i 0 W (hp.grow hW) hl (hul i))
 have HUL := hide hul
 have H0 := hide (show finalM m p = finalGo m p 0 (m.iT.drop 0) from rfl)
 have hB2 : ∀ b : Bool, b = false ∨ b = true := fun b => by cases b <;> simp
 clear d hp hul
 go_enter Tryz.func20, Tryz.ntmps20
 go_wp2_with fail
 go_loopw [7] (fun i wr => FnI m p w #[.slice h.s m.sT.length h.sc, .slice h.f m.fT.length h.fc, .slice h.r m.rT.length h.rc, .slice h.m m.mT.length h.mc, .slice h.l m.lT.length h.lc, .slice h.i m.iT.length h.ic, .int .i64 m.dT, .int .i64 m.oT, .int .i64 m.vT, .int .i64 m.aT, .slice h.u m.uT.length h.uc] #[.slice Ap p.length cp] i wr) (fun i _ => m.iT.length - (intOf i).toNat)
 case atStart => exact ⟨0, Nat.zero_le _, rfl, H0, HS⟩
 case round =>
  clear H0 HS
  obtain ⟨k, hk, rfl, HF, HS⟩ := hrel
  obtain ⟨a0, a1, a2, a3, a4, a5, a6, a7, a8, a9, a10⟩ := MB.cells HS.out.m
  have p0 := HS.out.p.cell 0
  simp at p0
  have ml := HS.out.m.lt
  have pl := HS.out.p.lt
  by_cases hlt : k < m.iT.length
  · rw [finalGo_at m p hlt] at HF
    obtain ⟨x, hx⟩ : ∃ x, x = m.iT[k] := ⟨_, rfl⟩
    have HX := hide (show ∀ W, Below w.heap.size w W → ∃ bi oi, h.i = some ⟨bi, oi, none⟩ ∧ bi < W.heap.size ∧ W.cell? ⟨bi, oi + k * 7 + 2, none⟩ = some (.int .i64 x.count) from fun W hW => by
     obtain ⟨bi, oi, Ai, ci, hA, hbi, i0, i1, i2, i3, i4, i5, i6, _, _, _, _⟩ := (HD.out W hW).dI.item hlt
     exact ⟨bi, oi, hA, hbi, by rw [hx]; exact i2⟩)
    rw [← hx] at HF
    obtain ⟨K, hK⟩ : ∃ K, K = machinesP p ((k : Int) + 1) 0 := ⟨_, rfl⟩
    obtain ⟨l, hL⟩ : ∃ l, l = unitsP p ((k : Int) + 1) := ⟨_, rfl⟩
    have HFA := hide (show finalAt m p k x = finalOf k ((l.map (·.1)).filter (inDark m)) K.length x.count by rw [hK, hL]; rfl)
    have hll : l.length ≤ 1000 := by rw [hL]; exact HUL.out _
    have hKl : K.length ≤ 1000 := by rw [hK]; have := machinesP_len p ((k : Int) + 1) 0; have := HUL.out ((k : Int) + 1); omega
    have hkI : (k : Int) < (m.iT.length : Int) := by omega
    have hwk : IntKind.i64.wrap ((k : Int) + 1) = (k : Int) + 1 := by rw [IntKind.wrap_i64]; omega
    have HUK := hide (HUN.out wr HS.out.b ((k : Int) + 1))
    have HMK := hide (fun W (hW : Below w.heap.size w W) => HM.out W hW ((k : Int) + 1))
    rw [← hL] at HUK
    rw [← hK] at HMK
    have HKL := hide hlt
    obtain ⟨wo, rfl⟩ : ∃ wo : World, wo = wr := ⟨_, rfl⟩
    clear hx hK hL hlt hk
    go_wp2_with (go_at_call 43; (with_reducible refine HUK.out.mono ?_); rintro e w2 ⟨A2, c2, rfl, hr, hb⟩; have HR := hide hr; have HS2 := hide (HS.out.grow hb); clear hr hb)
    clear a0 a1 a2 a3 a4 a5 a6 a7 a8 a9 a10 p0 ml pl
    go_loopw [9] (fun i wr => ∃ q : Nat, q ≤ l.length ∧ i = .int .i64 q ∧ Hid (∀ j (hj : j < l.length), j < q → inDark m l[j].1 = false) ∧ Hid (MPB w #[.slice h.s m.sT.length h.sc, .slice h.f m.fT.length h.fc, .slice h.r m.rT.length h.rc, .slice h.m m.mT.length h.mc, .slice h.l m.lT.length h.lc, .slice h.i m.iT.length h.ic, .int .i64 m.dT, .int .i64 m.oT, .int .i64 m.vT, .int .i64 m.aT, .slice h.u m.uT.length h.uc] #[.slice Ap p.length cp] wr ∧ Below w2.heap.size w2 wr)) (fun i _ => l.length - (intOf i).toNat)
    case atStart => exact ⟨0, Nat.zero_le _, rfl, fun j hj h0 => absurd h0 (by omega), HS2.out, Below.refl _ _⟩
    case round =>
     clear HS2 HS
     obtain ⟨q, hq, rfl, hs, hS⟩ := hrel
     by_cases hlq : q < l.length
     · obtain ⟨b, off, hA, hb, x0, x1⟩ := (HR.out.grow hS.out.2).at_ hlq
       subst hA
       obtain ⟨y, hy⟩ : ∃ y, y = l[q].1 := ⟨_, rfl⟩
       rw [← hy] at x0
       have HSD := hide (show FnR w #[.slice h.s m.sT.length h.sc, .slice h.f m.fT.length h.fc, .slice h.r m.rT.length h.rc, .slice h.m m.mT.length h.mc, .slice h.l m.lT.length h.lc, .slice h.i m.iT.length h.ic, .int .i64 m.dT, .int .i64 m.oT, .int .i64 m.vT, .int .i64 m.aT, .slice h.u m.uT.length h.uc] #[.slice Ap p.length cp] ⟨b, off + q * 2, none⟩ y w2 wr from ⟨hS.out.1, x0, hb, hS.out.2⟩)
       have hqI : (q : Int) < (l.length : Int) := by omega
       have hbl : b < wr.heap.size := hb
       have HDY := hide (fun V (hb : Below w.heap.size w V) => HDK.out V hb y)
       obtain ⟨db, hdb⟩ : ∃ db, db = inDark m y := ⟨_, rfl⟩
       rw [← hdb] at HDY
       have HY := hide (show inDark m l[q].1 = db by rw [← hy, hdb])
       have HYY := hide (show db = true → ∃ r, (l.map (·.1)).filter (inDark m) = y :: r from fun e => by rw [hy]; exact filter_first hlq (by rw [← hy, ← hdb, e]) hs.out)
       have HLQ := hide hlq
       clear hy x0 x1 hS hdb
       go_wp2_with fail
       (go_region_held3 (fun W => ((W.cell? ⟨w.heap.size, 0, none⟩ = some (.slice h.s m.sT.length h.sc) ∧ W.cell? ⟨w.heap.size, 1, none⟩ = some (.slice h.f m.fT.length h.fc) ∧ W.cell? ⟨w.heap.size, 2, none⟩ = some (.slice h.r m.rT.length h.rc) ∧ W.cell? ⟨w.heap.size, 3, none⟩ = some (.slice h.m m.mT.length h.mc) ∧ W.cell? ⟨w.heap.size, 4, none⟩ = some (.slice h.l m.lT.length h.lc) ∧ W.cell? ⟨w.heap.size, 5, none⟩ = some (.slice h.i m.iT.length h.ic) ∧ W.cell? ⟨w.heap.size, 6, none⟩ = some (.int .i64 m.dT) ∧ W.cell? ⟨w.heap.size, 7, none⟩ = some (.int .i64 m.oT) ∧ W.cell? ⟨w.heap.size, 8, none⟩ = some (.int .i64 m.vT) ∧ W.cell? ⟨w.heap.size, 9, none⟩ = some (.int .i64 m.aT) ∧ W.cell? ⟨w.heap.size, 10, none⟩ = some (.slice h.u m.uT.length h.uc)) ∧ W.cell? ⟨b, off + q * 2, none⟩ = some (.int .i64 y)) ∧ FnR w #[.slice h.s m.sT.length h.sc, .slice h.f m.fT.length h.fc, .slice h.r m.rT.length h.rc, .slice h.m m.mT.length h.mc, .slice h.l m.lT.length h.lc, .slice h.i m.iT.length h.ic, .int .i64 m.dT, .int .i64 m.oT, .int .i64 m.vT, .int .i64 m.aT, .slice h.u m.uT.length h.uc] #[.slice Ap p.length cp] ⟨b, off + q * 2, none⟩ y w2 W) ((with_reducible (first | (go_keep; done) | exact ⟨FnR.cells HSD.out.drew, HSD.out.drew⟩ | exact ⟨FnR.cells c7, c7⟩ | (have hH := (by assumption : _ ∧ FnR _ _ _ _ _ _ _); exact ⟨FnR.cells (FnR.drew hH.2), FnR.drew hH.2⟩)))) ((go_at_call 44; have hbw := HSD.out.drew.1.b; (with_reducible refine (HDY.out _ hbw).mono ?_); rintro e w3 ⟨rfl, hb1⟩; have c7 := FnR.grow HSD.out.drew hb1; clear hb1 hbw)))
       have HSE := hide c7
       have y0 := c7.2.1
       have yl : b < w3.heap.size := c7.2.2.1
       clear c7
       cases db
       · go_wp2_with fail
         go_roundw
         case rel => exact ⟨q + 1, by have := HLQ.out; omega, by go_num, fun j hj h1 => by
          rcases Nat.lt_or_ge j q with h2 | h2
          · exact hs.out j hj h2
          · obtain rfl : j = q := by omega
            exact HY.out, HSE.out.1, HSE.out.2.2.2⟩
         case measure => have := HLQ.out; simp [intOf]; omega
       · obtain ⟨r, hr⟩ := HYY.out rfl
         have HQ := hide (show finalM m p = ((k : Int) + 1, y, false) by rw [HF.out, HFA.out, hr]; rfl)
         clear hr
         go_wp2_with fail
         go_quiet (fail)
         go_wp2_with fail
         go_ret3
         exact ⟨by rw [HQ.out]; rfl, below_drawn HSE.out.1.b _⟩
     · obtain rfl : q = l.length := by omega
       have HFN := hide (show (l.map (·.1)).filter (inDark m) = [] from filter_no fun j hj => hs.out j hj hj)
       obtain ⟨bi, oi, hA, hbi, i2⟩ := HX.out wr hS.out.1.b
       have HSD := hide (show FnR w #[.slice h.s m.sT.length h.sc, .slice h.f m.fT.length h.fc, .slice h.r m.rT.length h.rc, .slice h.m m.mT.length h.mc, .slice h.l m.lT.length h.lc, .slice h.i m.iT.length h.ic, .int .i64 m.dT, .int .i64 m.oT, .int .i64 m.vT, .int .i64 m.aT, .slice h.u m.uT.length h.uc] #[.slice Ap p.length cp] ⟨bi, oi + k * 7 + 2, none⟩ x.count w2 wr from ⟨hS.out.1, i2, hbi, hS.out.2⟩)
       have HA := hide hA
       clear hA hbi i2 hS
       go_wp2_with fail
       (go_region_held3 (fun W => (W.cell? ⟨w.heap.size + 1, 0, none⟩ = some (.slice Ap p.length cp) ∧ W.cell? ⟨w.heap.size, 5, none⟩ = some (.slice (some ⟨bi, oi, none⟩) m.iT.length h.ic) ∧ W.cell? ⟨bi, oi + k * 7 + 2, none⟩ = some (.int .i64 x.count)) ∧ FnR w #[.slice h.s m.sT.length h.sc, .slice h.f m.fT.length h.fc, .slice h.r m.rT.length h.rc, .slice h.m m.mT.length h.mc, .slice h.l m.lT.length h.lc, .slice h.i m.iT.length h.ic, .int .i64 m.dT, .int .i64 m.oT, .int .i64 m.vT, .int .i64 m.aT, .slice h.u m.uT.length h.uc] #[.slice Ap p.length cp] ⟨bi, oi + k * 7 + 2, none⟩ x.count w2 W) ((with_reducible (first | (go_keep; done) | exact ⟨FnR.cells2 HA.out HSD.out.drew, HSD.out.drew⟩ | exact ⟨FnR.cells2 HA.out c7, c7⟩ | (have hH := (by assumption : _ ∧ FnR _ _ _ _ _ _ _); exact ⟨FnR.cells2 HA.out (FnR.drew hH.2), FnR.drew hH.2⟩)))) ((go_at_call 35; have hbw := HSD.out.drew.1.b; (with_reducible refine (HMK.out _ hbw).mono ?_); rintro e w3 ⟨v3, rfl, ho3, hb1⟩; obtain ⟨A3, c3, rfl, _⟩ := ho3.form; have c7 := FnR.grow HSD.out.drew hb1; clear hb1 hbw ho3)))
       have HSE := hide c7
       clear c7
       rcases hB2 ((K.length : Int) != x.count) with g2 | g2
       · have HQ := hide (show finalM m p = finalGo m p (k + 1) (m.iT.drop (k + 1)) by rw [HF.out, HFA.out, HFN.out]; simp only [bne_eq_false_iff_eq] at g2; simp [finalOf, g2])
         go_wp2_with fail
         go_roundw
         case rel => exact ⟨k + 1, by have := HKL.out; omega, by go_num, HQ, hide HSE.out.1⟩
         case measure => have := HKL.out; simp [intOf]; omega
       · have HQ := hide (show finalM m p = ((k : Int) + 1, 0, false) by rw [HF.out, HFA.out, HFN.out]; simp only [bne_iff_ne] at g2; simp [finalOf, g2])
         go_wp2_with fail
         go_ret3
         exact ⟨by rw [HQ.out]; rfl, HSE.out.1.b⟩
  · obtain rfl : k = m.iT.length := by omega
    have HQ := hide (show finalM m p = (0, 0, true) by rw [HF.out, finalGo_end])
    go_wp2_with fail
    go_ret3
    exact ⟨by rw [HQ.out]; rfl, HS.out.b⟩
end Go.Proofs.YtlnjaemdelnceaaGreatDoor
