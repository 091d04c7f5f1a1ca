/- A part of the claim: see its last text. -/
import Derived.Test.YtcfogipaadhbeaaGreatDoorUK28

set_option maxRecDepth 100000
set_option maxHeartbeats 16000000
namespace Go.Proofs.YtcfogipaadhbeaaGreatDoor
open Go Go.RowKit Go.Proofs
def preV (m : Mod) : Bool := siteB m && decide (m.iT.length ≤ 8) && decide (m.uT.length ≤ 40) && sizesB m
theorem preV_eq (m : Mod) : validM m = (preV m && (namesB m && m.iT.all (itemOk m) && m.uT.all (ruleOk m))) := by
 unfold validM preV
 generalize siteB m = a
 generalize decide (m.iT.length ≤ 8) = b
 generalize decide (m.uT.length ≤ 40) = c
 generalize namesB m = d
 generalize m.iT.all (itemOk m) = e
 generalize m.uT.all (ruleOk m) = f
 generalize sizesB m = g
 cases a <;> cases b <;> cases c <;> cases d <;> cases e <;> cases f <;> cases g <;> rfl
theorem vno_1 (h : MH) (m : Mod) (w : World) (d : MD w w.heap.size h m) (k1 : m.rT.length ≤ h.rc) (k2 : m.mT.length ≤ h.mc) (k3 : m.lT.length ≤ h.lc) (v1 : siteB m = false) :
    Calls Tryz.prog 28 #[.agg #[.slice h.s m.sT.length h.sc, .slice h.f m.fT.length h.fc, .slice h.r m.rT.length h.rc, .slice h.m m.mT.length h.mc, .slice h.l m.lT.length h.lc, .slice h.i m.iT.length h.ic, .int .i64 m.dT, .int .i64 m.oT, .int .i64 m.vT, .int .i64 m.aT, .slice h.u m.uT.length h.uc]] w fun e w' => e = .returned (.bool false) ∧ Below w.heap.size w w' := by
 have hl0 := d.sl
 have hl5 := d.il
 have hl6 := d.ul
 have HW0 := hide (MW.start w h m)
 have HS := hide (siteValid_prog h m (w.alloc (.cells #[.slice h.s m.sT.length h.sc, .slice h.f m.fT.length h.fc, .slice h.r m.rT.length h.rc, .slice h.m m.mT.length h.mc, .slice h.l m.lT.length h.lc, .slice h.i m.iT.length h.ic, .int .i64 m.dT, .int .i64 m.oT, .int .i64 m.vT, .int .i64 m.aT, .slice h.u m.uT.length h.uc] 32)) ((MW.start w h m).md d) k1 k2 k3)
 rw [v1] at HS
 clear d
 go_enter Tryz.func28, Tryz.ntmps28
 go_wp2_with (first
  | (go_at_call 68; refine HS.out.mono ?_; rintro e w1 ⟨rfl, hb1⟩; have hW1 := HW0.out.grow hb1; obtain ⟨a0, a1, a2, a3, a4, a5, a6, a7, a8, a9, a10⟩ := MB.cells hW1.blk; have ha := hW1.lt; clear hb1)
  | (go_at_call 69; refine (within_prog _ _ _ _).mono ?_; rintro e w2 ⟨rfl, rfl⟩))
 go_ret
 exact ⟨rfl, hW1.b⟩
theorem vno_2 (h : MH) (m : Mod) (w : World) (d : MD w w.heap.size h m) (k1 : m.rT.length ≤ h.rc) (k2 : m.mT.length ≤ h.mc) (k3 : m.lT.length ≤ h.lc) (v1 : siteB m = true) (v2 : (8 : Int) < m.iT.length) :
    Calls Tryz.prog 28 #[.agg #[.slice h.s m.sT.length h.sc, .slice h.f m.fT.length h.fc, .slice h.r m.rT.length h.rc, .slice h.m m.mT.length h.mc, .slice h.l m.lT.length h.lc, .slice h.i m.iT.length h.ic, .int .i64 m.dT, .int .i64 m.oT, .int .i64 m.vT, .int .i64 m.aT, .slice h.u m.uT.length h.uc]] w fun e w' => e = .returned (.bool false) ∧ Below w.heap.size w w' := by
 have hl0 := d.sl
 have hl5 := d.il
 have hl6 := d.ul
 have HW0 := hide (MW.start w h m)
 have HS := hide (siteValid_prog h m (w.alloc (.cells #[.slice h.s m.sT.length h.sc, .slice h.f m.fT.length h.fc, .slice h.r m.rT.length h.rc, .slice h.m m.mT.length h.mc, .slice h.l m.lT.length h.lc, .slice h.i m.iT.length h.ic, .int .i64 m.dT, .int .i64 m.oT, .int .i64 m.vT, .int .i64 m.aT, .slice h.u m.uT.length h.uc] 32)) ((MW.start w h m).md d) k1 k2 k3)
 rw [v1] at HS
 clear d
 go_enter Tryz.func28, Tryz.ntmps28
 go_wp2_with (first
  | (go_at_call 68; refine HS.out.mono ?_; rintro e w1 ⟨rfl, hb1⟩; have hW1 := HW0.out.grow hb1; obtain ⟨a0, a1, a2, a3, a4, a5, a6, a7, a8, a9, a10⟩ := MB.cells hW1.blk; have ha := hW1.lt; clear hb1)
  | (go_at_call 69; refine (within_prog _ _ _ _).mono ?_; rintro e w2 ⟨rfl, rfl⟩))
 go_ret
 exact ⟨rfl, hW1.b⟩
theorem vno_3 (h : MH) (m : Mod) (w : World) (d : MD w w.heap.size h m) (k1 : m.rT.length ≤ h.rc) (k2 : m.mT.length ≤ h.mc) (k3 : m.lT.length ≤ h.lc) (v1 : siteB m = true) (v2 : (m.iT.length : Int) ≤ 8) (v3 : (40 : Int) < m.uT.length) :
    Calls Tryz.prog 28 #[.agg #[.slice h.s m.sT.length h.sc, .slice h.f m.fT.length h.fc, .slice h.r m.rT.length h.rc, .slice h.m m.mT.length h.mc, .slice h.l m.lT.length h.lc, .slice h.i m.iT.length h.ic, .int .i64 m.dT, .int .i64 m.oT, .int .i64 m.vT, .int .i64 m.aT, .slice h.u m.uT.length h.uc]] w fun e w' => e = .returned (.bool false) ∧ Below w.heap.size w w' := by
 have hl0 := d.sl
 have hl5 := d.il
 have hl6 := d.ul
 have HW0 := hide (MW.start w h m)
 have HS := hide (siteValid_prog h m (w.alloc (.cells #[.slice h.s m.sT.length h.sc, .slice h.f m.fT.length h.fc, .slice h.r m.rT.length h.rc, .slice h.m m.mT.length h.mc, .slice h.l m.lT.length h.lc, .slice h.i m.iT.length h.ic, .int .i64 m.dT, .int .i64 m.oT, .int .i64 m.vT, .int .i64 m.aT, .slice h.u m.uT.length h.uc] 32)) ((MW.start w h m).md d) k1 k2 k3)
 rw [v1] at HS
 clear d
 go_enter Tryz.func28, Tryz.ntmps28
 go_wp2_with (first
  | (go_at_call 68; refine HS.out.mono ?_; rintro e w1 ⟨rfl, hb1⟩; have hW1 := HW0.out.grow hb1; obtain ⟨a0, a1, a2, a3, a4, a5, a6, a7, a8, a9, a10⟩ := MB.cells hW1.blk; have ha := hW1.lt; clear hb1)
  | (go_at_call 69; refine (within_prog _ _ _ _).mono ?_; rintro e w2 ⟨rfl, rfl⟩))
 go_ret
 exact ⟨rfl, hW1.b⟩
theorem vno_4 (h : MH) (m : Mod) (w : World) (d : MD w w.heap.size h m) (k1 : m.rT.length ≤ h.rc) (k2 : m.mT.length ≤ h.mc) (k3 : m.lT.length ≤ h.lc) (v1 : siteB m = true) (v2 : (m.iT.length : Int) ≤ 8) (v3 : (m.uT.length : Int) ≤ 40) (v4 : wiI m.dT 1 m.sT.length = false) :
    Calls Tryz.prog 28 #[.agg #[.slice h.s m.sT.length h.sc, .slice h.f m.fT.length h.fc, .slice h.r m.rT.length h.rc, .slice h.m m.mT.length h.mc, .slice h.l m.lT.length h.lc, .slice h.i m.iT.length h.ic, .int .i64 m.dT, .int .i64 m.oT, .int .i64 m.vT, .int .i64 m.aT, .slice h.u m.uT.length h.uc]] w fun e w' => e = .returned (.bool false) ∧ Below w.heap.size w w' := by
 have hl0 := d.sl
 have hl5 := d.il
 have hl6 := d.ul
 have HW0 := hide (MW.start w h m)
 have HS := hide (siteValid_prog h m (w.alloc (.cells #[.slice h.s m.sT.length h.sc, .slice h.f m.fT.length h.fc, .slice h.r m.rT.length h.rc, .slice h.m m.mT.length h.mc, .slice h.l m.lT.length h.lc, .slice h.i m.iT.length h.ic, .int .i64 m.dT, .int .i64 m.oT, .int .i64 m.vT, .int .i64 m.aT, .slice h.u m.uT.length h.uc] 32)) ((MW.start w h m).md d) k1 k2 k3)
 rw [v1] at HS
 clear d
 go_enter Tryz.func28, Tryz.ntmps28
 go_wp2_with (first
  | (go_at_call 68; refine HS.out.mono ?_; rintro e w1 ⟨rfl, hb1⟩; have hW1 := HW0.out.grow hb1; obtain ⟨a0, a1, a2, a3, a4, a5, a6, a7, a8, a9, a10⟩ := MB.cells hW1.blk; have ha := hW1.lt; clear hb1)
  | (go_at_call 69; refine (within_prog _ _ _ _).mono ?_; rintro e w2 ⟨rfl, rfl⟩))
 go_ret
 exact ⟨rfl, hW1.b⟩
theorem vno_5 (h : MH) (m : Mod) (w : World) (d : MD w w.heap.size h m) (k1 : m.rT.length ≤ h.rc) (k2 : m.mT.length ≤ h.mc) (k3 : m.lT.length ≤ h.lc) (v1 : siteB m = true) (v2 : (m.iT.length : Int) ≤ 8) (v3 : (m.uT.length : Int) ≤ 40) (v4 : wiI m.dT 1 m.sT.length = true) (v5 : wiI m.oT 1 16 = false) :
    Calls Tryz.prog 28 #[.agg #[.slice h.s m.sT.length h.sc, .slice h.f m.fT.length h.fc, .slice h.r m.rT.length h.rc, .slice h.m m.mT.length h.mc, .slice h.l m.lT.length h.lc, .slice h.i m.iT.length h.ic, .int .i64 m.dT, .int .i64 m.oT, .int .i64 m.vT, .int .i64 m.aT, .slice h.u m.uT.length h.uc]] w fun e w' => e = .returned (.bool false) ∧ Below w.heap.size w w' := by
 have hl0 := d.sl
 have hl5 := d.il
 have hl6 := d.ul
 have HW0 := hide (MW.start w h m)
 have HS := hide (siteValid_prog h m (w.alloc (.cells #[.slice h.s m.sT.length h.sc, .slice h.f m.fT.length h.fc, .slice h.r m.rT.length h.rc, .slice h.m m.mT.length h.mc, .slice h.l m.lT.length h.lc, .slice h.i m.iT.length h.ic, .int .i64 m.dT, .int .i64 m.oT, .int .i64 m.vT, .int .i64 m.aT, .slice h.u m.uT.length h.uc] 32)) ((MW.start w h m).md d) k1 k2 k3)
 rw [v1] at HS
 clear d
 go_enter Tryz.func28, Tryz.ntmps28
 go_wp2_with (first
  | (go_at_call 68; refine HS.out.mono ?_; rintro e w1 ⟨rfl, hb1⟩; have hW1 := HW0.out.grow hb1; obtain ⟨a0, a1, a2, a3, a4, a5, a6, a7, a8, a9, a10⟩ := MB.cells hW1.blk; have ha := hW1.lt; clear hb1)
  | (go_at_call 69; refine (within_prog _ _ _ _).mono ?_; rintro e w2 ⟨rfl, rfl⟩))
 go_ret
 exact ⟨rfl, hW1.b⟩
theorem vno_6 (h : MH) (m : Mod) (w : World) (d : MD w w.heap.size h m) (k1 : m.rT.length ≤ h.rc) (k2 : m.mT.length ≤ h.mc) (k3 : m.lT.length ≤ h.lc) (v1 : siteB m = true) (v2 : (m.iT.length : Int) ≤ 8) (v3 : (m.uT.length : Int) ≤ 40) (v4 : wiI m.dT 1 m.sT.length = true) (v5 : wiI m.oT 1 16 = true) (v6 : wiI m.vT 0 (m.oT - 1) = false) :
    Calls Tryz.prog 28 #[.agg #[.slice h.s m.sT.length h.sc, .slice h.f m.fT.length h.fc, .slice h.r m.rT.length h.rc, .slice h.m m.mT.length h.mc, .slice h.l m.lT.length h.lc, .slice h.i m.iT.length h.ic, .int .i64 m.dT, .int .i64 m.oT, .int .i64 m.vT, .int .i64 m.aT, .slice h.u m.uT.length h.uc]] w fun e w' => e = .returned (.bool false) ∧ Below w.heap.size w w' := by
 have hl0 := d.sl
 have hl5 := d.il
 have hl6 := d.ul
 have HW0 := hide (MW.start w h m)
 have HS := hide (siteValid_prog h m (w.alloc (.cells #[.slice h.s m.sT.length h.sc, .slice h.f m.fT.length h.fc, .slice h.r m.rT.length h.rc, .slice h.m m.mT.length h.mc, .slice h.l m.lT.length h.lc, .slice h.i m.iT.length h.ic, .int .i64 m.dT, .int .i64 m.oT, .int .i64 m.vT, .int .i64 m.aT, .slice h.u m.uT.length h.uc] 32)) ((MW.start w h m).md d) k1 k2 k3)
 rw [v1] at HS
 have fb : 1 ≤ m.oT ∧ m.oT ≤ 16 := by simpa [wiI] using v5
 obtain ⟨fb1, fb2⟩ := fb
 clear d
 go_enter Tryz.func28, Tryz.ntmps28
 go_wp2_with (first
  | (go_at_call 68; refine HS.out.mono ?_; rintro e w1 ⟨rfl, hb1⟩; have hW1 := HW0.out.grow hb1; obtain ⟨a0, a1, a2, a3, a4, a5, a6, a7, a8, a9, a10⟩ := MB.cells hW1.blk; have ha := hW1.lt; clear hb1)
  | (go_at_call 69; refine (within_prog _ _ _ _).mono ?_; rintro e w2 ⟨rfl, rfl⟩))
 go_ret
 exact ⟨rfl, hW1.b⟩
theorem vno_7 (h : MH) (m : Mod) (w : World) (d : MD w w.heap.size h m) (k1 : m.rT.length ≤ h.rc) (k2 : m.mT.length ≤ h.mc) (k3 : m.lT.length ≤ h.lc) (v1 : siteB m = true) (v2 : (m.iT.length : Int) ≤ 8) (v3 : (m.uT.length : Int) ≤ 40) (v4 : wiI m.dT 1 m.sT.length = true) (v5 : wiI m.oT 1 16 = true) (v6 : wiI m.vT 0 (m.oT - 1) = true) (v7 : wiI m.aT 0 7 = false) :
    Calls Tryz.prog 28 #[.agg #[.slice h.s m.sT.length h.sc, .slice h.f m.fT.length h.fc, .slice h.r m.rT.length h.rc, .slice h.m m.mT.length h.mc, .slice h.l m.lT.length h.lc, .slice h.i m.iT.length h.ic, .int .i64 m.dT, .int .i64 m.oT, .int .i64 m.vT, .int .i64 m.aT, .slice h.u m.uT.length h.uc]] w fun e w' => e = .returned (.bool false) ∧ Below w.heap.size w w' := by
 have hl0 := d.sl
 have hl5 := d.il
 have hl6 := d.ul
 have HW0 := hide (MW.start w h m)
 have HS := hide (siteValid_prog h m (w.alloc (.cells #[.slice h.s m.sT.length h.sc, .slice h.f m.fT.length h.fc, .slice h.r m.rT.length h.rc, .slice h.m m.mT.length h.mc, .slice h.l m.lT.length h.lc, .slice h.i m.iT.length h.ic, .int .i64 m.dT, .int .i64 m.oT, .int .i64 m.vT, .int .i64 m.aT, .slice h.u m.uT.length h.uc] 32)) ((MW.start w h m).md d) k1 k2 k3)
 rw [v1] at HS
 have fb : 1 ≤ m.oT ∧ m.oT ≤ 16 := by simpa [wiI] using v5
 obtain ⟨fb1, fb2⟩ := fb
 clear d
 go_enter Tryz.func28, Tryz.ntmps28
 go_wp2_with (first
  | (go_at_call 68; refine HS.out.mono ?_; rintro e w1 ⟨rfl, hb1⟩; have hW1 := HW0.out.grow hb1; obtain ⟨a0, a1, a2, a3, a4, a5, a6, a7, a8, a9, a10⟩ := MB.cells hW1.blk; have ha := hW1.lt; clear hb1)
  | (go_at_call 69; refine (within_prog _ _ _ _).mono ?_; rintro e w2 ⟨rfl, rfl⟩))
 go_ret
 exact ⟨rfl, hW1.b⟩
theorem vno_pre (h : MH) (m : Mod) (w : World) (d : MD w w.heap.size h m) (k1 : m.rT.length ≤ h.rc) (k2 : m.mT.length ≤ h.mc) (k3 : m.lT.length ≤ h.lc) (hv : preV m = false) :
    Calls Tryz.prog 28 #[.agg #[.slice h.s m.sT.length h.sc, .slice h.f m.fT.length h.fc, .slice h.r m.rT.length h.rc, .slice h.m m.mT.length h.mc, .slice h.l m.lT.length h.lc, .slice h.i m.iT.length h.ic, .int .i64 m.dT, .int .i64 m.oT, .int .i64 m.vT, .int .i64 m.aT, .slice h.u m.uT.length h.uc]] w fun e w' => e = .returned (.bool false) ∧ Below w.heap.size w w' := by
 have hB : ∀ b : Bool, b = false ∨ b = true := fun b => by cases b <;> simp
 rcases hB (siteB m) with v1 | v1
 · exact vno_1 h m w d k1 k2 k3 v1
 rcases Classical.em ((m.iT.length : Int) ≤ 8) with v2 | v2
 · rcases Classical.em ((m.uT.length : Int) ≤ 40) with v3 | v3
   · rcases hB (wiI m.dT 1 m.sT.length) with v4 | v4
     · exact vno_4 h m w d k1 k2 k3 v1 v2 v3 v4
     rcases hB (wiI m.oT 1 16) with v5 | v5
     · exact vno_5 h m w d k1 k2 k3 v1 v2 v3 v4 v5
     rcases hB (wiI m.vT 0 (m.oT - 1)) with v6 | v6
     · exact vno_6 h m w d k1 k2 k3 v1 v2 v3 v4 v5 v6
     rcases hB (wiI m.aT 0 7) with v7 | v7
     · exact vno_7 h m w d k1 k2 k3 v1 v2 v3 v4 v5 v6 v7
     · have e1 : decide (m.iT.length ≤ 8) = true := decide_eq_true (by omega)
       have e2 : decide (m.uT.length ≤ 40) = true := decide_eq_true (by omega)
       rw [wi_ex] at v4
       rw [preV, v1, e1, e2, sizesB, v4, v5, v6, v7] at hv
       cases hv
   · exact vno_3 h m w d k1 k2 k3 v1 v2 (by omega)
 · exact vno_2 h m w d k1 k2 k3 v1 (by omega)
theorem vno_rest (h : MH) (m : Mod) (w : World) (d : MD w w.heap.size h m) (k1 : m.rT.length ≤ h.rc) (k2 : m.mT.length ≤ h.mc) (k3 : m.lT.length ≤ h.lc) (ha : Asc w) (hp : preV m = true) (hv : (namesB m && m.iT.all (itemOk m) && m.uT.all (ruleOk m)) = false) :
    Calls Tryz.prog 28 #[.agg #[.slice h.s m.sT.length h.sc, .slice h.f m.fT.length h.fc, .slice h.r m.rT.length h.rc, .slice h.m m.mT.length h.mc, .slice h.l m.lT.length h.lc, .slice h.i m.iT.length h.ic, .int .i64 m.dT, .int .i64 m.oT, .int .i64 m.vT, .int .i64 m.aT, .slice h.u m.uT.length h.uc]] w fun e w' => e = .returned (.bool false) ∧ Below w.heap.size w w' := by
 have hp2 := hp
 simp only [preV, sizesB, Bool.and_eq_true, decide_eq_true_eq] at hp2
 obtain ⟨⟨⟨v1, v2⟩, v3⟩, ⟨⟨⟨v7, v8⟩, v9⟩, v10⟩⟩ := hp2
 have hl0 := d.sl
 have hl5 := d.il
 have hl6 := d.ul
 have hl3 := d.ml
 have hfit := names_fit d
 have HW0 := hide (MW.start w h m)
 have D := hide d
 have hmm := @run_makeMap Tryz.prog
 have hS := siteValid_prog h m (w.alloc (.cells #[.slice h.s m.sT.length h.sc, .slice h.f m.fT.length h.fc, .slice h.r m.rT.length h.rc, .slice h.m m.mT.length h.mc, .slice h.l m.lT.length h.lc, .slice h.i m.iT.length h.ic, .int .i64 m.dT, .int .i64 m.oT, .int .i64 m.vT, .int .i64 m.aT, .slice h.u m.uT.length h.uc] 32)) ((MW.start w h m).md d) k1 k2 k3
 rw [v1] at hS
 have HS := hide hS
 obtain ⟨z1, z2, z3, z4⟩ := siteB_lens v1
 have fb : 1 ≤ m.oT ∧ m.oT ≤ 16 := by simpa [wiI] using v8
 obtain ⟨fb1, fb2⟩ := fb
 have HV7 := hide (show wiI m.dT 1 m.sT.length = true from v7)
 have hv7 := HV7.out
 have HN := hide fun (W : World) (hW : MW w w.heap.size W h m) => names_prog h m W (hW.md D.out) z1 z2 z3 z4 (by omega)
 have HL := hide (show (nameList m).length ≤ 600 by rw [← nmI_all]; exact (nm_len z1 z2 z3 z4 (by omega) _).2.2)
 have HF := hide hfit
 have HX := hide hv
 have HA := hide ha
 clear hS hfit v1 z1 z2 z3 z4 v7 hv hp d ha
 go_enter Tryz.func28, Tryz.ntmps28
 go_wp2_with (first
  | (go_at_call 68; refine HS.out.mono ?_; rintro e w1 ⟨rfl, hb1⟩; have hW1 := HW0.out.grow hb1; obtain ⟨a0, a1, a2, a3, a4, a5, a6, a7, a8, a9, a10⟩ := MB.cells hW1.blk; have ha := hW1.lt; clear hb1)
  | (go_at_call 69; refine (within_prog _ _ _ _).mono ?_; rintro e w2 ⟨rfl, rfl⟩)
  | (go_at_call 70; refine (HN.out _ (hW1.grow ((Below.refl _ _).alloc (Nat.le_refl _) (.map #[] 0)))).mono ?_; rintro e w2 ⟨A, c, rfl, hc, hStr, hb2⟩
     have hW2 := (hW1.grow ((Below.refl _ _).alloc (Nat.le_refl _) (.map #[] 0))).grow hb2
     have hmp : w2.heap[w1.heap.size]? = some (.map (entS []) 0) := (hb2.block w1.heap.size (by simp)).trans (heap_alloc_new w1 _)))
 have hW1lt : w.heap.size < w1.heap.size := hW1.lt
 have HS0 := hide (And.intro hW2 (And.intro hmp hStr))
 have H12 := hide (show w1.heap.size < w2.heap.size from by have := hb2.size; simp at this; omega)
 clear hW1 hW2 hmp hStr hb2 a0 a1 a2 a3 a4 a5 a6 a7 a8 a9 a10 hv7 v8 v9 v10 HS HW0 HN
 go_loopw [55] (fun i wr => ∃ k : Nat, k ≤ (nameList m).length ∧ i = .int .i64 k ∧ w1.heap.size < wr.heap.size ∧ Hid (MW w w.heap.size wr h m) ∧ Hid (wr.heap[w1.heap.size]? = some (.map (entS ((nameList m).take k)) k)) ∧ Hid (Strs wr w2.heap.size A (nameList m) ∧ w2.heap.size ≤ wr.heap.size) ∧ Hid (∀ j (hj : j < (nameList m).length), j < k → (isName (nameList m)[j] && !hasS ((nameList m).take j) (nameList m)[j]) = true)) (fun i _ => (nameList m).length - (intOf i).toNat)
 case atStart => exact ⟨0, Nat.zero_le _, rfl, H12.out, HS0.out.1, HS0.out.2.1, ⟨HS0.out.2.2, Nat.le_refl _⟩, hide (fun j _ hj => absurd hj (Nat.not_lt_zero _))⟩
 case round =>
  clear HS0 H12
  obtain ⟨k, hk, rfl, hw1, hW, hMp, hStr, hSF⟩ := hrel
  have hnl := HL.out
  have hW0lt := hW.out.lt
  by_cases hlt : k < (nameList m).length
  · obtain ⟨b, off, hA, hb, x0⟩ := str_at hStr.out.1 hlt
    subst hA
    have hbw : b < wr.heap.size := by have := hStr.out.2; omega
    have hB : ∀ b : Bool, b = false ∨ b = true := fun b => by cases b <;> simp
    rcases hB (isName (nameList m)[k]) with o1 | o1
    · have HI := hide (isName_prog (nameList m)[k] wr (HA.out.below (Nat.le_refl _) hW.out.b) (HF.out _ (List.getElem_mem hlt)))
      rw [o1] at HI
      clear o1 hSF
      generalize hnm : (nameList m)[k] = nm at *
      clear hnm
      go_wp2_with (go_at_call 71; refine HI.out.mono ?_; rintro e w3 ⟨rfl, hb3⟩)
      go_ret
      exact ⟨rfl, (hW.out.grow hb3).b⟩
    rcases hB (hasS ((nameList m).take k) (nameList m)[k]) with o2 | o2
    rotate_left
    · have HI := hide (isName_prog (nameList m)[k] wr (HA.out.below (Nat.le_refl _) hW.out.b) (HF.out _ (List.getElem_mem hlt)))
      rw [o1] at HI
      have O2 := hide o2
      clear o1 o2 hSF
      generalize hnm : (nameList m)[k] = nm at *
      clear hnm
      go_wp2_with (go_at_call 71; refine HI.out.mono ?_; rintro e w3 ⟨rfl, hb3⟩
                   have hM3 : w3.heap[w1.heap.size]? = some (.map (entS ((nameList m).take k)) k) := (hb3.block _ hw1).trans hMp.out
                   have hlk := look_entS hM3 nm
                   rw [O2.out] at hlk
                   have hs3 := hb3.size
                   clear hM3)
      go_ret
      exact ⟨rfl, (hW.out.grow hb3).b⟩
    have HSF := hide (show ∀ j (hj : j < (nameList m).length), j < k + 1 → (isName (nameList m)[j] && !hasS ((nameList m).take j) (nameList m)[j]) = true from fun j hj hjk => by
     by_cases e : j = k
     · subst e; rw [o1, o2]; rfl
     · exact hSF.out j hj (by omega))
    clear hSF
    have HI := hide (isName_prog (nameList m)[k] wr (HA.out.below (Nat.le_refl _) hW.out.b) (HF.out _ (List.getElem_mem hlt)))
    rw [o1] at HI
    have HP := hide (entS_push ((nameList m).take k) (nameList m)[k])
    have HTK := hide (show (nameList m).take k ++ [(nameList m)[k]] = (nameList m).take (k + 1) by rw [List.take_succ_eq_append_getElem hlt])
    have HLN := hide (show ((nameList m).take k).length = k by simp; omega)
    have HFN := hide (findS_none o2)
    have O2 := hide o2
    clear o1 o2
    generalize hnm : (nameList m)[k] = nm at *
    clear hnm
    go_wp2_with (first
     | (go_at_call 71; refine HI.out.mono ?_; rintro e w3 ⟨rfl, hb3⟩
        have hM3 : w3.heap[w1.heap.size]? = some (.map (entS ((nameList m).take k)) k) := (hb3.block _ hw1).trans hMp.out
        have hlk := look_entS hM3 nm
        rw [O2.out] at hlk
        have HM3 := hide hM3
        have hs3 := hb3.size
        clear hM3)
     | (refine wpList_mapUpdate_newS rfl rfl _ _ _ _ rfl Tryz.underlying108 Tryz.underlying9 HM3.out rfl rfl rfl HFN.out ?_; intro w4 hM4 hb4
        have HM4 := hide hM4
        have HB4 := hide hb4
        clear hM4 hb4))
    have hS4 : Strs w4 w2.heap.size (some ⟨b, off, none⟩) (nameList m) := (hStr.out.1.keep fun p hp => hb3.cell (by have := hStr.out.2; omega)).keep fun p hp => cell?_mapBut HM3.out HM4.out HB4.out p (by have := hStr.out.2; omega)
    have hs4 := HB4.out.size
    have hM4' : w4.heap[w1.heap.size]? = some (.map (entS ((nameList m).take (k + 1))) (k + 1)) := by
     rw [← HTK.out, ← HP.out, HLN.out]; exact HM4.out
    go_roundw
    case rel => exact ⟨k + 1, by omega, by go_num, by omega, hide ((hW.out.grow hb3).but HB4.out (by omega) (by omega)), hM4', ⟨hS4, by have := hStr.out.2; omega⟩, HSF⟩
    case measure => simp [intOf]; omega
  · have hWm := hW.out
    have HIt := hide (containsFunc_Item 73 #[.pointer (some ⟨w.heap.size, 0, none⟩)] (fun _ _ => by kernel_rfl) (fun x => !itemOk m x) h.i h.ic m.iT wr hl5 (hWm.md D.out).dI (fun i hi A2 c2 W hW2 g1 g2 gI => item_bad h m w.heap.size W m.iT[i] A2 c2 (hWm.grow hW2).blk hl3 g1 g2 gI))
    have HRu := hide fun (W0 : World) (hW0 : MW w w.heap.size W0 h m) => containsFunc_Rule 76 #[.pointer (some ⟨w.heap.size, 0, none⟩)] (fun _ _ => by kernel_rfl) (fun x => !ruleOk m x) h.u h.uc m.uT W0 hl6 (hW0.md D.out).dU (fun i hi A2 c2 W hW2 g1 g2 gI => rule_bad h m w.heap.size W m.uT[i] A2 c2 (hW0.grow hW2).blk ((hW0.grow hW2).md D.out) g1 g2 gI)
    have hnb : namesB m = true := soundB_true fun j hj => hSF.out j hj (by omega)
    have hx2 := HX.out
    rw [hnb, Bool.true_and] at hx2
    obtain ⟨a0, a1, a2, a3, a4, a5, a6, a7, a8, a9, a10⟩ := MB.cells hWm.blk
    have hB : ∀ b : Bool, b = false ∨ b = true := fun b => by cases b <;> simp
    rcases hB (m.iT.all (itemOk m)) with i1 | i1
    · have e1 : m.iT.any (fun x => !itemOk m x) = true := by rw [any_not', i1]; rfl
      rw [e1] at HIt
      clear e1 i1 hx2 hnb HRu hSF
      go_wp2_with (go_at_call 72; refine HIt.out.mono ?_; rintro e w3 ⟨rfl, hb3⟩; have hW3 := hWm.grow hb3; clear hb3)
      go_ret
      exact ⟨rfl, hW3.b⟩
    · rw [i1, Bool.true_and] at hx2
      have e1 : m.iT.any (fun x => !itemOk m x) = false := by rw [any_not', i1]; rfl
      have e2 : m.uT.any (fun x => !ruleOk m x) = true := by rw [any_not', hx2]; rfl
      rw [e1] at HIt
      rw [e2] at HRu
      clear e1 e2 i1 hx2 hnb hSF
      go_wp2_with (first
       | (go_at_call 72; refine HIt.out.mono ?_; rintro e w3 ⟨rfl, hb3⟩; have hW3 := hWm.grow hb3; obtain ⟨c0, c1, c2, c3, c4, c5, c6, c7, c8, c9, c10⟩ := MB.cells hW3.blk; have hc := hW3.lt; clear hb3)
       | (go_at_call 75; refine (HRu.out _ hW3).mono ?_; rintro e w4 ⟨rfl, hb4⟩))
      go_ret
      exact ⟨rfl, (hW3.grow hb4).b⟩
theorem validM_any (h : MH) (m : Mod) (w : World) (d : MD w w.heap.size h m) (k1 : m.rT.length ≤ h.rc) (k2 : m.mT.length ≤ h.mc) (k3 : m.lT.length ≤ h.lc) (ha : Asc w) :
    Calls Tryz.prog 28 #[.agg #[.slice h.s m.sT.length h.sc, .slice h.f m.fT.length h.fc, .slice h.r m.rT.length h.rc, .slice h.m m.mT.length h.mc, .slice h.l m.lT.length h.lc, .slice h.i m.iT.length h.ic, .int .i64 m.dT, .int .i64 m.oT, .int .i64 m.vT, .int .i64 m.aT, .slice h.u m.uT.length h.uc]] w fun e w' => e = .returned (.bool (validM m)) ∧ Below w.heap.size w w' := by
 have hB : ∀ b : Bool, b = false ∨ b = true := fun b => by cases b <;> simp
 rcases hB (validM m) with hv | hv
 · have h2 := hv
   rw [preV_eq] at h2
   rw [hv]
   rcases hB (preV m) with hp | hp
   · exact vno_pre h m w d k1 k2 k3 hp
   · rw [hp, Bool.true_and] at h2
     exact vno_rest h m w d k1 k2 k3 ha hp h2
 · rw [hv]
   exact validM_prog h m w d k1 k2 k3 ha hv
end Go.Proofs.YtcfogipaadhbeaaGreatDoor
