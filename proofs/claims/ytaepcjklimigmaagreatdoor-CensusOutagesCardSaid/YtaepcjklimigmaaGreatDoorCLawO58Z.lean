/- A part of the claim: see its last text. -/
import Derived.Test.YtaepcjklimigmaaGreatDoorCK30
import Derived.Test.YtaepcjklimigmaaGreatDoorCK31
import Derived.Test.YtaepcjklimigmaaGreatDoorCK35
import Derived.Test.YtaepcjklimigmaaGreatDoorCK44

set_option maxRecDepth 100000
set_option maxHeartbeats 16000000
namespace Go.Proofs.YtaepcjklimigmaaGreatDoor
open Go Go.RowKit Go.Proofs
theorem outage_ref (h : MH) (m : Mod) (l : List EvM) (A : Option Addr) (c : Nat) (item : Int) (w : World) (C : BrC w h m) (hv : validM m = true)
    (hE : Rows encEv 22 w w.heap.size A l) (hl : l.length ≤ 60) (hold : ∀ x ∈ l, x.old.length ≤ 10) :
    Calls Tryz.prog 27 #[.agg #[.slice h.s m.sT.length h.sc, .slice h.f m.fT.length h.fc, .slice h.r m.rT.length h.rc, .slice h.m m.mT.length h.mc, .slice h.l m.lT.length h.lc, .slice h.i m.iT.length h.ic, .int .i64 m.dT, .int .i64 m.oT, .int .i64 m.vT, .int .i64 m.aT, .slice h.u m.uT.length h.uc], .slice A l.length c, .int .i64 item] w (AnsR w (.int .i64 (outageM m l item))) := by
 by_cases h1 : item < 1
 · exact outage_no1 h m l A c item w C.d h1
 by_cases h2 : (m.iT.length : Int) < item
 · exact outage_no2 h m l A c item w C.d (by omega) h2
 obtain ⟨a, rfl⟩ : ∃ a : Nat, item = (a : Int) + 1 := ⟨(item - 1).toNat, by omega⟩
 have ha : a < m.iT.length := by omega
 cases k0 : (m.iT[a].kind != 0)
 · exact outage_yes h m l A c w C hv hE hl hold a ha k0
 · exact outage_no3 h m l A c _ w C.d a ha rfl k0
theorem censusOutages_walk (h : MH) (m : Mod) (l : List EvM) (A : Option Addr) (c : Nat) (n : Int) (w : World) (d : MD w w.heap.size h m) (k1 : m.rT.length ≤ h.rc) (k2 : m.mT.length ≤ h.mc) (k3 : m.lT.length ≤ h.lc)
    (hE : Rows encEv 22 w w.heap.size A l) (hl : l.length ≤ 9223372036854775807) (ha : Asc w) (hpw : Pow w) :
    Calls Tryz.prog 8 #[.agg #[.slice h.s m.sT.length h.sc, .slice h.f m.fT.length h.fc, .slice h.r m.rT.length h.rc, .slice h.m m.mT.length h.mc, .slice h.l m.lT.length h.lc, .slice h.i m.iT.length h.ic, .int .i64 m.dT, .int .i64 m.oT, .int .i64 m.vT, .int .i64 m.aT, .slice h.u m.uT.length h.uc], .slice A l.length c, .int .i64 n] w (fun e w' => e = .returned (.bool true) ∧ Below w.heap.size w w') := by
 have hb := (Below.refl w.heap.size w).alloc (Nat.le_refl _) (.cells #[.slice h.s m.sT.length h.sc, .slice h.f m.fT.length h.fc, .slice h.r m.rT.length h.rc, .slice h.m m.mT.length h.mc, .slice h.l m.lT.length h.lc, .slice h.i m.iT.length h.ic, .int .i64 m.dT, .int .i64 m.oT, .int .i64 m.vT, .int .i64 m.aT, .slice h.u m.uT.length h.uc] 29)
 have HB := hide hb
 have HM0 := hide (Blk.new w 29 #[.slice h.s m.sT.length h.sc, .slice h.f m.fT.length h.fc, .slice h.r m.rT.length h.rc, .slice h.m m.mT.length h.mc, .slice h.l m.lT.length h.lc, .slice h.i m.iT.length h.ic, .int .i64 m.dT, .int .i64 m.oT, .int .i64 m.vT, .int .i64 m.aT, .slice h.u m.uT.length h.uc])
 have HFW := hide (few58_ref h m l A c 40 _ (d.grow hb) (hE.grow hb) hl)
 have HAW := hide (fun W (hW : Below w.heap.size w W) => awake58 W (ha.below (Nat.le_refl _) hW) (hpw.below (Nat.le_refl _) hW))
 have HD := hide (fun W (hW : Below w.heap.size w W) => And.intro (d.grow hW) (hE.grow hW))
 have HA := hide ha
 have HK := hide (And.intro k1 (And.intro k2 k3))
 clear hb d k1 k2 k3 hE ha hpw hl
 go_enter Tryz.func8, Tryz.ntmps8
 go_wp2_with (first
  | (go_at_call 10; refine HFW.out.mono ?_; rintro e w1 ⟨b, rfl, hb1, hq⟩
     have hm1 := HM0.out.below hb1 (by simp)
     obtain ⟨a0, a1, a2, a3, a4, a5, a6, a7, a8, a9, a10⟩ := MB.cells hm1
     have lt1 := hm1.lt
     have HB1 := hide (HB.out.trans (hb1.mono (by simp)))
     have HM1 := hide hm1
     have HQ := hide hq
     clear hm1 hb1 hq
     cases b)
  | (go_at_call 11; refine (HAW.out _ HB1.out).mono ?_; rintro e w2 ⟨rfl, hb2⟩
     have HB2 := hide (HB1.out.trans (hb2.mono HB1.out.size))
     clear hb2)
  | (go_at_call 24
     obtain ⟨hv, hl40, hold⟩ := HQ.out trivial
     have HP := hide (fun W (hW : Below w.heap.size w W) => outage_prog h m l A c n W (HD.out W hW).1 HK.out.1 HK.out.2.1 HK.out.2.2 (HA.out.below (Nat.le_refl _) hW) hv (HD.out W hW).2 (by omega) hold)
     have HR := hide (fun W (hW : Below w.heap.size w W) => outage_ref h m l A c n W (valid_brc (HD.out W hW).1 hv) hv (HD.out W hW).2 (by omega) hold)
     have HOR := hide (fun W (hW : Below w.heap.size w W) => outcome_ref A c l W (by omega) (HD.out W hW).2)
     have HOP := hide (outcome_prog A c l w1 (by omega) (HD.out w1 HB1.out).2)
     clear hv hl40 hold
     refine HOP.out.mono ?_
     rintro e w2 ⟨rfl, hb2⟩
     have HB2 := hide (HB1.out.trans (hb2.mono HB1.out.size))
     have HM2 := hide (HM1.out.below hb2 HM1.out.lt)
     clear hb2 HOP a0 a1 a2 a3 a4 a5 a6 a7 a8 a9 a10 lt1)
  | (go_at_call 25; refine (HOR.out _ HB2.out).mono ?_; rintro e w3 ⟨rfl, rfl⟩
     obtain ⟨a0, a1, a2, a3, a4, a5, a6, a7, a8, a9, a10⟩ := MB.cells HM2.out
     have lt2 := HM2.out.lt))
 · go_ret
   exact ⟨rfl, HB2.out⟩
 · skip
   clear a0 a1 a2 a3 a4 a5 a6 a7 a8 a9 a10 lt2
   have HS := hide (MS.mk HM2.out HB2.out)
   go_region_held3 (fun W => (W.cell? ⟨w.heap.size, 0, none⟩ = some (.slice h.s m.sT.length h.sc) ∧ W.cell? ⟨w.heap.size, 1, none⟩ = some (.slice h.f m.fT.length h.fc) ∧ W.cell? ⟨w.heap.size, 2, none⟩ = some (.slice h.r m.rT.length h.rc) ∧ W.cell? ⟨w.heap.size, 3, none⟩ = some (.slice h.m m.mT.length h.mc) ∧ W.cell? ⟨w.heap.size, 4, none⟩ = some (.slice h.l m.lT.length h.lc) ∧ W.cell? ⟨w.heap.size, 5, none⟩ = some (.slice h.i m.iT.length h.ic) ∧ W.cell? ⟨w.heap.size, 6, none⟩ = some (.int .i64 m.dT) ∧ W.cell? ⟨w.heap.size, 7, none⟩ = some (.int .i64 m.oT) ∧ W.cell? ⟨w.heap.size, 8, none⟩ = some (.int .i64 m.vT) ∧ W.cell? ⟨w.heap.size, 9, none⟩ = some (.int .i64 m.aT) ∧ W.cell? ⟨w.heap.size, 10, none⟩ = some (.slice h.u m.uT.length h.uc)) ∧ MS w #[.slice h.s m.sT.length h.sc, .slice h.f m.fT.length h.fc, .slice h.r m.rT.length h.rc, .slice h.m m.mT.length h.mc, .slice h.l m.lT.length h.lc, .slice h.i m.iT.length h.ic, .int .i64 m.dT, .int .i64 m.oT, .int .i64 m.vT, .int .i64 m.aT, .slice h.u m.uT.length h.uc] W)
    ((with_reducible (first | (go_keep; done) | exact ⟨MS.cells HS.out.drew, HS.out.drew⟩ | exact ⟨MS.cells c6, c6⟩ | exact ⟨MS.cells c5, c5⟩ | exact ⟨MS.cells c4, c4⟩ | (have hH := (by assumption : _ ∧ MS _ _ _); exact ⟨MS.cells (MS.drew hH.2), MS.drew hH.2⟩))))
    ((first
      | (go_at_call 26; have hH := And.intro (MS.cells HS.out.drew) HS.out.drew; have hbw := MS.b hH.2; (with_reducible refine (HP.out _ hbw).mono ?_); rintro e w4 ⟨rfl, hb⟩; have c4 := MS.grow hH.2 hb; clear hb)
      | (go_at_call 27; (with_reducible refine (HR.out _ (MS.b c4)).mono ?_); rintro e w5 ⟨rfl, hb⟩; have c5 := MS.grow c4 hb; clear hb)
      | (go_at_call 11; (with_reducible refine (HAW.out _ (MS.b c5)).mono ?_); rintro e w6 ⟨rfl, hb⟩; have c6 := MS.grow c5 hb; clear hb)))
   go_wp2_with fail
   go_ret
   exact ⟨rfl, c6.b⟩
end Go.Proofs.YtaepcjklimigmaaGreatDoor
