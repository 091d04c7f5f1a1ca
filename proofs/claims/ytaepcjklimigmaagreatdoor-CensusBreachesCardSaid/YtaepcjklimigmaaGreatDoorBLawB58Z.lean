/- A part of the claim: see its last text. -/
import Derived.Test.YtaepcjklimigmaaGreatDoorBK30
import Derived.Test.YtaepcjklimigmaaGreatDoorBK31
import Derived.Test.YtaepcjklimigmaaGreatDoorBK37
import Derived.Test.YtaepcjklimigmaaGreatDoorBK41

set_option maxRecDepth 100000
set_option maxHeartbeats 16000000
namespace Go.Proofs.YtaepcjklimigmaaGreatDoor
open Go Go.RowKit Go.Proofs
theorem dark_prog (h : MH) (m : Mod) (l : List EvM) (A : Option Addr) (c : Nat) (w : World) (d : MD w w.heap.size h m) (k1 : m.rT.length ≤ h.rc) (k2 : m.mT.length ≤ h.mc) (k3 : m.lT.length ≤ h.lc) (ha : Asc w) (hv : validM m = true)
    (hE : Rows encEv 22 w w.heap.size A l) (hl : l.length ≤ 60) (hlc : l.length ≤ c) (hcm : c ≤ 9223372036854775807) (hold : ∀ x ∈ l, x.old.length ≤ 10) :
    Calls Tryz.prog 19 #[.agg #[.slice h.s m.sT.length h.sc, .slice h.f m.fT.length h.fc, .slice h.r m.rT.length h.rc, .slice h.m m.mT.length h.mc, .slice h.l m.lT.length h.lc, .slice h.i m.iT.length h.ic, .int .i64 m.dT, .int .i64 m.oT, .int .i64 m.vT, .int .i64 m.aT, .slice h.u m.uT.length h.uc], .slice A l.length c] w (DarkR w (darkM m l)) := by
 unfold darkM
 by_cases hd : darkI l < 0
 · rw [if_pos hd]; exact dark_no h m l A c w d k1 k2 k3 ha hv hE hl hd
 · rw [if_neg hd]
   obtain ⟨h1, h2⟩ := firstI_lt (p := fun x : EvM => decide (x.kind = 5)) (l := l) (by unfold darkI at hd; omega)
   exact dark_yes h m l _ A c w d k1 k2 k3 ha hv hE hl hlc hcm hold h1 h2
theorem darkR_no (h : MH) (m : Mod) (l : List EvM) (A : Option Addr) (c : Nat) (w : World) (hE : Rows encEv 22 w w.heap.size A l) (hl : l.length ≤ 60) (hdk : darkI l < 0) :
    Calls Tryz.prog 20 #[.agg #[.slice h.s m.sT.length h.sc, .slice h.f m.fT.length h.fc, .slice h.r m.rT.length h.rc, .slice h.m m.mT.length h.mc, .slice h.l m.lT.length h.lc, .slice h.i m.iT.length h.ic, .int .i64 m.dT, .int .i64 m.oT, .int .i64 m.vT, .int .i64 m.aT, .slice h.u m.uT.length h.uc], .slice A l.length c] w (DarkR w []) := by
 have hb := ((Below.refl w.heap.size w).alloc (Nat.le_refl _) (.cells #[.slice h.s m.sT.length h.sc, .slice h.f m.fT.length h.fc, .slice h.r m.rT.length h.rc, .slice h.m m.mT.length h.mc, .slice h.l m.lT.length h.lc, .slice h.i m.iT.length h.ic, .int .i64 m.dT, .int .i64 m.oT, .int .i64 m.vT, .int .i64 m.aT, .slice h.u m.uT.length h.uc] 29)).alloc (by simp) (.cells #[] 52)
 have HDA := hide (darkIdx_ref A c l _ (by omega) (hE.grow hb))
 have HB := hide hb
 obtain ⟨dk, hdk2⟩ : ∃ dk, dk = darkI l := ⟨_, rfl⟩
 rw [← hdk2] at HDA hdk
 clear hb hE hdk2
 go_enter Tryz.func20, Tryz.ntmps20
 go_wp2_with (go_at_call 48; refine HDA.out.mono ?_; rintro e w1 ⟨rfl, rfl⟩)
 go_ret
 exact ⟨_, _, rfl, fun k hk => absurd hk (by simp), HB.out⟩
theorem dark_ref (h : MH) (m : Mod) (l : List EvM) (A : Option Addr) (c : Nat) (w : World) (d : MD w w.heap.size h m) (hv : validM m = true)
    (hE : Rows encEv 22 w w.heap.size A l) (hl : l.length ≤ 60) (hlc : l.length ≤ c) (hcm : c ≤ 9223372036854775807) (hold : ∀ x ∈ l, x.old.length ≤ 10) :
    Calls Tryz.prog 20 #[.agg #[.slice h.s m.sT.length h.sc, .slice h.f m.fT.length h.fc, .slice h.r m.rT.length h.rc, .slice h.m m.mT.length h.mc, .slice h.l m.lT.length h.lc, .slice h.i m.iT.length h.ic, .int .i64 m.dT, .int .i64 m.oT, .int .i64 m.vT, .int .i64 m.aT, .slice h.u m.uT.length h.uc], .slice A l.length c] w (DarkR w (darkM m l)) := by
 unfold darkM
 by_cases hd : darkI l < 0
 · rw [if_pos hd]; exact darkR_no h m l A c w hE hl hd
 · rw [if_neg hd]
   obtain ⟨h1, h2⟩ := firstI_lt (p := fun x : EvM => decide (x.kind = 5)) (l := l) (by unfold darkI at hd; omega)
   exact darkR_yes h m l _ A c w d hv hE hl hlc hcm hold h1 h2
theorem breachesM_len {m : Mod} {l : List EvM} (hr : m.uT.length ≤ 100) (hl : l.length ≤ 60) : (breachesM m l).length ≤ 6000 :=
 Nat.le_trans (breachesTo_len m l l.length) (Nat.le_trans (Nat.mul_le_mul hl hr) (by decide))
theorem censusBreaches_walk (h : MH) (m : Mod) (l : List EvM) (A : Option Addr) (c : Nat) (w : World) (d : MD w w.heap.size h m) (k1 : m.rT.length ≤ h.rc) (k2 : m.mT.length ≤ h.mc) (k3 : m.lT.length ≤ h.lc)
    (hE : Rows encEv 22 w w.heap.size A l) (hl : l.length ≤ 9223372036854775807) (hlc : l.length ≤ c) (hcm : c ≤ 9223372036854775807) (ha : Asc w) (hpw : Pow w) :
    Calls Tryz.prog 4 #[.agg #[.slice h.s m.sT.length h.sc, .slice h.f m.fT.length h.fc, .slice h.r m.rT.length h.rc, .slice h.m m.mT.length h.mc, .slice h.l m.lT.length h.lc, .slice h.i m.iT.length h.ic, .int .i64 m.dT, .int .i64 m.oT, .int .i64 m.vT, .int .i64 m.aT, .slice h.u m.uT.length h.uc], .slice A l.length c] w (fun e w' => e = .returned (.bool true) ∧ Below w.heap.size w w') := by
 have hb := (Below.refl w.heap.size w).alloc (Nat.le_refl _) (.cells #[.slice h.s m.sT.length h.sc, .slice h.f m.fT.length h.fc, .slice h.r m.rT.length h.rc, .slice h.m m.mT.length h.mc, .slice h.l m.lT.length h.lc, .slice h.i m.iT.length h.ic, .int .i64 m.dT, .int .i64 m.oT, .int .i64 m.vT, .int .i64 m.aT, .slice h.u m.uT.length h.uc] 29)
 have HB := hide hb
 have HM0 := hide (Blk.new w 29 #[.slice h.s m.sT.length h.sc, .slice h.f m.fT.length h.fc, .slice h.r m.rT.length h.rc, .slice h.m m.mT.length h.mc, .slice h.l m.lT.length h.lc, .slice h.i m.iT.length h.ic, .int .i64 m.dT, .int .i64 m.oT, .int .i64 m.vT, .int .i64 m.aT, .slice h.u m.uT.length h.uc])
 have HFW := hide (few58_ref h m l A c 40 _ (d.grow hb) (hE.grow hb) hl)
 have HAW := hide (fun W (hW : Below w.heap.size w W) => awake58 W (ha.below (Nat.le_refl _) hW) (hpw.below (Nat.le_refl _) hW))
 have HD := hide (fun W (hW : Below w.heap.size w W) => And.intro (d.grow hW) (hE.grow hW))
 have HA := hide ha
 have HK := hide (And.intro k1 (And.intro k2 (And.intro k3 (And.intro hlc hcm))))
 clear hb d k1 k2 k3 hE ha hpw hl hlc hcm
 go_enter Tryz.func4, Tryz.ntmps4
 go_wp2_with (first
  | (go_at_call 10; refine HFW.out.mono ?_; rintro e w1 ⟨b, rfl, hb1, hq⟩
     have hm1 := HM0.out.below hb1 (by simp)
     obtain ⟨a0, a1, a2, a3, a4, a5, a6, a7, a8, a9, a10⟩ := MB.cells hm1
     have lt1 := hm1.lt
     have HB1 := hide (HB.out.trans (hb1.mono (by simp)))
     have HM1 := hide hm1
     have HQ := hide hq
     clear hm1 hb1 hq
     cases b)
  | (go_at_call 11; refine (HAW.out _ HB1.out).mono ?_; rintro e w2 ⟨rfl, hb2⟩
     have HB2 := hide (HB1.out.trans (hb2.mono HB1.out.size))
     clear hb2))
 · go_ret
   exact ⟨rfl, HB2.out⟩
 · obtain ⟨hv, hl40, hold⟩ := HQ.out trivial
   obtain ⟨s1, s2, s3, s4, s5, s6⟩ := valid_sizes hv
   have HP := hide (fun W (hW : Below w.heap.size w W) => breaches_prog h m l A c W (valid_brc (HD.out W hW).1 hv) HK.out.1 HK.out.2.1 HK.out.2.2.1 (HA.out.below (Nat.le_refl _) hW) hv (HD.out W hW).2 (by omega) hold)
   have HR := hide (fun W (hW : Below w.heap.size w W) => breaches_ref h m l A c W (valid_brc (HD.out W hW).1 hv) hv (HD.out W hW).2 (by omega) hold)
   have HDP := hide (fun W (hW : Below w.heap.size w W) => dark_prog h m l A c W (HD.out W hW).1 HK.out.1 HK.out.2.1 HK.out.2.2.1 (HA.out.below (Nat.le_refl _) hW) hv (HD.out W hW).2 (by omega) HK.out.2.2.2.1 HK.out.2.2.2.2 hold)
   have HDR := hide (fun W (hW : Below w.heap.size w W) => dark_ref h m l A c W (HD.out W hW).1 hv (HD.out W hW).2 (by omega) HK.out.2.2.2.1 HK.out.2.2.2.2 hold)
   have hbl := breachesM_len (m := m) (l := l) (by omega) (by omega)
   obtain ⟨bs, hbs⟩ : ∃ bs, bs = breachesM m l := ⟨_, rfl⟩
   rw [← hbs] at HP HR hbl
   have hdl : (darkM m l).length ≤ 100000 := by
    unfold darkM
    split
    · simp
    · have q1 := darkTo_len (m := m) (Room.placeAt (m := m) (l := l) (by omega) (fun y hy => by have := valid_on hv hy; omega) hold (darkI l).toNat) m.iT.length
      have q2 := (firstI_lt (p := fun x : EvM => decide (x.kind = 5)) (l := l) (by unfold darkI at *; omega)).1
      have q3 : (darkI l).toNat ≤ 60 := by unfold darkI; omega
      have q4 : m.iT.length * (100 + 11 * (darkI l).toNat) ≤ 8 * 760 := Nat.mul_le_mul s1 (by omega)
      omega
   obtain ⟨ds, hds⟩ : ∃ ds, ds = darkM m l := ⟨_, rfl⟩
   rw [← hds] at HDP HDR hdl
   have HSB := hide (fun W A1 A2 c1 c2 h1 h2 => sameBrs_ref A1 A2 c1 c2 bs W h1 h2 (by omega))
   have HSD := hide (fun W A1 A2 c1 c2 h1 h2 => sameHosts_ref A1 A2 c1 c2 ds W h1 h2 (by omega))
   have HS := hide (MS.mk HM1.out HB1.out)
   clear HQ hv hl40 hold s1 s2 s3 s4 s5 s6 a0 a1 a2 a3 a4 a5 a6 a7 a8 a9 a10 lt1 hbs hds hbl hdl
   go_region_held3 (fun W => (W.cell? ⟨w.heap.size, 0, none⟩ = some (.slice h.s m.sT.length h.sc) ∧ W.cell? ⟨w.heap.size, 1, none⟩ = some (.slice h.f m.fT.length h.fc) ∧ W.cell? ⟨w.heap.size, 2, none⟩ = some (.slice h.r m.rT.length h.rc) ∧ W.cell? ⟨w.heap.size, 3, none⟩ = some (.slice h.m m.mT.length h.mc) ∧ W.cell? ⟨w.heap.size, 4, none⟩ = some (.slice h.l m.lT.length h.lc) ∧ W.cell? ⟨w.heap.size, 5, none⟩ = some (.slice h.i m.iT.length h.ic) ∧ W.cell? ⟨w.heap.size, 6, none⟩ = some (.int .i64 m.dT) ∧ W.cell? ⟨w.heap.size, 7, none⟩ = some (.int .i64 m.oT) ∧ W.cell? ⟨w.heap.size, 8, none⟩ = some (.int .i64 m.vT) ∧ W.cell? ⟨w.heap.size, 9, none⟩ = some (.int .i64 m.aT) ∧ W.cell? ⟨w.heap.size, 10, none⟩ = some (.slice h.u m.uT.length h.uc)) ∧ MS w #[.slice h.s m.sT.length h.sc, .slice h.f m.fT.length h.fc, .slice h.r m.rT.length h.rc, .slice h.m m.mT.length h.mc, .slice h.l m.lT.length h.lc, .slice h.i m.iT.length h.ic, .int .i64 m.dT, .int .i64 m.oT, .int .i64 m.vT, .int .i64 m.aT, .slice h.u m.uT.length h.uc] W)
    ((with_reducible (first | (go_keep; done) | exact ⟨MS.cells HS.out.drew, HS.out.drew⟩ | exact ⟨MS.cells c8, c8⟩ | exact ⟨MS.cells c7, c7⟩ | exact ⟨MS.cells c6, c6⟩ | exact ⟨MS.cells c5, c5⟩ | exact ⟨MS.cells c4, c4⟩ | exact ⟨MS.cells c3, c3⟩ | exact ⟨MS.cells c2, c2⟩ | (have hH := (by assumption : _ ∧ MS _ _ _); exact ⟨MS.cells (MS.drew hH.2), MS.drew hH.2⟩))))
    ((first
      | (go_at_call 16; have hH := And.intro (MS.cells HS.out.drew) HS.out.drew; have hbw := MS.b hH.2; (with_reducible refine (HP.out _ hbw).mono ?_); rintro e w2 ⟨v2, rfl, ho2, hb⟩; obtain ⟨A2, k2, rfl, hr2⟩ := ho2.rd; have c2 := MS.grow hH.2 hb; clear hb hH hbw ho2)
      | (go_at_call 17; (with_reducible refine (HR.out _ (MS.b c2)).mono ?_); rintro e w3 ⟨v3, rfl, ho3, hb⟩; obtain ⟨A3, k3, rfl, hr3⟩ := ho3.rd; have hr23 := hr2.grow hb; have c3 := MS.grow c2 hb; clear hb ho3)
      | (go_at_call 15; (with_reducible refine (HSB.out _ _ _ _ _ hr23 hr3).mono ?_); rintro e w4 ⟨rfl, hb⟩; have c4 := MS.grow c3 hb; clear hb)
      | (go_at_call 19; (with_reducible refine (HDP.out _ (MS.b c4)).mono ?_); rintro e w5 ⟨A5, k5, rfl, hr5, hb⟩; have c5 := MS.grow c4 hb; clear hb)
      | (go_at_call 20; (with_reducible refine (HDR.out _ (MS.b c5)).mono ?_); rintro e w6 ⟨A6, k6, rfl, hr6, hb⟩; have hr56 := hr5.grow hb; have c6 := MS.grow c5 hb; clear hb)
      | (go_at_call 18; (with_reducible refine (HSD.out _ _ _ _ _ hr56 hr6).mono ?_); rintro e w7 ⟨rfl, hb⟩; have c7 := MS.grow c6 hb; clear hb)
      | (go_at_call 11; (with_reducible refine (HAW.out _ (MS.b c7)).mono ?_); rintro e w8 ⟨rfl, hb⟩; have c8 := MS.grow c7 hb; clear hb)))
   go_wp2_with fail
   go_ret
   exact ⟨rfl, c8.b⟩
end Go.Proofs.YtaepcjklimigmaaGreatDoor
