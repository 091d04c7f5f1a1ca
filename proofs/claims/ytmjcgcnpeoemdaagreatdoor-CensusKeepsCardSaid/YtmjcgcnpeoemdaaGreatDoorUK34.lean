/- A part of the claim: see its last text. -/
import Derived.Test.YtmjcgcnpeoemdaaGreatDoorUK08
import Derived.Test.YtmjcgcnpeoemdaaGreatDoorUK32
import Derived.BigQuiet

set_option maxRecDepth 100000
set_option maxHeartbeats 16000000
namespace Go.Proofs.YtmjcgcnpeoemdaaGreatDoor
open Go Go.RowKit Go.Proofs
theorem rcounts_a1 (h : MH) (m : Mod) (x : EvM) (j : EvJ) (w : World) (d : MD w w.heap.size h m) (g2 : (x.kind == 2) = true) (e : x.group < 1) :
    Calls Tryz.prog 11 #[.agg #[.slice h.s m.sT.length h.sc, .slice h.f m.fT.length h.fc, .slice h.r m.rT.length h.rc, .slice h.m m.mT.length h.mc, .slice h.l m.lT.length h.lc, .slice h.i m.iT.length h.ic, .int .i64 m.dT, .int .i64 m.oT, .int .i64 m.vT, .int .i64 m.aT, .slice h.u m.uT.length h.uc], .agg #[.int .i64 x.kind, .int .i64 x.mach, .int .i64 j.v2, .int .i64 j.v3, .int .i64 x.group, .int .i64 j.v5, .string j.v6, .int .i64 j.v7, .int .i64 j.v8, .int .i64 j.v9, .bool j.v10, .int .i64 j.v11, .slice j.A x.old.length j.c, .slice j.A13 j.n13 j.c13, .slice j.A14 j.n14 j.c14, .int .i64 x.hitem, .int .i64 j.v16, .int .i64 x.hstate, .int .i64 j.v18, .int .i64 j.v19, .bool x.gone, .int .i64 x.outcome]] w (AnsR w (.bool (countsB m x))) := by
 have HB := hide (((Below.refl w.heap.size w).alloc (Nat.le_refl _) (.cells #[.slice h.s m.sT.length h.sc, .slice h.f m.fT.length h.fc, .slice h.r m.rT.length h.rc, .slice h.m m.mT.length h.mc, .slice h.l m.lT.length h.lc, .slice h.i m.iT.length h.ic, .int .i64 m.dT, .int .i64 m.oT, .int .i64 m.vT, .int .i64 m.aT, .slice h.u m.uT.length h.uc] 29)).alloc (by simp) (.cells #[.int .i64 x.kind, .int .i64 x.mach, .int .i64 j.v2, .int .i64 j.v3, .int .i64 x.group, .int .i64 j.v5, .string j.v6, .int .i64 j.v7, .int .i64 j.v8, .int .i64 j.v9, .bool j.v10, .int .i64 j.v11, .slice j.A x.old.length j.c, .slice j.A13 j.n13 j.c13, .slice j.A14 j.n14 j.c14, .int .i64 x.hitem, .int .i64 j.v16, .int .i64 x.hstate, .int .i64 j.v18, .int .i64 j.v19, .bool x.gone, .int .i64 x.outcome] 50))
 have hil := d.il
 have hml := d.ml
 have HV := hide (show countsB m x = false by rw [countsB_2 (by simpa using g2)]; rw [kindI_no (.inl e)]; rfl)
 clear d
 go_enter Tryz.func11, Tryz.ntmps11
 go_wp2_with fail
 go_ret
 exact ⟨by rw [HV.out]; rfl, HB.out⟩
theorem rcounts_a2 (h : MH) (m : Mod) (x : EvM) (j : EvJ) (w : World) (d : MD w w.heap.size h m) (g2 : (x.kind == 2) = true) (e0 : 1 ≤ x.group) (e : (m.iT.length : Int) < x.group) :
    Calls Tryz.prog 11 #[.agg #[.slice h.s m.sT.length h.sc, .slice h.f m.fT.length h.fc, .slice h.r m.rT.length h.rc, .slice h.m m.mT.length h.mc, .slice h.l m.lT.length h.lc, .slice h.i m.iT.length h.ic, .int .i64 m.dT, .int .i64 m.oT, .int .i64 m.vT, .int .i64 m.aT, .slice h.u m.uT.length h.uc], .agg #[.int .i64 x.kind, .int .i64 x.mach, .int .i64 j.v2, .int .i64 j.v3, .int .i64 x.group, .int .i64 j.v5, .string j.v6, .int .i64 j.v7, .int .i64 j.v8, .int .i64 j.v9, .bool j.v10, .int .i64 j.v11, .slice j.A x.old.length j.c, .slice j.A13 j.n13 j.c13, .slice j.A14 j.n14 j.c14, .int .i64 x.hitem, .int .i64 j.v16, .int .i64 x.hstate, .int .i64 j.v18, .int .i64 j.v19, .bool x.gone, .int .i64 x.outcome]] w (AnsR w (.bool (countsB m x))) := by
 have HB := hide (((Below.refl w.heap.size w).alloc (Nat.le_refl _) (.cells #[.slice h.s m.sT.length h.sc, .slice h.f m.fT.length h.fc, .slice h.r m.rT.length h.rc, .slice h.m m.mT.length h.mc, .slice h.l m.lT.length h.lc, .slice h.i m.iT.length h.ic, .int .i64 m.dT, .int .i64 m.oT, .int .i64 m.vT, .int .i64 m.aT, .slice h.u m.uT.length h.uc] 29)).alloc (by simp) (.cells #[.int .i64 x.kind, .int .i64 x.mach, .int .i64 j.v2, .int .i64 j.v3, .int .i64 x.group, .int .i64 j.v5, .string j.v6, .int .i64 j.v7, .int .i64 j.v8, .int .i64 j.v9, .bool j.v10, .int .i64 j.v11, .slice j.A x.old.length j.c, .slice j.A13 j.n13 j.c13, .slice j.A14 j.n14 j.c14, .int .i64 x.hitem, .int .i64 j.v16, .int .i64 x.hstate, .int .i64 j.v18, .int .i64 j.v19, .bool x.gone, .int .i64 x.outcome] 50))
 have hil := d.il
 have hml := d.ml
 have HV := hide (show countsB m x = false by rw [countsB_2 (by simpa using g2)]; rw [kindI_no (.inr e)]; rfl)
 clear d
 go_enter Tryz.func11, Tryz.ntmps11
 go_wp2_with fail
 go_ret
 exact ⟨by rw [HV.out]; rfl, HB.out⟩
theorem rcounts_a3 (h : MH) (m : Mod) (x : EvM) (j : EvJ) (w : World) (d : MD w w.heap.size h m) (g2 : (x.kind == 2) = true) (a : Nat) (ha : a < m.iT.length) (e : x.group = (a : Int) + 1) :
    Calls Tryz.prog 11 #[.agg #[.slice h.s m.sT.length h.sc, .slice h.f m.fT.length h.fc, .slice h.r m.rT.length h.rc, .slice h.m m.mT.length h.mc, .slice h.l m.lT.length h.lc, .slice h.i m.iT.length h.ic, .int .i64 m.dT, .int .i64 m.oT, .int .i64 m.vT, .int .i64 m.aT, .slice h.u m.uT.length h.uc], .agg #[.int .i64 x.kind, .int .i64 x.mach, .int .i64 j.v2, .int .i64 j.v3, .int .i64 x.group, .int .i64 j.v5, .string j.v6, .int .i64 j.v7, .int .i64 j.v8, .int .i64 j.v9, .bool j.v10, .int .i64 j.v11, .slice j.A x.old.length j.c, .slice j.A13 j.n13 j.c13, .slice j.A14 j.n14 j.c14, .int .i64 x.hitem, .int .i64 j.v16, .int .i64 x.hstate, .int .i64 j.v18, .int .i64 j.v19, .bool x.gone, .int .i64 x.outcome]] w (AnsR w (.bool (countsB m x))) := by
 have HB := hide (((Below.refl w.heap.size w).alloc (Nat.le_refl _) (.cells #[.slice h.s m.sT.length h.sc, .slice h.f m.fT.length h.fc, .slice h.r m.rT.length h.rc, .slice h.m m.mT.length h.mc, .slice h.l m.lT.length h.lc, .slice h.i m.iT.length h.ic, .int .i64 m.dT, .int .i64 m.oT, .int .i64 m.vT, .int .i64 m.aT, .slice h.u m.uT.length h.uc] 29)).alloc (by simp) (.cells #[.int .i64 x.kind, .int .i64 x.mach, .int .i64 j.v2, .int .i64 j.v3, .int .i64 x.group, .int .i64 j.v5, .string j.v6, .int .i64 j.v7, .int .i64 j.v8, .int .i64 j.v9, .bool j.v10, .int .i64 j.v11, .slice j.A x.old.length j.c, .slice j.A13 j.n13 j.c13, .slice j.A14 j.n14 j.c14, .int .i64 x.hitem, .int .i64 j.v16, .int .i64 x.hstate, .int .i64 j.v18, .int .i64 j.v19, .bool x.gone, .int .i64 x.outcome] 50))
 have hil := d.il
 have hml := d.ml
 obtain ⟨b, off, A2, c2, hA, hb, x0, x1, x2, x3, x4, x5, x6, hz, hlc, hcm, hI⟩ := d.dI.item ha
 have hki : kindI m ((a : Int) + 1) = m.iT[a].kind := kindI_yes ha
 have haI : (a : Int) < (m.iT.length : Int) := by omega
 have HV := hide (show countsB m x = (m.iT[a].kind == 0) by rw [countsB_2 (by simpa using g2)]; rw [e, hki, Bool.eq_iff_iff]; simp)
 have HE := hide e
 clear hI d hz hki
 rw [e] at HB ⊢
 rw [hA] at HB ⊢
 clear e
 go_enter Tryz.func11, Tryz.ntmps11
 go_wp2_with fail
 go_ret
 exact ⟨by rw [HV.out]; rfl, HB.out⟩
theorem rcounts_b1 (h : MH) (m : Mod) (x : EvM) (j : EvJ) (w : World) (d : MD w w.heap.size h m) (g2 : (x.kind == 2) = false) (e : x.hitem < 1) :
    Calls Tryz.prog 11 #[.agg #[.slice h.s m.sT.length h.sc, .slice h.f m.fT.length h.fc, .slice h.r m.rT.length h.rc, .slice h.m m.mT.length h.mc, .slice h.l m.lT.length h.lc, .slice h.i m.iT.length h.ic, .int .i64 m.dT, .int .i64 m.oT, .int .i64 m.vT, .int .i64 m.aT, .slice h.u m.uT.length h.uc], .agg #[.int .i64 x.kind, .int .i64 x.mach, .int .i64 j.v2, .int .i64 j.v3, .int .i64 x.group, .int .i64 j.v5, .string j.v6, .int .i64 j.v7, .int .i64 j.v8, .int .i64 j.v9, .bool j.v10, .int .i64 j.v11, .slice j.A x.old.length j.c, .slice j.A13 j.n13 j.c13, .slice j.A14 j.n14 j.c14, .int .i64 x.hitem, .int .i64 j.v16, .int .i64 x.hstate, .int .i64 j.v18, .int .i64 j.v19, .bool x.gone, .int .i64 x.outcome]] w (AnsR w (.bool (countsB m x))) := by
 have HB := hide (((Below.refl w.heap.size w).alloc (Nat.le_refl _) (.cells #[.slice h.s m.sT.length h.sc, .slice h.f m.fT.length h.fc, .slice h.r m.rT.length h.rc, .slice h.m m.mT.length h.mc, .slice h.l m.lT.length h.lc, .slice h.i m.iT.length h.ic, .int .i64 m.dT, .int .i64 m.oT, .int .i64 m.vT, .int .i64 m.aT, .slice h.u m.uT.length h.uc] 29)).alloc (by simp) (.cells #[.int .i64 x.kind, .int .i64 x.mach, .int .i64 j.v2, .int .i64 j.v3, .int .i64 x.group, .int .i64 j.v5, .string j.v6, .int .i64 j.v7, .int .i64 j.v8, .int .i64 j.v9, .bool j.v10, .int .i64 j.v11, .slice j.A x.old.length j.c, .slice j.A13 j.n13 j.c13, .slice j.A14 j.n14 j.c14, .int .i64 x.hitem, .int .i64 j.v16, .int .i64 x.hstate, .int .i64 j.v18, .int .i64 j.v19, .bool x.gone, .int .i64 x.outcome] 50))
 have hil := d.il
 have hml := d.ml
 have HV := hide (show countsB m x = false by rcases Classical.em (x.kind = 3) with g3 | g3; (rw [countsB_3 g3, kindI_no (.inl e)]; rfl); exact countsB_0 (by simpa using g2) g3)
 clear d
 go_enter Tryz.func11, Tryz.ntmps11
 go_wp2_with fail
 go_ret
 exact ⟨by rw [HV.out]; rfl, HB.out⟩
theorem rcounts_b2 (h : MH) (m : Mod) (x : EvM) (j : EvJ) (w : World) (d : MD w w.heap.size h m) (g2 : (x.kind == 2) = false) (e0 : 1 ≤ x.hitem) (e : (m.iT.length : Int) < x.hitem) :
    Calls Tryz.prog 11 #[.agg #[.slice h.s m.sT.length h.sc, .slice h.f m.fT.length h.fc, .slice h.r m.rT.length h.rc, .slice h.m m.mT.length h.mc, .slice h.l m.lT.length h.lc, .slice h.i m.iT.length h.ic, .int .i64 m.dT, .int .i64 m.oT, .int .i64 m.vT, .int .i64 m.aT, .slice h.u m.uT.length h.uc], .agg #[.int .i64 x.kind, .int .i64 x.mach, .int .i64 j.v2, .int .i64 j.v3, .int .i64 x.group, .int .i64 j.v5, .string j.v6, .int .i64 j.v7, .int .i64 j.v8, .int .i64 j.v9, .bool j.v10, .int .i64 j.v11, .slice j.A x.old.length j.c, .slice j.A13 j.n13 j.c13, .slice j.A14 j.n14 j.c14, .int .i64 x.hitem, .int .i64 j.v16, .int .i64 x.hstate, .int .i64 j.v18, .int .i64 j.v19, .bool x.gone, .int .i64 x.outcome]] w (AnsR w (.bool (countsB m x))) := by
 have HB := hide (((Below.refl w.heap.size w).alloc (Nat.le_refl _) (.cells #[.slice h.s m.sT.length h.sc, .slice h.f m.fT.length h.fc, .slice h.r m.rT.length h.rc, .slice h.m m.mT.length h.mc, .slice h.l m.lT.length h.lc, .slice h.i m.iT.length h.ic, .int .i64 m.dT, .int .i64 m.oT, .int .i64 m.vT, .int .i64 m.aT, .slice h.u m.uT.length h.uc] 29)).alloc (by simp) (.cells #[.int .i64 x.kind, .int .i64 x.mach, .int .i64 j.v2, .int .i64 j.v3, .int .i64 x.group, .int .i64 j.v5, .string j.v6, .int .i64 j.v7, .int .i64 j.v8, .int .i64 j.v9, .bool j.v10, .int .i64 j.v11, .slice j.A x.old.length j.c, .slice j.A13 j.n13 j.c13, .slice j.A14 j.n14 j.c14, .int .i64 x.hitem, .int .i64 j.v16, .int .i64 x.hstate, .int .i64 j.v18, .int .i64 j.v19, .bool x.gone, .int .i64 x.outcome] 50))
 have hil := d.il
 have hml := d.ml
 have HV := hide (show countsB m x = false by rcases Classical.em (x.kind = 3) with g3 | g3; (rw [countsB_3 g3, kindI_no (.inr e)]; rfl); exact countsB_0 (by simpa using g2) g3)
 clear d
 go_enter Tryz.func11, Tryz.ntmps11
 go_wp2_with fail
 go_ret
 exact ⟨by rw [HV.out]; rfl, HB.out⟩
theorem rcounts_b3 (h : MH) (m : Mod) (x : EvM) (j : EvJ) (w : World) (d : MD w w.heap.size h m) (g2 : (x.kind == 2) = false) (g3 : (x.kind == 3) = false) (a : Nat) (ha : a < m.iT.length) (e : x.hitem = (a : Int) + 1) :
    Calls Tryz.prog 11 #[.agg #[.slice h.s m.sT.length h.sc, .slice h.f m.fT.length h.fc, .slice h.r m.rT.length h.rc, .slice h.m m.mT.length h.mc, .slice h.l m.lT.length h.lc, .slice h.i m.iT.length h.ic, .int .i64 m.dT, .int .i64 m.oT, .int .i64 m.vT, .int .i64 m.aT, .slice h.u m.uT.length h.uc], .agg #[.int .i64 x.kind, .int .i64 x.mach, .int .i64 j.v2, .int .i64 j.v3, .int .i64 x.group, .int .i64 j.v5, .string j.v6, .int .i64 j.v7, .int .i64 j.v8, .int .i64 j.v9, .bool j.v10, .int .i64 j.v11, .slice j.A x.old.length j.c, .slice j.A13 j.n13 j.c13, .slice j.A14 j.n14 j.c14, .int .i64 x.hitem, .int .i64 j.v16, .int .i64 x.hstate, .int .i64 j.v18, .int .i64 j.v19, .bool x.gone, .int .i64 x.outcome]] w (AnsR w (.bool (countsB m x))) := by
 have HB := hide (((Below.refl w.heap.size w).alloc (Nat.le_refl _) (.cells #[.slice h.s m.sT.length h.sc, .slice h.f m.fT.length h.fc, .slice h.r m.rT.length h.rc, .slice h.m m.mT.length h.mc, .slice h.l m.lT.length h.lc, .slice h.i m.iT.length h.ic, .int .i64 m.dT, .int .i64 m.oT, .int .i64 m.vT, .int .i64 m.aT, .slice h.u m.uT.length h.uc] 29)).alloc (by simp) (.cells #[.int .i64 x.kind, .int .i64 x.mach, .int .i64 j.v2, .int .i64 j.v3, .int .i64 x.group, .int .i64 j.v5, .string j.v6, .int .i64 j.v7, .int .i64 j.v8, .int .i64 j.v9, .bool j.v10, .int .i64 j.v11, .slice j.A x.old.length j.c, .slice j.A13 j.n13 j.c13, .slice j.A14 j.n14 j.c14, .int .i64 x.hitem, .int .i64 j.v16, .int .i64 x.hstate, .int .i64 j.v18, .int .i64 j.v19, .bool x.gone, .int .i64 x.outcome] 50))
 have hil := d.il
 have hml := d.ml
 obtain ⟨b, off, A2, c2, hA, hb, x0, x1, x2, x3, x4, x5, x6, hz, hlc, hcm, hI⟩ := d.dI.item ha
 have hki : kindI m ((a : Int) + 1) = m.iT[a].kind := kindI_yes ha
 have haI : (a : Int) < (m.iT.length : Int) := by omega
 have HV := hide (show countsB m x = false by exact countsB_0 (by simpa using g2) (by simpa using g3))
 have HE := hide e
 clear hI d hz hki
 rw [e] at HB ⊢
 rw [hA] at HB ⊢
 clear e
 go_enter Tryz.func11, Tryz.ntmps11
 go_wp2_with fail
 go_ret
 exact ⟨by rw [HV.out]; rfl, HB.out⟩
theorem rcounts_b4 (h : MH) (m : Mod) (x : EvM) (j : EvJ) (w : World) (d : MD w w.heap.size h m) (g2 : (x.kind == 2) = false) (g3 : (x.kind == 3) = true) (a : Nat) (ha : a < m.iT.length) (e : x.hitem = (a : Int) + 1) (k0 : (m.iT[a].kind != 0) = false) :
    Calls Tryz.prog 11 #[.agg #[.slice h.s m.sT.length h.sc, .slice h.f m.fT.length h.fc, .slice h.r m.rT.length h.rc, .slice h.m m.mT.length h.mc, .slice h.l m.lT.length h.lc, .slice h.i m.iT.length h.ic, .int .i64 m.dT, .int .i64 m.oT, .int .i64 m.vT, .int .i64 m.aT, .slice h.u m.uT.length h.uc], .agg #[.int .i64 x.kind, .int .i64 x.mach, .int .i64 j.v2, .int .i64 j.v3, .int .i64 x.group, .int .i64 j.v5, .string j.v6, .int .i64 j.v7, .int .i64 j.v8, .int .i64 j.v9, .bool j.v10, .int .i64 j.v11, .slice j.A x.old.length j.c, .slice j.A13 j.n13 j.c13, .slice j.A14 j.n14 j.c14, .int .i64 x.hitem, .int .i64 j.v16, .int .i64 x.hstate, .int .i64 j.v18, .int .i64 j.v19, .bool x.gone, .int .i64 x.outcome]] w (AnsR w (.bool (countsB m x))) := by
 have HB := hide (((Below.refl w.heap.size w).alloc (Nat.le_refl _) (.cells #[.slice h.s m.sT.length h.sc, .slice h.f m.fT.length h.fc, .slice h.r m.rT.length h.rc, .slice h.m m.mT.length h.mc, .slice h.l m.lT.length h.lc, .slice h.i m.iT.length h.ic, .int .i64 m.dT, .int .i64 m.oT, .int .i64 m.vT, .int .i64 m.aT, .slice h.u m.uT.length h.uc] 29)).alloc (by simp) (.cells #[.int .i64 x.kind, .int .i64 x.mach, .int .i64 j.v2, .int .i64 j.v3, .int .i64 x.group, .int .i64 j.v5, .string j.v6, .int .i64 j.v7, .int .i64 j.v8, .int .i64 j.v9, .bool j.v10, .int .i64 j.v11, .slice j.A x.old.length j.c, .slice j.A13 j.n13 j.c13, .slice j.A14 j.n14 j.c14, .int .i64 x.hitem, .int .i64 j.v16, .int .i64 x.hstate, .int .i64 j.v18, .int .i64 j.v19, .bool x.gone, .int .i64 x.outcome] 50))
 have hil := d.il
 have hml := d.ml
 obtain ⟨b, off, A2, c2, hA, hb, x0, x1, x2, x3, x4, x5, x6, hz, hlc, hcm, hI⟩ := d.dI.item ha
 have hki : kindI m ((a : Int) + 1) = m.iT[a].kind := kindI_yes ha
 have haI : (a : Int) < (m.iT.length : Int) := by omega
 have HV := hide (show countsB m x = false by rw [countsB_3 (by simpa using g3)]; simp at k0; rw [e, hki, k0]; rfl)
 have HE := hide e
 clear hI d hz hki
 rw [e] at HB ⊢
 rw [hA] at HB ⊢
 clear e
 go_enter Tryz.func11, Tryz.ntmps11
 go_wp2_with fail
 go_ret
 exact ⟨by rw [HV.out]; rfl, HB.out⟩
theorem rcounts_b5 (h : MH) (m : Mod) (x : EvM) (j : EvJ) (w : World) (d : MD w w.heap.size h m) (g2 : (x.kind == 2) = false) (g3 : (x.kind == 3) = true) (a : Nat) (ha : a < m.iT.length) (e : x.hitem = (a : Int) + 1) (k0 : (m.iT[a].kind != 0) = true) (_k12 : m.iT[a].kind = 1 ∨ m.iT[a].kind = 2) (e1 : x.mach < 1) :
    Calls Tryz.prog 11 #[.agg #[.slice h.s m.sT.length h.sc, .slice h.f m.fT.length h.fc, .slice h.r m.rT.length h.rc, .slice h.m m.mT.length h.mc, .slice h.l m.lT.length h.lc, .slice h.i m.iT.length h.ic, .int .i64 m.dT, .int .i64 m.oT, .int .i64 m.vT, .int .i64 m.aT, .slice h.u m.uT.length h.uc], .agg #[.int .i64 x.kind, .int .i64 x.mach, .int .i64 j.v2, .int .i64 j.v3, .int .i64 x.group, .int .i64 j.v5, .string j.v6, .int .i64 j.v7, .int .i64 j.v8, .int .i64 j.v9, .bool j.v10, .int .i64 j.v11, .slice j.A x.old.length j.c, .slice j.A13 j.n13 j.c13, .slice j.A14 j.n14 j.c14, .int .i64 x.hitem, .int .i64 j.v16, .int .i64 x.hstate, .int .i64 j.v18, .int .i64 j.v19, .bool x.gone, .int .i64 x.outcome]] w (AnsR w (.bool (countsB m x))) := by
 have HB := hide (((Below.refl w.heap.size w).alloc (Nat.le_refl _) (.cells #[.slice h.s m.sT.length h.sc, .slice h.f m.fT.length h.fc, .slice h.r m.rT.length h.rc, .slice h.m m.mT.length h.mc, .slice h.l m.lT.length h.lc, .slice h.i m.iT.length h.ic, .int .i64 m.dT, .int .i64 m.oT, .int .i64 m.vT, .int .i64 m.aT, .slice h.u m.uT.length h.uc] 29)).alloc (by simp) (.cells #[.int .i64 x.kind, .int .i64 x.mach, .int .i64 j.v2, .int .i64 j.v3, .int .i64 x.group, .int .i64 j.v5, .string j.v6, .int .i64 j.v7, .int .i64 j.v8, .int .i64 j.v9, .bool j.v10, .int .i64 j.v11, .slice j.A x.old.length j.c, .slice j.A13 j.n13 j.c13, .slice j.A14 j.n14 j.c14, .int .i64 x.hitem, .int .i64 j.v16, .int .i64 x.hstate, .int .i64 j.v18, .int .i64 j.v19, .bool x.gone, .int .i64 x.outcome] 50))
 have hil := d.il
 have hml := d.ml
 obtain ⟨b, off, A2, c2, hA, hb, x0, x1, x2, x3, x4, x5, x6, hz, hlc, hcm, hI⟩ := d.dI.item ha
 have hki : kindI m ((a : Int) + 1) = m.iT[a].kind := kindI_yes ha
 have haI : (a : Int) < (m.iT.length : Int) := by omega
 have HV := hide (show countsB m x = false by rw [countsB_3 (by simpa using g3)]; simp [exI]; omega)
 have HE := hide e
 clear _k12
 clear hI d hz hki
 rw [e] at HB ⊢
 rw [hA] at HB ⊢
 clear e
 go_enter Tryz.func11, Tryz.ntmps11
 go_wp2_with fail
 go_ret
 exact ⟨by rw [HV.out]; rfl, HB.out⟩
theorem rcounts_b6 (h : MH) (m : Mod) (x : EvM) (j : EvJ) (w : World) (d : MD w w.heap.size h m) (g2 : (x.kind == 2) = false) (g3 : (x.kind == 3) = true) (a : Nat) (ha : a < m.iT.length) (e : x.hitem = (a : Int) + 1) (k0 : (m.iT[a].kind != 0) = true) (k12 : m.iT[a].kind = 1 ∨ m.iT[a].kind = 2) (e1 : 1 ≤ x.mach) :
    Calls Tryz.prog 11 #[.agg #[.slice h.s m.sT.length h.sc, .slice h.f m.fT.length h.fc, .slice h.r m.rT.length h.rc, .slice h.m m.mT.length h.mc, .slice h.l m.lT.length h.lc, .slice h.i m.iT.length h.ic, .int .i64 m.dT, .int .i64 m.oT, .int .i64 m.vT, .int .i64 m.aT, .slice h.u m.uT.length h.uc], .agg #[.int .i64 x.kind, .int .i64 x.mach, .int .i64 j.v2, .int .i64 j.v3, .int .i64 x.group, .int .i64 j.v5, .string j.v6, .int .i64 j.v7, .int .i64 j.v8, .int .i64 j.v9, .bool j.v10, .int .i64 j.v11, .slice j.A x.old.length j.c, .slice j.A13 j.n13 j.c13, .slice j.A14 j.n14 j.c14, .int .i64 x.hitem, .int .i64 j.v16, .int .i64 x.hstate, .int .i64 j.v18, .int .i64 j.v19, .bool x.gone, .int .i64 x.outcome]] w (AnsR w (.bool (countsB m x))) := by
 have HB := hide (((Below.refl w.heap.size w).alloc (Nat.le_refl _) (.cells #[.slice h.s m.sT.length h.sc, .slice h.f m.fT.length h.fc, .slice h.r m.rT.length h.rc, .slice h.m m.mT.length h.mc, .slice h.l m.lT.length h.lc, .slice h.i m.iT.length h.ic, .int .i64 m.dT, .int .i64 m.oT, .int .i64 m.vT, .int .i64 m.aT, .slice h.u m.uT.length h.uc] 29)).alloc (by simp) (.cells #[.int .i64 x.kind, .int .i64 x.mach, .int .i64 j.v2, .int .i64 j.v3, .int .i64 x.group, .int .i64 j.v5, .string j.v6, .int .i64 j.v7, .int .i64 j.v8, .int .i64 j.v9, .bool j.v10, .int .i64 j.v11, .slice j.A x.old.length j.c, .slice j.A13 j.n13 j.c13, .slice j.A14 j.n14 j.c14, .int .i64 x.hitem, .int .i64 j.v16, .int .i64 x.hstate, .int .i64 j.v18, .int .i64 j.v19, .bool x.gone, .int .i64 x.outcome] 50))
 have hil := d.il
 have hml := d.ml
 obtain ⟨b, off, A2, c2, hA, hb, x0, x1, x2, x3, x4, x5, x6, hz, hlc, hcm, hI⟩ := d.dI.item ha
 have hki : kindI m ((a : Int) + 1) = m.iT[a].kind := kindI_yes ha
 have haI : (a : Int) < (m.iT.length : Int) := by omega
 have HV := hide (show countsB m x = decide (x.mach ≤ (m.mT.length : Int)) by rw [countsB_3 (by simpa using g3)]; rw [e, hki]; rcases k12 with q | q <;> simp [exI, q, e1])
 have HE := hide e
 clear k12
 clear hI d hz hki
 rw [e] at HB ⊢
 rw [hA] at HB ⊢
 clear e
 go_enter Tryz.func11, Tryz.ntmps11
 go_wp2_with fail
 go_ret
 exact ⟨by rw [HV.out]; rfl, HB.out⟩
theorem counts_ref (h : MH) (m : Mod) (x : EvM) (j : EvJ) (w : World) (d : MD w w.heap.size h m) (hk : ∀ y ∈ m.iT, y.kind = 0 ∨ y.kind = 1 ∨ y.kind = 2) :
    Calls Tryz.prog 11 #[.agg #[.slice h.s m.sT.length h.sc, .slice h.f m.fT.length h.fc, .slice h.r m.rT.length h.rc, .slice h.m m.mT.length h.mc, .slice h.l m.lT.length h.lc, .slice h.i m.iT.length h.ic, .int .i64 m.dT, .int .i64 m.oT, .int .i64 m.vT, .int .i64 m.aT, .slice h.u m.uT.length h.uc], .agg #[.int .i64 x.kind, .int .i64 x.mach, .int .i64 j.v2, .int .i64 j.v3, .int .i64 x.group, .int .i64 j.v5, .string j.v6, .int .i64 j.v7, .int .i64 j.v8, .int .i64 j.v9, .bool j.v10, .int .i64 j.v11, .slice j.A x.old.length j.c, .slice j.A13 j.n13 j.c13, .slice j.A14 j.n14 j.c14, .int .i64 x.hitem, .int .i64 j.v16, .int .i64 x.hstate, .int .i64 j.v18, .int .i64 j.v19, .bool x.gone, .int .i64 x.outcome]] w (AnsR w (.bool (countsB m x))) := by
 have hB : ∀ b : Bool, b = false ∨ b = true := fun b => by cases b <;> simp
 have hR : ∀ n : Int, n < 1 ∨ (1 ≤ n ∧ (m.iT.length : Int) < n) ∨ ∃ a : Nat, a < m.iT.length ∧ n = (a : Int) + 1 := fun n => by
  by_cases h1 : n < 1
  · exact .inl h1
  by_cases h2 : (m.iT.length : Int) < n
  · exact .inr (.inl ⟨by omega, h2⟩)
  · exact .inr (.inr ⟨(n - 1).toNat, by omega, by omega⟩)
 rcases hB (x.kind == 2) with g2 | g2
 · rcases hR x.hitem with e | ⟨e0, e⟩ | ⟨a, ha, e⟩
   · exact rcounts_b1 h m x j w d g2 e
   · exact rcounts_b2 h m x j w d g2 e0 e
   · rcases hB (x.kind == 3) with g3 | g3
     · exact rcounts_b3 h m x j w d g2 g3 a ha e
     · rcases hB (m.iT[a].kind != 0) with k0 | k0
       · exact rcounts_b4 h m x j w d g2 g3 a ha e k0
       · have k12 : m.iT[a].kind = 1 ∨ m.iT[a].kind = 2 := by
           rcases hk _ (List.getElem_mem ha) with q | q
           · rw [q] at k0; simp at k0
           · exact q
         by_cases e1 : x.mach < 1
         · exact rcounts_b5 h m x j w d g2 g3 a ha e k0 k12 e1
         · exact rcounts_b6 h m x j w d g2 g3 a ha e k0 k12 (by omega)
 · rcases hR x.group with e | ⟨e0, e⟩ | ⟨a, ha, e⟩
   · exact rcounts_a1 h m x j w d g2 e
   · exact rcounts_a2 h m x j w d g2 e0 e
   · exact rcounts_a3 h m x j w d g2 a ha e
end Go.Proofs.YtmjcgcnpeoemdaaGreatDoor

namespace Go.Proofs.YtmjcgcnpeoemdaaGreatDoor
open Go Go.RowKit Go.Proofs
end Go.Proofs.YtmjcgcnpeoemdaaGreatDoor
