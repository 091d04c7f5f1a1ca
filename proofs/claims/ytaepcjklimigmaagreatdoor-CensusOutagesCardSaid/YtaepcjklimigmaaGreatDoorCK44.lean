/- A part of the claim: see its last text. -/
import Derived.Test.YtaepcjklimigmaaGreatDoorCK43
import Derived.Test.YtaepcjklimigmaaGreatDoorCK22

set_option maxRecDepth 100000
set_option maxHeartbeats 16000000
namespace Go.Proofs.YtaepcjklimigmaaGreatDoor
open Go Go.RowKit Go.Proofs
theorem outage_no1 (h : MH) (m : Mod) (l : List EvM) (A : Option Addr) (c : Nat) (item : Int) (w : World) (d : MD w w.heap.size h m) (e : item < 1) :
    Calls Tryz.prog 27 #[.agg #[.slice h.s m.sT.length h.sc, .slice h.f m.fT.length h.fc, .slice h.r m.rT.length h.rc, .slice h.m m.mT.length h.mc, .slice h.l m.lT.length h.lc, .slice h.i m.iT.length h.ic, .int .i64 m.dT, .int .i64 m.oT, .int .i64 m.vT, .int .i64 m.aT, .slice h.u m.uT.length h.uc], .slice A l.length c, .int .i64 item] w (AnsR w (.int .i64 (outageM m l item))) := by
 have HB := hide ((Below.refl w.heap.size w).alloc (Nat.le_refl _) (.cells #[.slice h.s m.sT.length h.sc, .slice h.f m.fT.length h.fc, .slice h.r m.rT.length h.rc, .slice h.m m.mT.length h.mc, .slice h.l m.lT.length h.lc, .slice h.i m.iT.length h.ic, .int .i64 m.dT, .int .i64 m.oT, .int .i64 m.vT, .int .i64 m.aT, .slice h.u m.uT.length h.uc] 29))
 have hil := d.il
 have HV := hide (show outageM m l item = 0 by rw [outageM, kindI_no (.inl e)]; rfl)
 clear d
 go_enter Tryz.func27, Tryz.ntmps27
 go_wp2_with fail
 go_ret
 exact ⟨by rw [HV.out]; rfl, HB.out⟩
theorem outage_no2 (h : MH) (m : Mod) (l : List EvM) (A : Option Addr) (c : Nat) (item : Int) (w : World) (d : MD w w.heap.size h m) (e0 : 1 ≤ item) (e : (m.iT.length : Int) < item) :
    Calls Tryz.prog 27 #[.agg #[.slice h.s m.sT.length h.sc, .slice h.f m.fT.length h.fc, .slice h.r m.rT.length h.rc, .slice h.m m.mT.length h.mc, .slice h.l m.lT.length h.lc, .slice h.i m.iT.length h.ic, .int .i64 m.dT, .int .i64 m.oT, .int .i64 m.vT, .int .i64 m.aT, .slice h.u m.uT.length h.uc], .slice A l.length c, .int .i64 item] w (AnsR w (.int .i64 (outageM m l item))) := by
 have HB := hide ((Below.refl w.heap.size w).alloc (Nat.le_refl _) (.cells #[.slice h.s m.sT.length h.sc, .slice h.f m.fT.length h.fc, .slice h.r m.rT.length h.rc, .slice h.m m.mT.length h.mc, .slice h.l m.lT.length h.lc, .slice h.i m.iT.length h.ic, .int .i64 m.dT, .int .i64 m.oT, .int .i64 m.vT, .int .i64 m.aT, .slice h.u m.uT.length h.uc] 29))
 have hil := d.il
 have HV := hide (show outageM m l item = 0 by rw [outageM, kindI_no (.inr e)]; rfl)
 clear d
 go_enter Tryz.func27, Tryz.ntmps27
 go_wp2_with fail
 go_ret
 exact ⟨by rw [HV.out]; rfl, HB.out⟩
theorem outage_no3 (h : MH) (m : Mod) (l : List EvM) (A : Option Addr) (c : Nat) (item : Int) (w : World) (d : MD w w.heap.size h m) (a : Nat) (ha : a < m.iT.length) (e : item = (a : Int) + 1) (k0 : (m.iT[a].kind != 0) = true) :
    Calls Tryz.prog 27 #[.agg #[.slice h.s m.sT.length h.sc, .slice h.f m.fT.length h.fc, .slice h.r m.rT.length h.rc, .slice h.m m.mT.length h.mc, .slice h.l m.lT.length h.lc, .slice h.i m.iT.length h.ic, .int .i64 m.dT, .int .i64 m.oT, .int .i64 m.vT, .int .i64 m.aT, .slice h.u m.uT.length h.uc], .slice A l.length c, .int .i64 item] w (AnsR w (.int .i64 (outageM m l item))) := by
 have HB := hide ((Below.refl w.heap.size w).alloc (Nat.le_refl _) (.cells #[.slice h.s m.sT.length h.sc, .slice h.f m.fT.length h.fc, .slice h.r m.rT.length h.rc, .slice h.m m.mT.length h.mc, .slice h.l m.lT.length h.lc, .slice h.i m.iT.length h.ic, .int .i64 m.dT, .int .i64 m.oT, .int .i64 m.vT, .int .i64 m.aT, .slice h.u m.uT.length h.uc] 29))
 have hil := d.il
 obtain ⟨b, off, A2, c2, hA, hb, x0, x1, x2, x3, x4, x5, x6, hz, hlc, hcm, hI⟩ := d.dI.item ha
 have haI : (a : Int) < (m.iT.length : Int) := by omega
 have HV := hide (show outageM m l ((a : Int) + 1) = 0 by rw [outageM, kindI_yes ha, if_neg (by simpa using k0)])
 clear hI d hz
 rw [e]
 rw [hA] at HB ⊢
 clear e
 go_enter Tryz.func27, Tryz.ntmps27
 go_wp2_with fail
 go_ret
 exact ⟨by rw [HV.out]; rfl, HB.out⟩
theorem outage_yes (h : MH) (m : Mod) (l : List EvM) (A : Option Addr) (c : Nat) (w : World) (C : BrC w h m) (hv : validM m = true)
    (hE : Rows encEv 22 w w.heap.size A l) (hl : l.length ≤ 60) (hold : ∀ x ∈ l, x.old.length ≤ 10) (a : Nat) (ha : a < m.iT.length) (k0 : (m.iT[a].kind != 0) = false) :
    Calls Tryz.prog 27 #[.agg #[.slice h.s m.sT.length h.sc, .slice h.f m.fT.length h.fc, .slice h.r m.rT.length h.rc, .slice h.m m.mT.length h.mc, .slice h.l m.lT.length h.lc, .slice h.i m.iT.length h.ic, .int .i64 m.dT, .int .i64 m.oT, .int .i64 m.vT, .int .i64 m.aT, .slice h.u m.uT.length h.uc], .slice A l.length c, .int .i64 ((a : Int) + 1)] w (AnsR w (.int .i64 (outageM m l ((a : Int) + 1)))) := by
 have hb := (Below.refl w.heap.size w).alloc (Nat.le_refl _) (.cells #[.slice h.s m.sT.length h.sc, .slice h.f m.fT.length h.fc, .slice h.r m.rT.length h.rc, .slice h.m m.mT.length h.mc, .slice h.l m.lT.length h.lc, .slice h.i m.iT.length h.ic, .int .i64 m.dT, .int .i64 m.oT, .int .i64 m.vT, .int .i64 m.aT, .slice h.u m.uT.length h.uc] 29)
 have HB := hide hb
 have HM0 := hide (Blk.new w 29 #[.slice h.s m.sT.length h.sc, .slice h.f m.fT.length h.fc, .slice h.r m.rT.length h.rc, .slice h.m m.mT.length h.mc, .slice h.l m.lT.length h.lc, .slice h.i m.iT.length h.ic, .int .i64 m.dT, .int .i64 m.oT, .int .i64 m.vT, .int .i64 m.aT, .slice h.u m.uT.length h.uc])
 have HI := hide (initial_ref h m _ (C.d.grow hb) (by have := C.il2; omega) (fun x hx => by have := C.on x hx; omega))
 have hil := C.d.il
 obtain ⟨bi, oi, A2, c2, hA, hbi, x0, x1, x2, x3, x4, x5, x6, -, -, -, -⟩ := C.d.dI.item ha
 have haI : (a : Int) < (m.iT.length : Int) := by omega
 have HC0 := hide C
 have HEV := hide (fun W (hW : Below w.heap.size w W) => hE.below hW)
 have HK := hide (fun (y : ItemM) (hy : y ∈ m.iT) => valid_kind hv hy)
 have HR := hide (fun k => Room.placeAt (m := m) (l := l) (by have := C.il2; omega) C.on hold k)
 have HOL := hide hold
 have HV := hide (show outageM m l ((a : Int) + 1) = mostTo m l ((a : Int) + 1) l.length by rw [outageM, kindI_yes ha, if_pos (by simpa using k0)])
 have haS : (a : Int) + 1 ≤ 100 := by have := C.il2; omega
 have HIR := hide (runTo_rng m l ((a : Int) + 1))
 have HIM := hide (mostTo_rng m l ((a : Int) + 1))
 have HA := hide hA
 clear hb C hv hE hold
 rw [hA]
 clear hA
 go_enter Tryz.func27, Tryz.ntmps27
 go_wp2_with (go_at_call 39; rw [← HA.out]; refine HI.out.mono ?_; rintro e w1 ⟨A1, c1, rfl, hp1, hb1⟩
              have hb2 := ((Below.refl w1.heap.size w1).alloc (Nat.le_refl _) (.cells #[.slice A1 (initP m).length c1] 64)).alloc (by simp) (.cells #[] 3)
              have HS0 := hide (show OtS w h m w1.heap.size (placeAt m l 0) ((w1.alloc (.cells #[.slice A1 (initP m).length c1] 64)).alloc (.cells #[] 3)) from
               ⟨(HB.out.trans (hb1.mono HB.out.size)).trans (hb2.mono (HB.out.trans (hb1.mono HB.out.size)).size), (HM0.out.below hb1 HM0.out.lt).below hb2 (HM0.out.below hb1 HM0.out.lt).lt, ⟨A1, c1, (Blk.new w1 _ _).alloc _, hp1.below hb2⟩⟩)
              have HW1 := hide (show w.heap.size ≤ w1.heap.size from (HB.out.trans (hb1.mono HB.out.size)).size)
              have HO0 := hide (show OwnI w.heap.size ((w1.alloc (.cells #[.slice A1 (initP m).length c1] 64)).alloc (.cells #[] 3)) (.slice (some ⟨w1.heap.size + 1, 0, none⟩) 0 0) [] by
               have := OwnI.new (B := w.heap.size) (w1.alloc (.cells #[.slice A1 (initP m).length c1] 64)) [] (by simp; have := HW1.out; omega) (by simp)
               simpa using this)
              clear hp1 hb1 hb2)
 clear x0 x1 x2 x3 x4 x5 x6 hbi haI k0 hil
 go_loopw [8, 9, 10, 11] (fun v mv rv iv wr => OtI w h m l ((a : Int) + 1) w1.heap.size v mv rv iv wr) (fun _ _ _ iv _ => l.length - (intOf iv).toNat)
 case atStart => exact ⟨0, Nat.zero_le _, rfl, rfl, rfl, hide ⟨HS0.out, [], HO0.out, Nat.le_refl _, by simp [dnTo]⟩⟩
 case round =>
  clear HS0 HO0
  obtain ⟨k, hk, rfl, rfl, rfl, hh⟩ := hrel
  obtain ⟨hS, dl, hO, hdl, hmem⟩ := hh.out
  clear hh
  have hS := hide hS
  have HO := hide hO
  have HMEM := hide hmem
  obtain ⟨R, hR⟩ : ∃ R, R = runTo m l ((a : Int) + 1) k := ⟨_, rfl⟩
  obtain ⟨M, hM⟩ : ∃ M, M = mostTo m l ((a : Int) + 1) k := ⟨_, rfl⟩
  have r1 := (HIR.out k).1
  have r2 := (HIR.out k).2
  have m1 := (HIM.out k).1
  have m2 := (HIM.out k).2
  have HRR := hide hR
  have HMM := hide hM
  rw [← hR] at r1 r2 ⊢
  rw [← hM] at m1 m2 ⊢
  clear hmem hR hM
  obtain ⟨Ad, cd, rfl, hcd, hId⟩ := hO.form
  have HID := hide hId
  clear hO hId
  obtain ⟨a0, a1, a2, a3, a4, a5, a6, a7, a8, a9, a10⟩ := MB.cells hS.out.mo
  have al := hS.out.mo.lt
  by_cases hlt : k < l.length
  · obtain ⟨x, hx⟩ : ∃ x, l[k] = x := ⟨_, rfl⟩
    obtain ⟨b, off, j, hA, hb, ho1, ho2, hoI, hc⟩ := (HEV.out wr hS.out.b).evRange hlt hx
    have hbl := Nat.lt_of_lt_of_le hb hS.out.b.size
    have hxo : x.old.length ≤ 10 := by rw [← hx]; exact HOL.out _ (List.getElem_mem hlt)
    have HCR := hide (fun W (hW : Below wr.heap.size wr W) => range_below hc hW hbl)
    have HX := hide hx
    have HCW := hide (fun W (hW : Below w.heap.size w W) => (fun jj v hv => (hW.cell (p := ⟨b, (off + k * 22) + jj, none⟩) hb).trans ((hS.out.b.cell (p := ⟨b, (off + k * 22) + jj, none⟩) hb).symm.trans (hc jj v hv)) : W.rangeAt b (off + k * 22) [.int .i64 x.kind, .int .i64 x.mach, .int .i64 j.v2, .int .i64 j.v3, .int .i64 x.group, .int .i64 j.v5, .string j.v6, .int .i64 j.v7, .int .i64 j.v8, .int .i64 j.v9, .bool j.v10, .int .i64 j.v11, .slice j.A x.old.length j.c, .slice j.A13 j.n13 j.c13, .slice j.A14 j.n14 j.c14, .int .i64 x.hitem, .int .i64 j.v16, .int .i64 x.hstate, .int .i64 j.v18, .int .i64 j.v19, .bool x.gone, .int .i64 x.outcome]))
    subst hA
    have HC := hide (counts_ref h m x j wr.drew ((HC0.out.d.grow hS.out.b).grow (Below.refl _ wr).drew) HK.out)
    have HJ := hide (hoI.more (show w.heap.size ≤ wr.heap.size from hS.out.b.size))
    have HLM := hide (fun W (hW : Below wr.heap.size wr W) => model_range (hS.out.mo.below hW al))
    have HLT := hide hlt
    clear hc hx ho1 ho2 hoI
    have hkI : (k : Int) < (l.length : Int) := by omega
    cases hcb : countsB m x
    · rw [hcb] at HC
      have HPA := hide (show placeAt m l (k + 1) = placeAt m l k by rw [placeAt_succ m l hlt, HX.out, stepP, hcb]; simp)
      go_wp2_with fail
      refine wp_region_held_drew (S := fun W => Below wr.heap.size wr W) (by kernel_rfl) (Below.refl _ wr).drew (fun hHeld => ?_)
      refine wpAnyH_take (i := 0) (oi := _) (v := _) rfl (by kernel_rfl) (by kernel_rfl) (by kernel_rfl) (fun _ _ _ h => h) (yieldsIf_load_mid (by rfl) 29 _ rfl w.heap.size 0 rfl [.slice h.s m.sT.length h.sc, .slice h.f m.fT.length h.fc, .slice h.r m.rT.length h.rc, .slice h.m m.mT.length h.mc, .slice h.l m.lT.length h.lc, .slice h.i m.iT.length h.ic, .int .i64 m.dT, .int .i64 m.oT, .int .i64 m.vT, .int .i64 m.aT, .slice h.u m.uT.length h.uc] _ (fun W hW => HLM.out W hW) Tryz.underlying29 rfl sizeModel) hHeld ?_
      simp only [Act.put, List.getElem_toArray, List.getElem_cons_zero, List.setIfInBounds_toArray, List.set_cons_zero, List.set_cons_succ]
      refine wpAnyH_take (i := 1) (oi := _) (v := ?_) rfl (by kernel_rfl) (by kernel_rfl) (by kernel_rfl) (fun _ _ _ h => h) (Or.inl ⟨by rfl, ?_⟩) hHeld ?_
      rotate_left
      · intro W hW; go_simp; with_reducible rfl
      simp only [Act.put, List.getElem_toArray, List.getElem_cons_succ, List.getElem_cons_zero, List.setIfInBounds_toArray, List.set_cons_zero, List.set_cons_succ]
      refine wpAnyH_take (i := 2) (oi := _) (v := ?_) rfl (by kernel_rfl) (by kernel_rfl) (by kernel_rfl) (fun _ _ _ h => h) (Or.inl ⟨by rfl, ?_⟩) hHeld ?_
      rotate_left
      · intro W hW; go_simp; with_reducible rfl
      simp only [Act.put, List.getElem_toArray, List.getElem_cons_succ, List.getElem_cons_zero, List.setIfInBounds_toArray, List.set_cons_zero, List.set_cons_succ]
      refine wpAnyH_take (i := 3) (oi := _) (v := ?_) rfl (by kernel_rfl) (by kernel_rfl) (by kernel_rfl) (fun _ _ _ h => h) (Or.inl ⟨by rfl, ?_⟩) hHeld ?_
      rotate_left
      · intro W hW; go_simp; with_reducible rfl
      simp only [Act.put, List.getElem_toArray, List.getElem_cons_succ, List.getElem_cons_zero, List.setIfInBounds_toArray, List.set_cons_zero, List.set_cons_succ]
      refine wpAnyH_take (i := 4) (oi := _) (v := _) rfl (by kernel_rfl) (by kernel_rfl) (by kernel_rfl) (fun _ _ _ h => h) (yieldsIf_load_mid (by rfl) 54 _ rfl b (off + k * 22) rfl [.int .i64 x.kind, .int .i64 x.mach, .int .i64 j.v2, .int .i64 j.v3, .int .i64 x.group, .int .i64 j.v5, .string j.v6, .int .i64 j.v7, .int .i64 j.v8, .int .i64 j.v9, .bool j.v10, .int .i64 j.v11, .slice j.A x.old.length j.c, .slice j.A13 j.n13 j.c13, .slice j.A14 j.n14 j.c14, .int .i64 x.hitem, .int .i64 j.v16, .int .i64 x.hstate, .int .i64 j.v18, .int .i64 j.v19, .bool x.gone, .int .i64 x.outcome] _ (fun W hW => HCR.out W hW) Tryz.underlying54 rfl sizeEv) hHeld ?_
      simp only [Act.put, List.getElem_toArray, List.getElem_cons_succ, List.getElem_cons_zero, List.setIfInBounds_toArray, List.set_cons_zero, List.set_cons_succ]
      refine wpAnyH_ready (rs := [5]) (by kernel_rfl) (by simp) ?_
      refine AllReadyH.cons rfl (fun K hK => ?_) AllReadyH.nil
      go_simp
      go_at_call 21
      refine HC.out.mono ?_
      rintro e w2 ⟨rfl, hb2⟩
      have hb2' : Below wr.heap.size wr w2 := ⟨hb2.os, hb2.tape, hb2.output, hb2.size, hb2.block⟩
      have HB2 := hide hb2'
      clear hb2
      dsimp only
      refine hK.out _ _ hb2' (fun hHeld => ?_)
      refine wpAnyH_done (by kernel_rfl) ?_ _
      clear hK hb2'
      obtain ⟨q, hq⟩ : ∃ q, q = placeAt m l (k + 1) := ⟨_, rfl⟩
      have HQR := hide (show Room (100 + 11 * (k + 1)) q by rw [hq]; exact HR.out (k + 1))
      have HS2 := hide (show OtS w h m w1.heap.size q w2 by rw [hq, HPA.out]; exact hS.out.grow HB2.out)
      have HO2 := hide (HO.out.below HB2.out)
      have HI2 := hide (show Ints w2 w2.heap.size Ad dl from (HID.out.below HB2.out).more HB2.out.size)
      have HQ := hide hq
      clear hq a0 a1 a2 a3 a4 a5 a6 a7 a8 a9 a10 al HLM HC hbl HCW HJ
      have x0 : w2.cell? ⟨b, off + k * 22, none⟩ = some (.int .i64 x.kind) := HCR.out w2 HB2.out 0 _ rfl
      have x1 : w2.cell? ⟨b, off + k * 22 + 1, none⟩ = some (.int .i64 x.mach) := HCR.out w2 HB2.out 1 _ rfl
      have hbl : b < w2.heap.size := Nat.lt_of_lt_of_le hb (HS2.out.b.size)
      clear HCR HB2 hS HO HID
      have hB : ∀ b : Bool, b = false ∨ b = true := fun b => by cases b <;> simp
      rcases hB (x.kind == 6) with g6 | g6
      · rcases hB (x.kind == 7) with g7 | g7
        · have HD := hide (show dnTo l (k + 1) = dnTo l k by rw [dnTo_succ hlt, HX.out, dnStep]; simp at g6 g7; simp [g6, g7])
          obtain ⟨wt, rfl⟩ : ∃ wt, wt = w2 := ⟨_, rfl⟩
          have HSt := HS2
          obtain ⟨dt, rfl⟩ : ∃ dt, dt = dl := ⟨_, rfl⟩
          obtain ⟨At, rfl⟩ : ∃ At, At = Ad := ⟨_, rfl⟩
          have HDt := HI2
          have HOt := HO2
          have HMt := hide (show ∀ y, y ∈ dt ↔ y ∈ dnTo l (k + 1) by rw [HD.out]; exact HMEM.out)
          have hdt : dt.length ≤ k + 1 := by omega
          clear HS2 HI2 HO2 HMEM HD
          obtain ⟨Ap, cp, hpb, hpt⟩ := HSt.out.pl
          have p0 := hpb.cell 0
          have p0l := hpb.lt
          simp only [List.getElem?_toArray, List.getElem?_cons_zero] at p0
          have HMA := hide (machines_ref Ap cp q ((a : Int) + 1) 0 wt (hpt.below (Below.refl _ _)).pr (by have := HQR.out.1; omega) (by have := HQR.out.unitsP ((a : Int) + 1); omega))
          have HUL := hide (show (machinesP q ((a : Int) + 1) 0).length ≤ 800 by
           have h1 := HQR.out.unitsP ((a : Int) + 1)
           have h2 : (machinesP q ((a : Int) + 1) 0).length ≤ (unitsP q ((a : Int) + 1)).length := by simp only [machinesP, List.length_map]; exact List.length_filter_le _ _
           omega)
          obtain ⟨ons, hons⟩ : ∃ ons, ons = machinesP q ((a : Int) + 1) 0 := ⟨_, rfl⟩
          have HON := hide hons
          rw [← hons] at HMA HUL
          clear hpb hpt hons
          go_wp2_with (go_at_call 22; refine HMA.out.mono ?_; rintro e w6 ⟨v6, rfl, ho6, hb6⟩
                       obtain ⟨Ao, co, rfl, -, hi6⟩ := ho6.form
                       have HI6 := hide hi6
                       have HS6 := hide (HSt.out.grow hb6)
                       have HD6 := hide (show Ints w6 w6.heap.size At dt from (HDt.out.below hb6).more hb6.size)
                       have HO6 := hide (HOt.out.below hb6)
                       have hul := HUL.out
                       clear hi6 ho6 hb6 p0 p0l)
          go_loop [15, 16] (fun u i => ∃ n : Nat, n ≤ ons.length ∧ i = .int .i64 n ∧ u = .int .i64 (upsOf (ons.take n) dt : Nat)) (fun _ i => ons.length - (intOf i).toNat)
          case atStart => exact ⟨0, Nat.zero_le _, rfl, by simp [upsOf]⟩
          case round =>
           obtain ⟨n, hn, rfl, rfl⟩ := hrel
           by_cases hnl : n < ons.length
           · obtain ⟨z, hz⟩ : ∃ z, z = ons[n] := ⟨_, rfl⟩
             obtain ⟨ba, oa, hAa, hba, z0⟩ := int_at HI6.out hnl
             subst hAa
             rw [← hz] at z0
             have HUS := hide (upsOf_succ ons dt hnl)
             rw [← hz] at HUS
             have HUB := hide (upsOf_le (ons.take n) dt)
             obtain ⟨u, hu⟩ : ∃ u, u = upsOf (ons.take n) dt := ⟨_, rfl⟩
             rw [← hu] at HUS HUB ⊢
             have hub : u ≤ n := by have := HUB.out; rw [List.length_take] at this; omega
             have hwu : IntKind.i64.wrap ((u : Int) + 1) = (u : Int) + 1 := by rw [IntKind.wrap_i64]; omega
             have HHI := hide (hasInt_ref At cd dt z w6 (by omega) HD6.out)
             have hnI : (n : Int) < (ons.length : Int) := by omega
             clear hz hu
             cases hm : decide (z ∈ dt)
             · rw [hm] at HHI
               have HUZ := hide (show upsOf (ons.take (n + 1)) dt = u + 1 by rw [HUS.out, if_neg (by simpa using hm)])
               clear hm
               go_wp2_with (go_at_call 58; refine HHI.out.mono ?_; rintro e w7 ⟨rfl, rfl⟩)
               go_round
               case rel => exact ⟨n + 1, by omega, by go_num, by rw [HUZ.out]; rfl⟩
               case measure => simp [intOf]; omega
             · rw [hm] at HHI
               have HUZ := hide (show upsOf (ons.take (n + 1)) dt = u by rw [HUS.out, if_pos (by simpa using hm)]; rfl)
               clear hm
               go_wp2_with (go_at_call 58; refine HHI.out.mono ?_; rintro e w7 ⟨rfl, rfl⟩)
               go_round
               case rel => exact ⟨n + 1, by omega, by go_num, by rw [HUZ.out]⟩
               case measure => simp [intOf]; omega
           · obtain rfl : n = ons.length := by omega
             obtain ⟨u, hu⟩ : ∃ u, u = upsOf (ons.take ons.length) dt := ⟨_, rfl⟩
             have HUU := hide (show u = upsOf ons (dnTo l (k + 1)) by rw [hu, List.take_length]; exact ups_congr HMt.out)
             have hub : u ≤ ons.length := by rw [hu, List.take_length]; exact upsOf_le _ _
             rw [← hu]
             clear hu
             have hwu : IntKind.i64.wrap (2 * (u : Int)) = 2 * (u : Int) := by rw [IntKind.wrap_i64]; omega
             have hwr : IntKind.i64.wrap (R + 1) = R + 1 := by rw [IntKind.wrap_i64]; omega
             have hwk : IntKind.i64.wrap ((k : Int) + 1) = (k : Int) + 1 := by rw [IntKind.wrap_i64]; omega
             rcases hB (decide ((ons.length : Int) < 2 * (u : Int))) with hd | hd
             · have HRS := hide (show runTo m l ((a : Int) + 1) (k + 1) = R + 1 by rw [runTo, ← HRR.out, ← HQ.out, ← HON.out]; unfold runStep; rw [← HUU.out, if_neg (by simpa using hd)])
               go_wp2_with fail
               go_roundw
               case rel => exact ⟨k + 1, by have := HLT.out; omega, by go_num, by rw [mostTo, HRS.out, ← HMM.out], by rw [HRS.out], hide ⟨by rw [← HQ.out]; exact HS6.out, dt, HO6.out, hdt, HMt.out⟩⟩
               case measure => have := HLT.out; simp [intOf]; omega
             · have HRS := hide (show runTo m l ((a : Int) + 1) (k + 1) = 0 by rw [runTo, ← HRR.out, ← HQ.out, ← HON.out]; unfold runStep; rw [← HUU.out, if_pos (by simpa using hd)])
               go_wp2_with fail
               go_roundw
               case rel => exact ⟨k + 1, by have := HLT.out; omega, by go_num, by rw [mostTo, HRS.out, ← HMM.out], by rw [HRS.out], hide ⟨by rw [← HQ.out]; exact HS6.out, dt, HO6.out, hdt, HMt.out⟩⟩
               case measure => have := HLT.out; simp [intOf]; omega
        · have HDn := hide (show dnTo l (k + 1) = delD (dnTo l k) x.mach by rw [dnTo_succ hlt, HX.out, dnStep]; simp at g7; simp [g7])
          have HBW := hide (show w.heap.size ≤ w2.heap.size from HS2.out.b.size)
          have HRE := hide (OwnI.new (B := w2.heap.size) w2 [] (Nat.le_refl _) (by simp))
          have HBE := hide (show Below w2.heap.size w2 (w2.alloc (.cells #[] 3)) from (Below.refl _ _).alloc (Nat.le_refl _) _)
          go_wp2_with fail
          go_loopw [12, 13] (fun rv iv wr => ∃ n : Nat, n ≤ dl.length ∧ iv = .int .i64 n ∧ Hid (OwnI w2.heap.size wr rv ((dl.take n).filter fun d : Int => decide (d ≠ x.mach)) ∧ Below w2.heap.size w2 wr)) (fun _ iv _ => dl.length - (intOf iv).toNat)
          case atStart => exact ⟨0, Nat.zero_le _, rfl, hide ⟨HRE.out, HBE.out⟩⟩
          case round =>
           clear HRE HBE
           obtain ⟨n, hn, rfl, hh⟩ := hrel
           obtain ⟨ho3, hb3⟩ := hh.out
           have HO3 := hide ho3
           have HB3 := hide hb3
           have y0 := (hb3.cell (p := ⟨b, off + k * 22, none⟩) hbl).trans x0
           have y1 := (hb3.cell (p := ⟨b, off + k * 22 + 1, none⟩) hbl).trans x1
           have ybl : b < wr.heap.size := Nat.lt_of_lt_of_le hbl hb3.size
           clear hh ho3 hb3 x0 x1 hbl
           by_cases hnl : n < dl.length
           · obtain ⟨z, hz⟩ : ∃ z, z = dl[n] := ⟨_, rfl⟩
             obtain ⟨ba, oa, hAa, hba, z0⟩ := int_at ((HI2.out.below HB3.out).more HB3.out.size) hnl
             subst hAa
             rw [← hz] at z0
             have hfx : (dl.take (n + 1)).filter (fun d : Int => decide (d ≠ x.mach)) = (dl.take n).filter (fun d : Int => decide (d ≠ x.mach)) ++ if z = x.mach then [] else [z] := by
              rw [List.take_succ_eq_append_getElem hnl, List.filter_append, ← hz]
              by_cases e : z = x.mach <;> simp [e]
             obtain ⟨fl, hfl⟩ : ∃ fl, fl = (dl.take n).filter (fun d : Int => decide (d ≠ x.mach)) := ⟨_, rfl⟩
             have hfl2 : fl.length ≤ 1000 := by
              rw [hfl]
              have := List.length_filter_le (fun d : Int => decide (d ≠ x.mach)) (dl.take n)
              rw [List.length_take] at this
              omega
             rw [← hfl] at hfx HO3
             have HFX := hide hfx
             have hnI : (n : Int) < (dl.length : Int) := by omega
             have HNL := hide hnl
             clear hfl hz hfx
             rcases hB (z != x.mach) with hzm | hzm
             · have HFY := hide (show (if z = x.mach then [] else [z]) = ([] : List Int) by simp at hzm; simp [hzm])
               go_wp2_with fail
               go_quiet (fail)
               go_wp2_with fail
               go_roundw
               case rel => exact ⟨n + 1, HNL.out, by go_num, hide ⟨by rw [HFX.out, HFY.out, List.append_nil]; exact HO3.out.below (below_drawn (Below.refl _ _) _), HB3.out.trans ((below_drawn (Below.refl _ _) _).mono HB3.out.size)⟩⟩
               case measure => have := HNL.out; simp [intOf]; omega
             · have HFY := hide (show (if z = x.mach then [] else [z]) = [z] by simp at hzm; simp [hzm])
               go_wp2_with fail
               go_quiet (fail)
               obtain ⟨wd, hwd⟩ : ∃ wd, wd = wr.drewN nq := ⟨_, rfl⟩
               have hbd : Below wr.heap.size wr wd := by rw [hwd]; exact below_drawn (Below.refl _ _) nq
               rw [← hwd]
               have z1 : wd.cell? ⟨ba, oa + n, none⟩ = some (.int .i64 z) := (hbd.cell (p := ⟨ba, oa + n, none⟩) hba).trans z0
               have zl : ba < wd.heap.size := Nat.lt_of_lt_of_le hba hbd.size
               have HBD := hide (HB3.out.trans (hbd.mono HB3.out.size))
               have HO4 := hide ((HO3.out.below hbd).alloc (.cells #[.int .i64 z] 3))
               have HR4 := hide (Ints.newRow2 wd 3 [z] rfl)
               have HZ := hide (show w2.heap.size ≤ (wd.alloc (.cells #[.int .i64 z] 3)).heap.size by have := HBD.out.size; simp; omega)
               clear z0 hba y0 y1 ybl hwd hbd
               go_wp2_with (at_builtin; refine append_ints rfl _ _ rfl w2.heap.size _ fl rfl HO4.out (wd.heap.size + 1) (some ⟨wd.heap.size, 0, none⟩) _ [z] rfl HR4.out (by simp; omega) HZ.out ?_; intro v5 w5 ho5 hg5 _; have ho5 := hide ho5; have hg5 := hide hg5)
               have hb5 : Below w2.heap.size w2 w5 := (HBD.out.alloc HBD.out.size (.cells #[.int .i64 z] 3)).grown hg5.out HZ.out (fun g hg => (HO4.out.lt g hg).1)
               go_roundw
               case rel => exact ⟨n + 1, HNL.out, by go_num, hide ⟨by rw [HFX.out, HFY.out]; exact ho5.out, hb5⟩⟩
               case measure => have := HNL.out; simp [intOf]; omega
           · obtain rfl : n = dl.length := by omega
             obtain ⟨dt, hdt⟩ : ∃ dt, dt = (dl.take dl.length).filter (fun d : Int => decide (d ≠ x.mach)) := ⟨_, rfl⟩
             have hdt0 : dt.length ≤ k := by
              rw [hdt, List.take_length]
              have := List.length_filter_le (fun d : Int => decide (d ≠ x.mach)) dl
              omega
             have hdm : ∀ y, y ∈ dt ↔ y ∈ dl ∧ y ≠ x.mach := by intro y; rw [hdt, List.take_length]; simp
             rw [← hdt] at HO3
             clear hdt
             obtain ⟨At, cd, rfl, -, hit⟩ := HO3.out.form
             have HDM := hide hdm
             have HDI := hide hit
             have HS3 := hide (HS2.out.grow HB3.out)
             clear hdm hit HO2 HI2
             have HMt := hide (show ∀ y, y ∈ dt ↔ y ∈ dnTo l (k + 1) by intro y; rw [HDn.out, delD_mem (dnTo_nodup l k), HDM.out, HMEM.out])
             have hdt : dt.length ≤ k + 1 := by omega
             have HSt := HS3
             have HDt := HDI
             have HOt := hide (own_lowerI HO3.out HBW.out)
             obtain ⟨wt, rfl⟩ : ∃ wt, wt = wr := ⟨_, rfl⟩
             clear HO3 HDM HDI HS3 HDn
             obtain ⟨Ap, cp, hpb, hpt⟩ := HSt.out.pl
             have p0 := hpb.cell 0
             have p0l := hpb.lt
             simp only [List.getElem?_toArray, List.getElem?_cons_zero] at p0
             have HMA := hide (machines_ref Ap cp q ((a : Int) + 1) 0 wt (hpt.below (Below.refl _ _)).pr (by have := HQR.out.1; omega) (by have := HQR.out.unitsP ((a : Int) + 1); omega))
             have HUL := hide (show (machinesP q ((a : Int) + 1) 0).length ≤ 800 by
              have h1 := HQR.out.unitsP ((a : Int) + 1)
              have h2 : (machinesP q ((a : Int) + 1) 0).length ≤ (unitsP q ((a : Int) + 1)).length := by simp only [machinesP, List.length_map]; exact List.length_filter_le _ _
              omega)
             obtain ⟨ons, hons⟩ : ∃ ons, ons = machinesP q ((a : Int) + 1) 0 := ⟨_, rfl⟩
             have HON := hide hons
             rw [← hons] at HMA HUL
             clear hpb hpt hons
             go_wp2_with (go_at_call 22; refine HMA.out.mono ?_; rintro e w6 ⟨v6, rfl, ho6, hb6⟩
                          obtain ⟨Ao, co, rfl, -, hi6⟩ := ho6.form
                          have HI6 := hide hi6
                          have HS6 := hide (HSt.out.grow hb6)
                          have HD6 := hide (show Ints w6 w6.heap.size At dt from (HDt.out.below hb6).more hb6.size)
                          have HO6 := hide (HOt.out.below hb6)
                          have hul := HUL.out
                          clear hi6 ho6 hb6 p0 p0l)
             go_loop [15, 16] (fun u i => ∃ n : Nat, n ≤ ons.length ∧ i = .int .i64 n ∧ u = .int .i64 (upsOf (ons.take n) dt : Nat)) (fun _ i => ons.length - (intOf i).toNat)
             case atStart => exact ⟨0, Nat.zero_le _, rfl, by simp [upsOf]⟩
             case round =>
              obtain ⟨n, hn, rfl, rfl⟩ := hrel
              by_cases hnl : n < ons.length
              · obtain ⟨z, hz⟩ : ∃ z, z = ons[n] := ⟨_, rfl⟩
                obtain ⟨ba, oa, hAa, hba, z0⟩ := int_at HI6.out hnl
                subst hAa
                rw [← hz] at z0
                have HUS := hide (upsOf_succ ons dt hnl)
                rw [← hz] at HUS
                have HUB := hide (upsOf_le (ons.take n) dt)
                obtain ⟨u, hu⟩ : ∃ u, u = upsOf (ons.take n) dt := ⟨_, rfl⟩
                rw [← hu] at HUS HUB ⊢
                have hub : u ≤ n := by have := HUB.out; rw [List.length_take] at this; omega
                have hwu : IntKind.i64.wrap ((u : Int) + 1) = (u : Int) + 1 := by rw [IntKind.wrap_i64]; omega
                have HHI := hide (hasInt_ref At cd dt z w6 (by omega) HD6.out)
                have hnI : (n : Int) < (ons.length : Int) := by omega
                clear hz hu
                cases hm : decide (z ∈ dt)
                · rw [hm] at HHI
                  have HUZ := hide (show upsOf (ons.take (n + 1)) dt = u + 1 by rw [HUS.out, if_neg (by simpa using hm)])
                  clear hm
                  go_wp2_with (go_at_call 58; refine HHI.out.mono ?_; rintro e w7 ⟨rfl, rfl⟩)
                  go_round
                  case rel => exact ⟨n + 1, by omega, by go_num, by rw [HUZ.out]; rfl⟩
                  case measure => simp [intOf]; omega
                · rw [hm] at HHI
                  have HUZ := hide (show upsOf (ons.take (n + 1)) dt = u by rw [HUS.out, if_pos (by simpa using hm)]; rfl)
                  clear hm
                  go_wp2_with (go_at_call 58; refine HHI.out.mono ?_; rintro e w7 ⟨rfl, rfl⟩)
                  go_round
                  case rel => exact ⟨n + 1, by omega, by go_num, by rw [HUZ.out]⟩
                  case measure => simp [intOf]; omega
              · obtain rfl : n = ons.length := by omega
                obtain ⟨u, hu⟩ : ∃ u, u = upsOf (ons.take ons.length) dt := ⟨_, rfl⟩
                have HUU := hide (show u = upsOf ons (dnTo l (k + 1)) by rw [hu, List.take_length]; exact ups_congr HMt.out)
                have hub : u ≤ ons.length := by rw [hu, List.take_length]; exact upsOf_le _ _
                rw [← hu]
                clear hu
                have hwu : IntKind.i64.wrap (2 * (u : Int)) = 2 * (u : Int) := by rw [IntKind.wrap_i64]; omega
                have hwr : IntKind.i64.wrap (R + 1) = R + 1 := by rw [IntKind.wrap_i64]; omega
                have hwk : IntKind.i64.wrap ((k : Int) + 1) = (k : Int) + 1 := by rw [IntKind.wrap_i64]; omega
                rcases hB (decide ((ons.length : Int) < 2 * (u : Int))) with hd | hd
                · have HRS := hide (show runTo m l ((a : Int) + 1) (k + 1) = R + 1 by rw [runTo, ← HRR.out, ← HQ.out, ← HON.out]; unfold runStep; rw [← HUU.out, if_neg (by simpa using hd)])
                  go_wp2_with fail
                  go_roundw
                  case rel => exact ⟨k + 1, by have := HLT.out; omega, by go_num, by rw [mostTo, HRS.out, ← HMM.out], by rw [HRS.out], hide ⟨by rw [← HQ.out]; exact HS6.out, dt, HO6.out, hdt, HMt.out⟩⟩
                  case measure => have := HLT.out; simp [intOf]; omega
                · have HRS := hide (show runTo m l ((a : Int) + 1) (k + 1) = 0 by rw [runTo, ← HRR.out, ← HQ.out, ← HON.out]; unfold runStep; rw [← HUU.out, if_pos (by simpa using hd)])
                  go_wp2_with fail
                  go_roundw
                  case rel => exact ⟨k + 1, by have := HLT.out; omega, by go_num, by rw [mostTo, HRS.out, ← HMM.out], by rw [HRS.out], hide ⟨by rw [← HQ.out]; exact HS6.out, dt, HO6.out, hdt, HMt.out⟩⟩
                  case measure => have := HLT.out; simp [intOf]; omega
      · have HDn := hide (show dnTo l (k + 1) = insD (dnTo l k) x.mach by rw [dnTo_succ hlt, HX.out, dnStep]; simp at g6; simp [g6])
        have HBW := hide (show w.heap.size ≤ w2.heap.size from HS2.out.b.size)
        have HRE := hide (OwnI.new (B := w2.heap.size) w2 [] (Nat.le_refl _) (by simp))
        have HBE := hide (show Below w2.heap.size w2 (w2.alloc (.cells #[] 3)) from (Below.refl _ _).alloc (Nat.le_refl _) _)
        go_wp2_with fail
        go_loopw [12, 13] (fun rv iv wr => ∃ n : Nat, n ≤ dl.length ∧ iv = .int .i64 n ∧ Hid (OwnI w2.heap.size wr rv ((dl.take n).filter fun d : Int => decide (d ≠ x.mach)) ∧ Below w2.heap.size w2 wr)) (fun _ iv _ => dl.length - (intOf iv).toNat)
        case atStart => exact ⟨0, Nat.zero_le _, rfl, hide ⟨HRE.out, HBE.out⟩⟩
        case round =>
         clear HRE HBE
         obtain ⟨n, hn, rfl, hh⟩ := hrel
         obtain ⟨ho3, hb3⟩ := hh.out
         have HO3 := hide ho3
         have HB3 := hide hb3
         have y0 := (hb3.cell (p := ⟨b, off + k * 22, none⟩) hbl).trans x0
         have y1 := (hb3.cell (p := ⟨b, off + k * 22 + 1, none⟩) hbl).trans x1
         have ybl : b < wr.heap.size := Nat.lt_of_lt_of_le hbl hb3.size
         clear hh ho3 hb3 x0 x1 hbl
         by_cases hnl : n < dl.length
         · obtain ⟨z, hz⟩ : ∃ z, z = dl[n] := ⟨_, rfl⟩
           obtain ⟨ba, oa, hAa, hba, z0⟩ := int_at ((HI2.out.below HB3.out).more HB3.out.size) hnl
           subst hAa
           rw [← hz] at z0
           have hfx : (dl.take (n + 1)).filter (fun d : Int => decide (d ≠ x.mach)) = (dl.take n).filter (fun d : Int => decide (d ≠ x.mach)) ++ if z = x.mach then [] else [z] := by
            rw [List.take_succ_eq_append_getElem hnl, List.filter_append, ← hz]
            by_cases e : z = x.mach <;> simp [e]
           obtain ⟨fl, hfl⟩ : ∃ fl, fl = (dl.take n).filter (fun d : Int => decide (d ≠ x.mach)) := ⟨_, rfl⟩
           have hfl2 : fl.length ≤ 1000 := by
            rw [hfl]
            have := List.length_filter_le (fun d : Int => decide (d ≠ x.mach)) (dl.take n)
            rw [List.length_take] at this
            omega
           rw [← hfl] at hfx HO3
           have HFX := hide hfx
           have hnI : (n : Int) < (dl.length : Int) := by omega
           have HNL := hide hnl
           clear hfl hz hfx
           rcases hB (z != x.mach) with hzm | hzm
           · have HFY := hide (show (if z = x.mach then [] else [z]) = ([] : List Int) by simp at hzm; simp [hzm])
             go_wp2_with fail
             go_quiet (fail)
             go_wp2_with fail
             go_roundw
             case rel => exact ⟨n + 1, HNL.out, by go_num, hide ⟨by rw [HFX.out, HFY.out, List.append_nil]; exact HO3.out.below (below_drawn (Below.refl _ _) _), HB3.out.trans ((below_drawn (Below.refl _ _) _).mono HB3.out.size)⟩⟩
             case measure => have := HNL.out; simp [intOf]; omega
           · have HFY := hide (show (if z = x.mach then [] else [z]) = [z] by simp at hzm; simp [hzm])
             go_wp2_with fail
             go_quiet (fail)
             obtain ⟨wd, hwd⟩ : ∃ wd, wd = wr.drewN nq := ⟨_, rfl⟩
             have hbd : Below wr.heap.size wr wd := by rw [hwd]; exact below_drawn (Below.refl _ _) nq
             rw [← hwd]
             have z1 : wd.cell? ⟨ba, oa + n, none⟩ = some (.int .i64 z) := (hbd.cell (p := ⟨ba, oa + n, none⟩) hba).trans z0
             have zl : ba < wd.heap.size := Nat.lt_of_lt_of_le hba hbd.size
             have HBD := hide (HB3.out.trans (hbd.mono HB3.out.size))
             have HO4 := hide ((HO3.out.below hbd).alloc (.cells #[.int .i64 z] 3))
             have HR4 := hide (Ints.newRow2 wd 3 [z] rfl)
             have HZ := hide (show w2.heap.size ≤ (wd.alloc (.cells #[.int .i64 z] 3)).heap.size by have := HBD.out.size; simp; omega)
             clear z0 hba y0 y1 ybl hwd hbd
             go_wp2_with (at_builtin; refine append_ints rfl _ _ rfl w2.heap.size _ fl rfl HO4.out (wd.heap.size + 1) (some ⟨wd.heap.size, 0, none⟩) _ [z] rfl HR4.out (by simp; omega) HZ.out ?_; intro v5 w5 ho5 hg5 _; have ho5 := hide ho5; have hg5 := hide hg5)
             have hb5 : Below w2.heap.size w2 w5 := (HBD.out.alloc HBD.out.size (.cells #[.int .i64 z] 3)).grown hg5.out HZ.out (fun g hg => (HO4.out.lt g hg).1)
             go_roundw
             case rel => exact ⟨n + 1, HNL.out, by go_num, hide ⟨by rw [HFX.out, HFY.out]; exact ho5.out, hb5⟩⟩
             case measure => have := HNL.out; simp [intOf]; omega
         · obtain rfl : n = dl.length := by omega
           obtain ⟨dt, hdt⟩ : ∃ dt, dt = (dl.take dl.length).filter (fun d : Int => decide (d ≠ x.mach)) := ⟨_, rfl⟩
           have hdt0 : dt.length ≤ k := by
            rw [hdt, List.take_length]
            have := List.length_filter_le (fun d : Int => decide (d ≠ x.mach)) dl
            omega
           have hdm : ∀ y, y ∈ dt ↔ y ∈ dl ∧ y ≠ x.mach := by intro y; rw [hdt, List.take_length]; simp
           rw [← hdt] at HO3
           clear hdt
           obtain ⟨At, cd, rfl, -, hit⟩ := HO3.out.form
           have HDM := hide hdm
           have HDI := hide hit
           have HS3 := hide (HS2.out.grow HB3.out)
           clear hdm hit HO2 HI2
           have HO6 := hide (HO3.out.alloc (.cells #[.int .i64 x.mach] 3))
           have HR6 := hide (Ints.newRow2 wr 3 [x.mach] rfl)
           have HZ6 := hide (show w2.heap.size ≤ (wr.alloc (.cells #[.int .i64 x.mach] 3)).heap.size by have := HB3.out.size; simp; omega)
           have hdl6 : dt.length + 1 ≤ 1000 := by omega
           go_wp2_with (first
            | (at_builtin
               refine append_ints rfl _ _ rfl w2.heap.size _ dt rfl HO6.out (wr.heap.size + 1) (some ⟨wr.heap.size, 0, none⟩) _ [x.mach] rfl HR6.out (by simp; omega) HZ6.out ?_
               intro v5 wt ho5 hg5 _
               have hb5 : Below w2.heap.size w2 wt := (HB3.out.alloc HB3.out.size (.cells #[.int .i64 x.mach] 3)).grown hg5 HZ6.out (fun g hg => (HO6.out.lt g hg).1)
               obtain ⟨dt, hde⟩ : ∃ d', d' = dt ++ [x.mach] := ⟨_, rfl⟩
               rw [← hde] at ho5
               obtain ⟨At, cd, rfl, -, hit⟩ := ho5.form
               have HMt := hide (show ∀ y, y ∈ dt ↔ y ∈ dnTo l (k + 1) by intro y; rw [HDn.out, insD_mem, hde, List.mem_append, HDM.out, HMEM.out]; by_cases e : y = x.mach <;> simp [e])
               have hdt : dt.length ≤ k + 1 := by rw [hde]; simp; omega
               have HSt := hide (HS2.out.grow hb5)
               have HDt := hide hit
               have HOt := hide (own_lowerI ho5 HBW.out)
               clear hde hit ho5 hb5 hg5 y0 y1 ybl
               obtain ⟨Ap, cp, hpb, hpt⟩ := HSt.out.pl
               have p0 := hpb.cell 0
               have p0l := hpb.lt
               simp only [List.getElem?_toArray, List.getElem?_cons_zero] at p0
               have HMA := hide (machines_ref Ap cp q ((a : Int) + 1) 0 wt (hpt.below (Below.refl _ _)).pr (by have := HQR.out.1; omega) (by have := HQR.out.unitsP ((a : Int) + 1); omega))
               have HUL := hide (show (machinesP q ((a : Int) + 1) 0).length ≤ 800 by
                have h1 := HQR.out.unitsP ((a : Int) + 1)
                have h2 : (machinesP q ((a : Int) + 1) 0).length ≤ (unitsP q ((a : Int) + 1)).length := by simp only [machinesP, List.length_map]; exact List.length_filter_le _ _
                omega)
               obtain ⟨ons, hons⟩ : ∃ ons, ons = machinesP q ((a : Int) + 1) 0 := ⟨_, rfl⟩
               have HON := hide hons
               rw [← hons] at HMA HUL
               clear hpb hpt hons)
            | (go_at_call 22; refine HMA.out.mono ?_; rintro e w6 ⟨v6, rfl, ho6, hb6⟩
               obtain ⟨Ao, co, rfl, -, hi6⟩ := ho6.form
               have HI6 := hide hi6
               have HS6 := hide (HSt.out.grow hb6)
               have HD6 := hide (show Ints w6 w6.heap.size At dt from (HDt.out.below hb6).more hb6.size)
               have HO6 := hide (HOt.out.below hb6)
               have hul := HUL.out
               clear hi6 ho6 hb6 p0 p0l))
           go_loop [15, 16] (fun u i => ∃ n : Nat, n ≤ ons.length ∧ i = .int .i64 n ∧ u = .int .i64 (upsOf (ons.take n) dt : Nat)) (fun _ i => ons.length - (intOf i).toNat)
           case atStart => exact ⟨0, Nat.zero_le _, rfl, by simp [upsOf]⟩
           case round =>
            obtain ⟨n, hn, rfl, rfl⟩ := hrel
            by_cases hnl : n < ons.length
            · obtain ⟨z, hz⟩ : ∃ z, z = ons[n] := ⟨_, rfl⟩
              obtain ⟨ba, oa, hAa, hba, z0⟩ := int_at HI6.out hnl
              subst hAa
              rw [← hz] at z0
              have HUS := hide (upsOf_succ ons dt hnl)
              rw [← hz] at HUS
              have HUB := hide (upsOf_le (ons.take n) dt)
              obtain ⟨u, hu⟩ : ∃ u, u = upsOf (ons.take n) dt := ⟨_, rfl⟩
              rw [← hu] at HUS HUB ⊢
              have hub : u ≤ n := by have := HUB.out; rw [List.length_take] at this; omega
              have hwu : IntKind.i64.wrap ((u : Int) + 1) = (u : Int) + 1 := by rw [IntKind.wrap_i64]; omega
              have HHI := hide (hasInt_ref At cd dt z w6 (by omega) HD6.out)
              have hnI : (n : Int) < (ons.length : Int) := by omega
              clear hz hu
              cases hm : decide (z ∈ dt)
              · rw [hm] at HHI
                have HUZ := hide (show upsOf (ons.take (n + 1)) dt = u + 1 by rw [HUS.out, if_neg (by simpa using hm)])
                clear hm
                go_wp2_with (go_at_call 58; refine HHI.out.mono ?_; rintro e w7 ⟨rfl, rfl⟩)
                go_round
                case rel => exact ⟨n + 1, by omega, by go_num, by rw [HUZ.out]; rfl⟩
                case measure => simp [intOf]; omega
              · rw [hm] at HHI
                have HUZ := hide (show upsOf (ons.take (n + 1)) dt = u by rw [HUS.out, if_pos (by simpa using hm)]; rfl)
                clear hm
                go_wp2_with (go_at_call 58; refine HHI.out.mono ?_; rintro e w7 ⟨rfl, rfl⟩)
                go_round
                case rel => exact ⟨n + 1, by omega, by go_num, by rw [HUZ.out]⟩
                case measure => simp [intOf]; omega
            · obtain rfl : n = ons.length := by omega
              obtain ⟨u, hu⟩ : ∃ u, u = upsOf (ons.take ons.length) dt := ⟨_, rfl⟩
              have HUU := hide (show u = upsOf ons (dnTo l (k + 1)) by rw [hu, List.take_length]; exact ups_congr HMt.out)
              have hub : u ≤ ons.length := by rw [hu, List.take_length]; exact upsOf_le _ _
              rw [← hu]
              clear hu
              have hwu : IntKind.i64.wrap (2 * (u : Int)) = 2 * (u : Int) := by rw [IntKind.wrap_i64]; omega
              have hwr : IntKind.i64.wrap (R + 1) = R + 1 := by rw [IntKind.wrap_i64]; omega
              have hwk : IntKind.i64.wrap ((k : Int) + 1) = (k : Int) + 1 := by rw [IntKind.wrap_i64]; omega
              rcases hB (decide ((ons.length : Int) < 2 * (u : Int))) with hd | hd
              · have HRS := hide (show runTo m l ((a : Int) + 1) (k + 1) = R + 1 by rw [runTo, ← HRR.out, ← HQ.out, ← HON.out]; unfold runStep; rw [← HUU.out, if_neg (by simpa using hd)])
                go_wp2_with fail
                go_roundw
                case rel => exact ⟨k + 1, by have := HLT.out; omega, by go_num, by rw [mostTo, HRS.out, ← HMM.out], by rw [HRS.out], hide ⟨by rw [← HQ.out]; exact HS6.out, dt, HO6.out, hdt, HMt.out⟩⟩
                case measure => have := HLT.out; simp [intOf]; omega
              · have HRS := hide (show runTo m l ((a : Int) + 1) (k + 1) = 0 by rw [runTo, ← HRR.out, ← HQ.out, ← HON.out]; unfold runStep; rw [← HUU.out, if_pos (by simpa using hd)])
                go_wp2_with fail
                go_roundw
                case rel => exact ⟨k + 1, by have := HLT.out; omega, by go_num, by rw [mostTo, HRS.out, ← HMM.out], by rw [HRS.out], hide ⟨by rw [← HQ.out]; exact HS6.out, dt, HO6.out, hdt, HMt.out⟩⟩
                case measure => have := HLT.out; simp [intOf]; omega
    · rw [hcb] at HC
      have HPA := hide (show placeAt m l (k + 1) = afterP m (placeAt m l k) x by rw [placeAt_succ m l hlt, stepP, HX.out, if_pos hcb])
      have hx67 : x.kind ≠ 6 ∧ x.kind ≠ 7 := by
       constructor <;> intro e <;> (unfold countsB at hcb; rw [if_neg (by omega), if_neg (by omega)] at hcb; cases hcb)
      have g6 : (x.kind == 6) = false := by simpa using hx67.1
      have g7 : (x.kind == 7) = false := by simpa using hx67.2
      clear hx67
      go_wp2_with fail
      refine wp_region_held_drew (S := fun W => Below wr.heap.size wr W) (by kernel_rfl) (Below.refl _ wr).drew (fun hHeld => ?_)
      refine wpAnyH_take (i := 0) (oi := _) (v := _) rfl (by kernel_rfl) (by kernel_rfl) (by kernel_rfl) (fun _ _ _ h => h) (yieldsIf_load_mid (by rfl) 29 _ rfl w.heap.size 0 rfl [.slice h.s m.sT.length h.sc, .slice h.f m.fT.length h.fc, .slice h.r m.rT.length h.rc, .slice h.m m.mT.length h.mc, .slice h.l m.lT.length h.lc, .slice h.i m.iT.length h.ic, .int .i64 m.dT, .int .i64 m.oT, .int .i64 m.vT, .int .i64 m.aT, .slice h.u m.uT.length h.uc] _ (fun W hW => HLM.out W hW) Tryz.underlying29 rfl sizeModel) hHeld ?_
      simp only [Act.put, List.getElem_toArray, List.getElem_cons_zero, List.setIfInBounds_toArray, List.set_cons_zero, List.set_cons_succ]
      refine wpAnyH_take (i := 1) (oi := _) (v := ?_) rfl (by kernel_rfl) (by kernel_rfl) (by kernel_rfl) (fun _ _ _ h => h) (Or.inl ⟨by rfl, ?_⟩) hHeld ?_
      rotate_left
      · intro W hW; go_simp; with_reducible rfl
      simp only [Act.put, List.getElem_toArray, List.getElem_cons_succ, List.getElem_cons_zero, List.setIfInBounds_toArray, List.set_cons_zero, List.set_cons_succ]
      refine wpAnyH_take (i := 2) (oi := _) (v := ?_) rfl (by kernel_rfl) (by kernel_rfl) (by kernel_rfl) (fun _ _ _ h => h) (Or.inl ⟨by rfl, ?_⟩) hHeld ?_
      rotate_left
      · intro W hW; go_simp; with_reducible rfl
      simp only [Act.put, List.getElem_toArray, List.getElem_cons_succ, List.getElem_cons_zero, List.setIfInBounds_toArray, List.set_cons_zero, List.set_cons_succ]
      refine wpAnyH_take (i := 3) (oi := _) (v := ?_) rfl (by kernel_rfl) (by kernel_rfl) (by kernel_rfl) (fun _ _ _ h => h) (Or.inl ⟨by rfl, ?_⟩) hHeld ?_
      rotate_left
      · intro W hW; go_simp; with_reducible rfl
      simp only [Act.put, List.getElem_toArray, List.getElem_cons_succ, List.getElem_cons_zero, List.setIfInBounds_toArray, List.set_cons_zero, List.set_cons_succ]
      refine wpAnyH_take (i := 4) (oi := _) (v := _) rfl (by kernel_rfl) (by kernel_rfl) (by kernel_rfl) (fun _ _ _ h => h) (yieldsIf_load_mid (by rfl) 54 _ rfl b (off + k * 22) rfl [.int .i64 x.kind, .int .i64 x.mach, .int .i64 j.v2, .int .i64 j.v3, .int .i64 x.group, .int .i64 j.v5, .string j.v6, .int .i64 j.v7, .int .i64 j.v8, .int .i64 j.v9, .bool j.v10, .int .i64 j.v11, .slice j.A x.old.length j.c, .slice j.A13 j.n13 j.c13, .slice j.A14 j.n14 j.c14, .int .i64 x.hitem, .int .i64 j.v16, .int .i64 x.hstate, .int .i64 j.v18, .int .i64 j.v19, .bool x.gone, .int .i64 x.outcome] _ (fun W hW => HCR.out W hW) Tryz.underlying54 rfl sizeEv) hHeld ?_
      simp only [Act.put, List.getElem_toArray, List.getElem_cons_succ, List.getElem_cons_zero, List.setIfInBounds_toArray, List.set_cons_zero, List.set_cons_succ]
      refine wpAnyH_ready (rs := [5]) (by kernel_rfl) (by simp) ?_
      refine AllReadyH.cons rfl (fun K hK => ?_) AllReadyH.nil
      go_simp
      go_at_call 21
      refine HC.out.mono ?_
      rintro e w2 ⟨rfl, hb2⟩
      have hb2' : Below wr.heap.size wr w2 := ⟨hb2.os, hb2.tape, hb2.output, hb2.size, hb2.block⟩
      have HB2 := hide hb2'
      clear hb2
      dsimp only
      refine hK.out _ _ hb2' (fun hHeld => ?_)
      refine wpAnyH_done (by kernel_rfl) ?_ _
      clear hK hb2'
      have HS2 := hide (hS.out.grow HB2.out)
      have HO2 := hide (HO.out.below HB2.out)
      have HI2 := hide (show Ints w2 w2.heap.size Ad dl from (HID.out.below HB2.out).more HB2.out.size)
      have x0 : w2.cell? ⟨b, off + k * 22, none⟩ = some (.int .i64 x.kind) := HCR.out w2 HB2.out 0 _ rfl
      have hbl2 : b < w2.heap.size := Nat.lt_of_lt_of_le hb (HS2.out.b.size)
      obtain ⟨A8, c8, hpb, hp8⟩ := HS2.out.pl
      have HPB := hide hpb
      have p0 := hpb.cell 0
      have p0l := hpb.lt
      simp only [List.getElem?_toArray, List.getElem?_cons_zero] at p0
      have p0d : w2.drew.cell? ⟨w1.heap.size, 0, none⟩ = some (.slice A8 (placeAt m l k).length c8) := p0
      have HA := hide (after_ref h m x j A8 c8 (placeAt m l k) w2.drew ((HC0.out.d.grow HS2.out.b).grow (Below.refl _ w2).drew) HC0.out.f.cm HC0.out.il2 (by omega) ((HJ.out.below HB2.out).more HB2.out.size) (hp8.below (Below.refl _ w2).drew) ((HR.out k).mono (show 100 + 11 * k ≤ 800 by have := HLT.out; omega)) hcb)
      clear hp8 hpb HCR
      go_wp2_with fail
      refine wp_region_held_drew (S := fun W => Below w.heap.size w W ∧ Blk W w.heap.size 29 #[.slice h.s m.sT.length h.sc, .slice h.f m.fT.length h.fc, .slice h.r m.rT.length h.rc, .slice h.m m.mT.length h.mc, .slice h.l m.lT.length h.lc, .slice h.i m.iT.length h.ic, .int .i64 m.dT, .int .i64 m.oT, .int .i64 m.vT, .int .i64 m.aT, .slice h.u m.uT.length h.uc]) (by kernel_rfl) (⟨HS2.out.b.drew, HS2.out.mo⟩) (fun hHeld => ?_)
      refine wpAnyH_take (i := 0) (oi := _) (v := _) rfl (by kernel_rfl) (by kernel_rfl) (by kernel_rfl) (fun _ _ _ h => h) (yieldsIf_load_mid (by rfl) 29 _ rfl w.heap.size 0 rfl [.slice h.s m.sT.length h.sc, .slice h.f m.fT.length h.fc, .slice h.r m.rT.length h.rc, .slice h.m m.mT.length h.mc, .slice h.l m.lT.length h.lc, .slice h.i m.iT.length h.ic, .int .i64 m.dT, .int .i64 m.oT, .int .i64 m.vT, .int .i64 m.aT, .slice h.u m.uT.length h.uc] _ (fun W hW => model_range hW.2) Tryz.underlying29 rfl sizeModel) hHeld ?_
      simp only [Act.put, List.getElem_toArray, List.getElem_cons_zero, List.setIfInBounds_toArray, List.set_cons_zero, List.set_cons_succ]
      refine wpAnyH_take (i := 2) (oi := _) (v := ?_) rfl (by kernel_rfl) (by kernel_rfl) (by kernel_rfl) (fun _ _ _ h => h) (Or.inl ⟨by rfl, ?_⟩) hHeld ?_
      rotate_left
      · intro W hW; go_simp; with_reducible rfl
      simp only [Act.put, List.getElem_toArray, List.getElem_cons_succ, List.getElem_cons_zero, List.setIfInBounds_toArray, List.set_cons_zero, List.set_cons_succ]
      refine wpAnyH_take (i := 3) (oi := _) (v := ?_) rfl (by kernel_rfl) (by kernel_rfl) (by kernel_rfl) (fun _ _ _ h => h) (Or.inl ⟨by rfl, ?_⟩) hHeld ?_
      rotate_left
      · intro W hW; go_simp; with_reducible rfl
      simp only [Act.put, List.getElem_toArray, List.getElem_cons_succ, List.getElem_cons_zero, List.setIfInBounds_toArray, List.set_cons_zero, List.set_cons_succ]
      refine wpAnyH_take (i := 4) (oi := _) (v := ?_) rfl (by kernel_rfl) (by kernel_rfl) (by kernel_rfl) (fun _ _ _ h => h) (Or.inl ⟨by rfl, ?_⟩) hHeld ?_
      rotate_left
      · intro W hW; go_simp; with_reducible rfl
      simp only [Act.put, List.getElem_toArray, List.getElem_cons_succ, List.getElem_cons_zero, List.setIfInBounds_toArray, List.set_cons_zero, List.set_cons_succ]
      refine wpAnyH_take (i := 5) (oi := _) (v := _) rfl (by kernel_rfl) (by kernel_rfl) (by kernel_rfl) (fun _ _ _ h => h) (yieldsIf_load_mid (by rfl) 54 _ rfl b (off + k * 22) rfl [.int .i64 x.kind, .int .i64 x.mach, .int .i64 j.v2, .int .i64 j.v3, .int .i64 x.group, .int .i64 j.v5, .string j.v6, .int .i64 j.v7, .int .i64 j.v8, .int .i64 j.v9, .bool j.v10, .int .i64 j.v11, .slice j.A x.old.length j.c, .slice j.A13 j.n13 j.c13, .slice j.A14 j.n14 j.c14, .int .i64 x.hitem, .int .i64 j.v16, .int .i64 x.hstate, .int .i64 j.v18, .int .i64 j.v19, .bool x.gone, .int .i64 x.outcome] _ (fun W hW => HCW.out W hW.1) Tryz.underlying54 rfl sizeEv) hHeld ?_
      simp only [Act.put, List.getElem_toArray, List.getElem_cons_succ, List.getElem_cons_zero, List.setIfInBounds_toArray, List.set_cons_zero, List.set_cons_succ]
      refine wpAnyH_ready (rs := [1]) (by kernel_rfl) (by simp) ?_
      refine AllReadyH.cons rfl (fun K hK => ?_) AllReadyH.nil
      go_simp
      refine hK.out _ _ hHeld (fun hHeld => ?_)
      clear hK K
      refine wpAnyH_ready (rs := [6]) (by kernel_rfl) (by simp) ?_
      refine AllReadyH.cons rfl (fun K hK => ?_) AllReadyH.nil
      go_simp
      go_at_call 40
      refine HA.out.mono ?_
      rintro e w4 ⟨A4, c4, rfl, hp4, hb4⟩
      have hb4' : Below w2.heap.size w2 w4 := ⟨hb4.os, hb4.tape, hb4.output, hb4.size, hb4.block⟩
      have HB4 := hide hb4'
      have HP4 := hide hp4
      have p4 := HPB.out.below hb4' HPB.out.lt
      have pf := p4.frozen 0
      have pc := p4.cell 0
      simp only [List.getElem?_toArray, List.getElem?_cons_zero] at pc
      have pl := p4.lt
      dsimp only
      refine hK.out _ _ (⟨(HS2.out.grow hb4').b, (HS2.out.grow hb4').mo⟩) (fun hHeld => ?_)
      clear hK hHeld K hb4 hp4
      refine wpAnyH_ready (rs := [7]) (by kernel_rfl) (by simp) ?_
      refine AllReadyH.cons rfl (fun K hK => ?_) AllReadyH.nil
      go_simp
      have hS5 := (HS2.out.grow HB4.out).turned HP4.out HW1.out
      have HO5 := hide ((HO2.out.below HB4.out).turned (u := .slice A4 (afterP m (placeAt m l k) x).length c4) p4)
      have hx5 : (w4.setCell ⟨w1.heap.size, 0, none⟩ (.slice A4 (afterP m (placeAt m l k) x).length c4)).cell? ⟨b, off + k * 22, none⟩ = some (.int .i64 x.kind) := by
       rw [World.cell?_setCell_far _ _ _ _ (by have := HW1.out; show w1.heap.size ≠ b; omega)]
       exact (HB4.out.cell hbl2).trans x0
      refine hK.out _ _ ⟨hS5.b, hS5.mo⟩ (fun hHeld => ?_)
      refine wpAnyH_done (by kernel_rfl) ?_ _
      clear hK hHeld
      have hD := hide (show dnTo l (k + 1) = dnTo l k by rw [dnTo_succ hlt, HX.out, dnStep]; simp at g6 g7; simp [g6, g7])
      rw [← HPA.out] at hS5 HO5 hx5 ⊢
      obtain ⟨q, hq⟩ : ∃ q, q = placeAt m l (k + 1) := ⟨_, rfl⟩
      have HQR := hide (show Room (100 + 11 * (k + 1)) q by rw [hq]; exact HR.out (k + 1))
      have HQ := hide hq
      rw [← hq] at hS5 HO5 hx5 ⊢
      clear hq pf pl pc p4 p0 p0d p0l a0 a1 a2 a3 a4 a5 a6 a7 a8 a9 a10 al hbl hbl2 x0
      obtain ⟨wt, hwt⟩ : ∃ wt, wt = w4.setCell ⟨w1.heap.size, 0, none⟩ (.slice A4 q.length c4) := ⟨_, rfl⟩
      rw [← hwt] at hS5 HO5 hx5 ⊢
      have hbt : b < wt.heap.size := Nat.lt_of_lt_of_le hb hS5.b.size
      have HSt := hide hS5
      have HOt := HO5
      obtain ⟨dt, rfl⟩ : ∃ dt, dt = dl := ⟨_, rfl⟩
      obtain ⟨At, rfl⟩ : ∃ At, At = Ad := ⟨_, rfl⟩
      have HDt := hide (show Ints wt wt.heap.size At dt from by
       obtain ⟨A9, c9, e9, _, h9⟩ := HOt.out.form
       obtain ⟨rfl, _, _⟩ := Value.slice.inj e9
       exact h9)
      have HMt := hide (show ∀ y, y ∈ dt ↔ y ∈ dnTo l (k + 1) by rw [hD.out]; exact HMEM.out)
      have hdt : dt.length ≤ k + 1 := by omega
      have hB : ∀ b : Bool, b = false ∨ b = true := fun b => by cases b <;> simp
      clear HS2 HI2 HO2 HMEM hD hS5 HO5 hwt HB4 HP4 HPB HA HC HLM HCW HJ HB2 hS HO HID HPA
      obtain ⟨Ap, cp, hpb, hpt⟩ := HSt.out.pl
      have p0 := hpb.cell 0
      have p0l := hpb.lt
      simp only [List.getElem?_toArray, List.getElem?_cons_zero] at p0
      have HMA := hide (machines_ref Ap cp q ((a : Int) + 1) 0 wt (hpt.below (Below.refl _ _)).pr (by have := HQR.out.1; omega) (by have := HQR.out.unitsP ((a : Int) + 1); omega))
      have HUL := hide (show (machinesP q ((a : Int) + 1) 0).length ≤ 800 by
       have h1 := HQR.out.unitsP ((a : Int) + 1)
       have h2 : (machinesP q ((a : Int) + 1) 0).length ≤ (unitsP q ((a : Int) + 1)).length := by simp only [machinesP, List.length_map]; exact List.length_filter_le _ _
       omega)
      obtain ⟨ons, hons⟩ : ∃ ons, ons = machinesP q ((a : Int) + 1) 0 := ⟨_, rfl⟩
      have HON := hide hons
      rw [← hons] at HMA HUL
      clear hpb hpt hons
      go_wp2_with (go_at_call 22; refine HMA.out.mono ?_; rintro e w6 ⟨v6, rfl, ho6, hb6⟩
                   obtain ⟨Ao, co, rfl, -, hi6⟩ := ho6.form
                   have HI6 := hide hi6
                   have HS6 := hide (HSt.out.grow hb6)
                   have HD6 := hide (show Ints w6 w6.heap.size At dt from (HDt.out.below hb6).more hb6.size)
                   have HO6 := hide (HOt.out.below hb6)
                   have hul := HUL.out
                   clear hi6 ho6 hb6 p0 p0l)
      go_loop [15, 16] (fun u i => ∃ n : Nat, n ≤ ons.length ∧ i = .int .i64 n ∧ u = .int .i64 (upsOf (ons.take n) dt : Nat)) (fun _ i => ons.length - (intOf i).toNat)
      case atStart => exact ⟨0, Nat.zero_le _, rfl, by simp [upsOf]⟩
      case round =>
       obtain ⟨n, hn, rfl, rfl⟩ := hrel
       by_cases hnl : n < ons.length
       · obtain ⟨z, hz⟩ : ∃ z, z = ons[n] := ⟨_, rfl⟩
         obtain ⟨ba, oa, hAa, hba, z0⟩ := int_at HI6.out hnl
         subst hAa
         rw [← hz] at z0
         have HUS := hide (upsOf_succ ons dt hnl)
         rw [← hz] at HUS
         have HUB := hide (upsOf_le (ons.take n) dt)
         obtain ⟨u, hu⟩ : ∃ u, u = upsOf (ons.take n) dt := ⟨_, rfl⟩
         rw [← hu] at HUS HUB ⊢
         have hub : u ≤ n := by have := HUB.out; rw [List.length_take] at this; omega
         have hwu : IntKind.i64.wrap ((u : Int) + 1) = (u : Int) + 1 := by rw [IntKind.wrap_i64]; omega
         have HHI := hide (hasInt_ref At cd dt z w6 (by omega) HD6.out)
         have hnI : (n : Int) < (ons.length : Int) := by omega
         clear hz hu
         cases hm : decide (z ∈ dt)
         · rw [hm] at HHI
           have HUZ := hide (show upsOf (ons.take (n + 1)) dt = u + 1 by rw [HUS.out, if_neg (by simpa using hm)])
           clear hm
           go_wp2_with (go_at_call 58; refine HHI.out.mono ?_; rintro e w7 ⟨rfl, rfl⟩)
           go_round
           case rel => exact ⟨n + 1, by omega, by go_num, by rw [HUZ.out]; rfl⟩
           case measure => simp [intOf]; omega
         · rw [hm] at HHI
           have HUZ := hide (show upsOf (ons.take (n + 1)) dt = u by rw [HUS.out, if_pos (by simpa using hm)]; rfl)
           clear hm
           go_wp2_with (go_at_call 58; refine HHI.out.mono ?_; rintro e w7 ⟨rfl, rfl⟩)
           go_round
           case rel => exact ⟨n + 1, by omega, by go_num, by rw [HUZ.out]⟩
           case measure => simp [intOf]; omega
       · obtain rfl : n = ons.length := by omega
         obtain ⟨u, hu⟩ : ∃ u, u = upsOf (ons.take ons.length) dt := ⟨_, rfl⟩
         have HUU := hide (show u = upsOf ons (dnTo l (k + 1)) by rw [hu, List.take_length]; exact ups_congr HMt.out)
         have hub : u ≤ ons.length := by rw [hu, List.take_length]; exact upsOf_le _ _
         rw [← hu]
         clear hu
         have hwu : IntKind.i64.wrap (2 * (u : Int)) = 2 * (u : Int) := by rw [IntKind.wrap_i64]; omega
         have hwr : IntKind.i64.wrap (R + 1) = R + 1 := by rw [IntKind.wrap_i64]; omega
         have hwk : IntKind.i64.wrap ((k : Int) + 1) = (k : Int) + 1 := by rw [IntKind.wrap_i64]; omega
         rcases hB (decide ((ons.length : Int) < 2 * (u : Int))) with hd | hd
         · have HRS := hide (show runTo m l ((a : Int) + 1) (k + 1) = R + 1 by rw [runTo, ← HRR.out, ← HQ.out, ← HON.out]; unfold runStep; rw [← HUU.out, if_neg (by simpa using hd)])
           go_wp2_with fail
           go_roundw
           case rel => exact ⟨k + 1, by have := HLT.out; omega, by go_num, by rw [mostTo, HRS.out, ← HMM.out], by rw [HRS.out], hide ⟨by rw [← HQ.out]; exact HS6.out, dt, HO6.out, hdt, HMt.out⟩⟩
           case measure => have := HLT.out; simp [intOf]; omega
         · have HRS := hide (show runTo m l ((a : Int) + 1) (k + 1) = 0 by rw [runTo, ← HRR.out, ← HQ.out, ← HON.out]; unfold runStep; rw [← HUU.out, if_pos (by simpa using hd)])
           go_wp2_with fail
           go_roundw
           case rel => exact ⟨k + 1, by have := HLT.out; omega, by go_num, by rw [mostTo, HRS.out, ← HMM.out], by rw [HRS.out], hide ⟨by rw [← HQ.out]; exact HS6.out, dt, HO6.out, hdt, HMt.out⟩⟩
           case measure => have := HLT.out; simp [intOf]; omega
  · obtain rfl : k = l.length := by omega
    have HBB := hide hS.out.b
    clear hS
    go_wp2_with fail
    go_ret
    exact ⟨by rw [HV.out, ← HMM.out]; rfl, HBB.out⟩
end Go.Proofs.YtaepcjklimigmaaGreatDoor
