/- The walks of exodusref23.valid, Valid and Duration. Conditions: lengths that fit memory; a valid model. -/
import Derived.Test.YtpggamapmgpjcaaGreatDoorK39
import Derived.Test.YtpggamapmgpjcaaGreatDoorK26

namespace Go.Proofs.YtpggamapmgpjcaaGreatDoor
open Go Go.RowKit Go.Proofs

theorem fitY_bool (m : Mod) (y : ItemM) (f t : Int) : fitY m y f t = bif ((y.kind == 1) && onB y f && (t == 0)) then true else ((bif (y.kind == 1) then (f == 0) else onB y f) && (freeB m y t && (!crossB m y f t || (linkY m y f t != 0)))) := by
  have e1 : decide (y.kind = 1) = (y.kind == 1) := rfl
  have e2 : decide (t = 0) = (t == 0) := rfl
  have e3 : decide (f = 0) = (f == 0) := rfl
  have e4 : decide (linkY m y f t ≠ 0) = (linkY m y f t != 0) := by simp [bne]; rfl
  rw [fitY_ref, e1, e2, e3, e4]
  have e5 : (if y.kind = 1 then (f == 0) else onB y f) = bif (y.kind == 1) then (f == 0) else onB y f := by
    by_cases hk : y.kind = 1
    · simp [hk]
    · have : (y.kind == 1) = false := by simpa using hk
      rw [if_neg hk, this]; rfl
  rw [e5]
  cases ((y.kind == 1) && onB y f && (t == 0)) <;> rfl
set_option maxRecDepth 100000 in
set_option maxHeartbeats 1000000 in
theorem validR_no (h : MH) (m : Mod) (i f t : Int) (w : World) (he : exI i m.items.length = false) :
    Calls Tryz.prog 62 #[.agg #[.slice h.s m.sites.length h.sc, .slice h.f m.feeds.length h.fc, .slice h.r m.racks.length h.rc, .slice h.m m.machs.length h.mc, .slice h.l m.links.length h.lc, .slice h.i m.items.length h.ic, .int .i64 m.dark, .int .i64 m.slots, .int .i64 m.reserve, .int .i64 m.failures, .slice h.u m.rules.length h.uc], .agg #[.int .i64 i, .int .i64 f, .int .i64 t]] w (AnsB w (.bool false)) := by
  have hb1 := (Below.refl w.heap.size w).alloc (Nat.le_refl _) (.cells #[.slice h.s m.sites.length h.sc, .slice h.f m.feeds.length h.fc, .slice h.r m.racks.length h.rc, .slice h.m m.machs.length h.mc, .slice h.l m.links.length h.lc, .slice h.i m.items.length h.ic, .int .i64 m.dark, .int .i64 m.slots, .int .i64 m.reserve, .int .i64 m.failures, .slice h.u m.rules.length h.uc] 29)
  have HB := hide (hb1.alloc hb1.size (.cells #[.int .i64 i, .int .i64 f, .int .i64 t] 51))
  have HE := hide (fun W => exists_ref i m.items.length W)
  rw [he] at HE
  clear hb1 he
  go_enter Tryz.func62, Tryz.ntmps62
  go_wp2_with (go_at_call 108; refine (HE.out _).mono ?_; rintro e w2 ⟨rfl, rfl⟩)
  go_ret
  exact ⟨rfl, HB.out⟩
set_option maxRecDepth 100000 in
set_option maxHeartbeats 16000000 in
theorem validR_yes (h : MH) (m : Mod) (a : Nat) (f t : Int) (w : World) (d : MD w w.heap.size h m) (hv : validM m = true) (ha : a < m.items.length) :
    Calls Tryz.prog 62 #[.agg #[.slice h.s m.sites.length h.sc, .slice h.f m.feeds.length h.fc, .slice h.r m.racks.length h.rc, .slice h.m m.machs.length h.mc, .slice h.l m.links.length h.lc, .slice h.i m.items.length h.ic, .int .i64 m.dark, .int .i64 m.slots, .int .i64 m.reserve, .int .i64 m.failures, .slice h.u m.rules.length h.uc], .agg #[.int .i64 ((a : Int) + 1), .int .i64 f, .int .i64 t]] w (AnsB w (.bool (fitY m m.items[a] f t))) := by
  obtain ⟨s1, _⟩ := valid_sizes hv
  have hil := d.il
  have HCR := hide (fun W (hW : Below w.heap.size w W) => crossesR h m a f t W (d.grow hW) hv ha)
  have HLI := hide (fun W (hW : Below w.heap.size w W) => rlinkR h m a f t W (d.grow hW) hv ha)
  obtain ⟨x, hx⟩ : ∃ x, x = m.items[a] := ⟨_, rfl⟩
  have hxm : x ∈ m.items := by rw [hx]; exact List.getElem_mem ha
  obtain ⟨hk, hon, _⟩ := valid_itm hv hxm
  obtain ⟨bi, oi, A, c, hA, hb, x0, x1, x2, x3, x4, x5, x6, _, hcl, hcm, gI⟩ := d.dI.item ha
  rw [← hx] at x0 x1 x2 x3 x4 x5 x6 hcl gI HCR HLI ⊢
  have hxl : x.on.length ≤ 9223372036854775807 := by omega
  have K : ItC w h m x A := ⟨d, gI, hon, hxl⟩
  have hs := F3.start w #[.slice h.s m.sites.length h.sc, .slice h.f m.feeds.length h.fc, .slice h.r m.racks.length h.rc, .slice h.m m.machs.length h.mc, .slice h.l m.links.length h.lc, .slice h.i m.items.length h.ic, .int .i64 m.dark, .int .i64 m.slots, .int .i64 m.reserve, .int .i64 m.failures, .slice h.u m.rules.length h.uc] #[.int .i64 ((a : Int) + 1), .int .i64 f, .int .i64 t] #[.string x.name, .int .i64 x.kind, .int .i64 x.count, .int .i64 x.load, .int .i64 x.size, .int .i64 x.share, .slice A x.on.length c]
  have HS := hide hs
  have haI : (a : Int) < (m.items.length : Int) := by omega
  have hw1 : IntKind.i64.wrap ((a : Int) + 1 - 1) = (a : Int) := by rw [IntWalk.i64_in _ (by omega)]; omega
  have HE := hide (fun W => exists_ref ((a : Int) + 1) m.items.length W)
  rw [show exI ((a : Int) + 1) m.items.length = true by simp only [exI, Bool.and_eq_true, decide_eq_true_eq]; omega] at HE
  have HI := hide (fun W (hW : Below w.heap.size w W) => hasInt_ref A c x.on f W hxl (gI.grow hW))
  rw [show decide (f ∈ x.on) = onB x f from rfl] at HI
  have HF := hide (fun W (hW : Below w.heap.size w W) => freeR h m x A c t W (K.grow hW))
  have HV := hide (fitY_bool m x f t)
  obtain ⟨o, ho⟩ : ∃ o, o = onB x f := ⟨_, rfl⟩
  obtain ⟨fr, hfr⟩ : ∃ o, o = freeB m x t := ⟨_, rfl⟩
  obtain ⟨cr, hcr⟩ : ∃ o, o = crossB m x f t := ⟨_, rfl⟩
  obtain ⟨li, hli⟩ : ∃ o, o = linkY m x f t := ⟨_, rfl⟩
  rw [← ho, ← hfr, ← hcr, ← hli] at HV
  rw [← ho] at HI
  rw [← hfr] at HF
  rw [← hcr] at HCR
  rw [← hli] at HLI
  rw [hA] at HS HF HCR HLI
  have HA := hide hA
  clear hs ho hfr hcr hli hk hon K gI hv d hcl hcm hx hxm hxl hA
  rw [HA.out]
  cases g1 : (x.kind == 1)
  · cases o
    · go_enter Tryz.func62, Tryz.ntmps62
      go_wp2_with (first
        | (go_at_call 108; refine (HE.out _).mono ?_; rintro e w2 ⟨rfl, rfl⟩)
        | (go_at_call 110; refine (HI.out _ HS.out.b).mono ?_; rintro e w3 ⟨rfl, rfl⟩)
        | (go_at_call 111; refine (HF.out _ HS.out.b).mono ?_; rintro e w4 ⟨rfl, hb4⟩
           have hs4 := HS.out.grow hb4
           obtain ⟨⟨a0, a1, a2, a3, a4, a5, a6, a7, a8, a9, a10⟩, ⟨b0, b1, b2⟩, e0, e1, e2, e3, e4, e5, e6⟩ := F3.cellsI hs4
           have lt1 := hs4.m.lt
           have lt2 := hs4.v.lt
           have lt3 := hs4.x.lt
           have HS4 := hide hs4
           clear hb4 hs4)
        | (go_at_call 112; refine (HCR.out _ HS4.out.b).mono ?_; rintro e w5 ⟨rfl, hb5⟩
           have hs5 := HS4.out.grow hb5
           clear a0 a1 a2 a3 a4 a5 a6 a7 a8 a9 a10 b0 b1 b2 e0 e1 e2 e3 e4 e5 e6 lt1 lt2 lt3
           obtain ⟨⟨a0, a1, a2, a3, a4, a5, a6, a7, a8, a9, a10⟩, ⟨b0, b1, b2⟩, e0, e1, e2, e3, e4, e5, e6⟩ := F3.cellsI hs5
           have lt1 := hs5.m.lt
           have lt2 := hs5.v.lt
           have lt3 := hs5.x.lt
           have HS5 := hide hs5
           clear hb5 hs5)
        | (go_at_call 113; refine (HLI.out _ HS5.out.b).mono ?_; rintro e w6 ⟨rfl, hb6⟩; have HS6 := hide (HS5.out.grow hb6); clear hb6))
      go_ret
      exact ⟨ret_congr (by rw [HV.out]; simp [*]), by first | exact HS6.out.b | exact HS5.out.b | exact HS4.out.b | exact HS.out.b⟩
    · cases fr
      · go_enter Tryz.func62, Tryz.ntmps62
        go_wp2_with (first
          | (go_at_call 108; refine (HE.out _).mono ?_; rintro e w2 ⟨rfl, rfl⟩)
          | (go_at_call 110; refine (HI.out _ HS.out.b).mono ?_; rintro e w3 ⟨rfl, rfl⟩)
          | (go_at_call 111; refine (HF.out _ HS.out.b).mono ?_; rintro e w4 ⟨rfl, hb4⟩
             have hs4 := HS.out.grow hb4
             obtain ⟨⟨a0, a1, a2, a3, a4, a5, a6, a7, a8, a9, a10⟩, ⟨b0, b1, b2⟩, e0, e1, e2, e3, e4, e5, e6⟩ := F3.cellsI hs4
             have lt1 := hs4.m.lt
             have lt2 := hs4.v.lt
             have lt3 := hs4.x.lt
             have HS4 := hide hs4
             clear hb4 hs4)
          | (go_at_call 112; refine (HCR.out _ HS4.out.b).mono ?_; rintro e w5 ⟨rfl, hb5⟩
             have hs5 := HS4.out.grow hb5
             clear a0 a1 a2 a3 a4 a5 a6 a7 a8 a9 a10 b0 b1 b2 e0 e1 e2 e3 e4 e5 e6 lt1 lt2 lt3
             obtain ⟨⟨a0, a1, a2, a3, a4, a5, a6, a7, a8, a9, a10⟩, ⟨b0, b1, b2⟩, e0, e1, e2, e3, e4, e5, e6⟩ := F3.cellsI hs5
             have lt1 := hs5.m.lt
             have lt2 := hs5.v.lt
             have lt3 := hs5.x.lt
             have HS5 := hide hs5
             clear hb5 hs5)
          | (go_at_call 113; refine (HLI.out _ HS5.out.b).mono ?_; rintro e w6 ⟨rfl, hb6⟩; have HS6 := hide (HS5.out.grow hb6); clear hb6))
        go_ret
        exact ⟨ret_congr (by rw [HV.out]; simp [*]), by first | exact HS6.out.b | exact HS5.out.b | exact HS4.out.b | exact HS.out.b⟩
      · cases cr
        · go_enter Tryz.func62, Tryz.ntmps62
          go_wp2_with (first
            | (go_at_call 108; refine (HE.out _).mono ?_; rintro e w2 ⟨rfl, rfl⟩)
            | (go_at_call 110; refine (HI.out _ HS.out.b).mono ?_; rintro e w3 ⟨rfl, rfl⟩)
            | (go_at_call 111; refine (HF.out _ HS.out.b).mono ?_; rintro e w4 ⟨rfl, hb4⟩
               have hs4 := HS.out.grow hb4
               obtain ⟨⟨a0, a1, a2, a3, a4, a5, a6, a7, a8, a9, a10⟩, ⟨b0, b1, b2⟩, e0, e1, e2, e3, e4, e5, e6⟩ := F3.cellsI hs4
               have lt1 := hs4.m.lt
               have lt2 := hs4.v.lt
               have lt3 := hs4.x.lt
               have HS4 := hide hs4
               clear hb4 hs4)
            | (go_at_call 112; refine (HCR.out _ HS4.out.b).mono ?_; rintro e w5 ⟨rfl, hb5⟩
               have hs5 := HS4.out.grow hb5
               clear a0 a1 a2 a3 a4 a5 a6 a7 a8 a9 a10 b0 b1 b2 e0 e1 e2 e3 e4 e5 e6 lt1 lt2 lt3
               obtain ⟨⟨a0, a1, a2, a3, a4, a5, a6, a7, a8, a9, a10⟩, ⟨b0, b1, b2⟩, e0, e1, e2, e3, e4, e5, e6⟩ := F3.cellsI hs5
               have lt1 := hs5.m.lt
               have lt2 := hs5.v.lt
               have lt3 := hs5.x.lt
               have HS5 := hide hs5
               clear hb5 hs5)
            | (go_at_call 113; refine (HLI.out _ HS5.out.b).mono ?_; rintro e w6 ⟨rfl, hb6⟩; have HS6 := hide (HS5.out.grow hb6); clear hb6))
          go_ret
          exact ⟨ret_congr (by rw [HV.out]; simp [*]), by first | exact HS6.out.b | exact HS5.out.b | exact HS4.out.b | exact HS.out.b⟩
        · cases g7 : (li != 0)
          all_goals
            go_enter Tryz.func62, Tryz.ntmps62
            go_wp2_with (first
              | (go_at_call 108; refine (HE.out _).mono ?_; rintro e w2 ⟨rfl, rfl⟩)
              | (go_at_call 110; refine (HI.out _ HS.out.b).mono ?_; rintro e w3 ⟨rfl, rfl⟩)
              | (go_at_call 111; refine (HF.out _ HS.out.b).mono ?_; rintro e w4 ⟨rfl, hb4⟩
                 have hs4 := HS.out.grow hb4
                 obtain ⟨⟨a0, a1, a2, a3, a4, a5, a6, a7, a8, a9, a10⟩, ⟨b0, b1, b2⟩, e0, e1, e2, e3, e4, e5, e6⟩ := F3.cellsI hs4
                 have lt1 := hs4.m.lt
                 have lt2 := hs4.v.lt
                 have lt3 := hs4.x.lt
                 have HS4 := hide hs4
                 clear hb4 hs4)
              | (go_at_call 112; refine (HCR.out _ HS4.out.b).mono ?_; rintro e w5 ⟨rfl, hb5⟩
                 have hs5 := HS4.out.grow hb5
                 clear a0 a1 a2 a3 a4 a5 a6 a7 a8 a9 a10 b0 b1 b2 e0 e1 e2 e3 e4 e5 e6 lt1 lt2 lt3
                 obtain ⟨⟨a0, a1, a2, a3, a4, a5, a6, a7, a8, a9, a10⟩, ⟨b0, b1, b2⟩, e0, e1, e2, e3, e4, e5, e6⟩ := F3.cellsI hs5
                 have lt1 := hs5.m.lt
                 have lt2 := hs5.v.lt
                 have lt3 := hs5.x.lt
                 have HS5 := hide hs5
                 clear hb5 hs5)
              | (go_at_call 113; refine (HLI.out _ HS5.out.b).mono ?_; rintro e w6 ⟨rfl, hb6⟩; have HS6 := hide (HS5.out.grow hb6); clear hb6))
            go_ret
            exact ⟨ret_congr (by rw [HV.out]; simp [*]), by first | exact HS6.out.b | exact HS5.out.b | exact HS4.out.b | exact HS.out.b⟩
  · cases o
    · cases g4 : (f == 0)
      · go_enter Tryz.func62, Tryz.ntmps62
        go_wp2_with (first
          | (go_at_call 108; refine (HE.out _).mono ?_; rintro e w2 ⟨rfl, rfl⟩)
          | (go_at_call 110; refine (HI.out _ HS.out.b).mono ?_; rintro e w3 ⟨rfl, rfl⟩)
          | (go_at_call 111; refine (HF.out _ HS.out.b).mono ?_; rintro e w4 ⟨rfl, hb4⟩
             have hs4 := HS.out.grow hb4
             obtain ⟨⟨a0, a1, a2, a3, a4, a5, a6, a7, a8, a9, a10⟩, ⟨b0, b1, b2⟩, e0, e1, e2, e3, e4, e5, e6⟩ := F3.cellsI hs4
             have lt1 := hs4.m.lt
             have lt2 := hs4.v.lt
             have lt3 := hs4.x.lt
             have HS4 := hide hs4
             clear hb4 hs4)
          | (go_at_call 112; refine (HCR.out _ HS4.out.b).mono ?_; rintro e w5 ⟨rfl, hb5⟩
             have hs5 := HS4.out.grow hb5
             clear a0 a1 a2 a3 a4 a5 a6 a7 a8 a9 a10 b0 b1 b2 e0 e1 e2 e3 e4 e5 e6 lt1 lt2 lt3
             obtain ⟨⟨a0, a1, a2, a3, a4, a5, a6, a7, a8, a9, a10⟩, ⟨b0, b1, b2⟩, e0, e1, e2, e3, e4, e5, e6⟩ := F3.cellsI hs5
             have lt1 := hs5.m.lt
             have lt2 := hs5.v.lt
             have lt3 := hs5.x.lt
             have HS5 := hide hs5
             clear hb5 hs5)
          | (go_at_call 113; refine (HLI.out _ HS5.out.b).mono ?_; rintro e w6 ⟨rfl, hb6⟩; have HS6 := hide (HS5.out.grow hb6); clear hb6))
        go_ret
        exact ⟨ret_congr (by rw [HV.out]; simp [*]), by first | exact HS6.out.b | exact HS5.out.b | exact HS4.out.b | exact HS.out.b⟩
      · cases fr
        · go_enter Tryz.func62, Tryz.ntmps62
          go_wp2_with (first
            | (go_at_call 108; refine (HE.out _).mono ?_; rintro e w2 ⟨rfl, rfl⟩)
            | (go_at_call 110; refine (HI.out _ HS.out.b).mono ?_; rintro e w3 ⟨rfl, rfl⟩)
            | (go_at_call 111; refine (HF.out _ HS.out.b).mono ?_; rintro e w4 ⟨rfl, hb4⟩
               have hs4 := HS.out.grow hb4
               obtain ⟨⟨a0, a1, a2, a3, a4, a5, a6, a7, a8, a9, a10⟩, ⟨b0, b1, b2⟩, e0, e1, e2, e3, e4, e5, e6⟩ := F3.cellsI hs4
               have lt1 := hs4.m.lt
               have lt2 := hs4.v.lt
               have lt3 := hs4.x.lt
               have HS4 := hide hs4
               clear hb4 hs4)
            | (go_at_call 112; refine (HCR.out _ HS4.out.b).mono ?_; rintro e w5 ⟨rfl, hb5⟩
               have hs5 := HS4.out.grow hb5
               clear a0 a1 a2 a3 a4 a5 a6 a7 a8 a9 a10 b0 b1 b2 e0 e1 e2 e3 e4 e5 e6 lt1 lt2 lt3
               obtain ⟨⟨a0, a1, a2, a3, a4, a5, a6, a7, a8, a9, a10⟩, ⟨b0, b1, b2⟩, e0, e1, e2, e3, e4, e5, e6⟩ := F3.cellsI hs5
               have lt1 := hs5.m.lt
               have lt2 := hs5.v.lt
               have lt3 := hs5.x.lt
               have HS5 := hide hs5
               clear hb5 hs5)
            | (go_at_call 113; refine (HLI.out _ HS5.out.b).mono ?_; rintro e w6 ⟨rfl, hb6⟩; have HS6 := hide (HS5.out.grow hb6); clear hb6))
          go_ret
          exact ⟨ret_congr (by rw [HV.out]; simp [*]), by first | exact HS6.out.b | exact HS5.out.b | exact HS4.out.b | exact HS.out.b⟩
        · cases cr
          · go_enter Tryz.func62, Tryz.ntmps62
            go_wp2_with (first
              | (go_at_call 108; refine (HE.out _).mono ?_; rintro e w2 ⟨rfl, rfl⟩)
              | (go_at_call 110; refine (HI.out _ HS.out.b).mono ?_; rintro e w3 ⟨rfl, rfl⟩)
              | (go_at_call 111; refine (HF.out _ HS.out.b).mono ?_; rintro e w4 ⟨rfl, hb4⟩
                 have hs4 := HS.out.grow hb4
                 obtain ⟨⟨a0, a1, a2, a3, a4, a5, a6, a7, a8, a9, a10⟩, ⟨b0, b1, b2⟩, e0, e1, e2, e3, e4, e5, e6⟩ := F3.cellsI hs4
                 have lt1 := hs4.m.lt
                 have lt2 := hs4.v.lt
                 have lt3 := hs4.x.lt
                 have HS4 := hide hs4
                 clear hb4 hs4)
              | (go_at_call 112; refine (HCR.out _ HS4.out.b).mono ?_; rintro e w5 ⟨rfl, hb5⟩
                 have hs5 := HS4.out.grow hb5
                 clear a0 a1 a2 a3 a4 a5 a6 a7 a8 a9 a10 b0 b1 b2 e0 e1 e2 e3 e4 e5 e6 lt1 lt2 lt3
                 obtain ⟨⟨a0, a1, a2, a3, a4, a5, a6, a7, a8, a9, a10⟩, ⟨b0, b1, b2⟩, e0, e1, e2, e3, e4, e5, e6⟩ := F3.cellsI hs5
                 have lt1 := hs5.m.lt
                 have lt2 := hs5.v.lt
                 have lt3 := hs5.x.lt
                 have HS5 := hide hs5
                 clear hb5 hs5)
              | (go_at_call 113; refine (HLI.out _ HS5.out.b).mono ?_; rintro e w6 ⟨rfl, hb6⟩; have HS6 := hide (HS5.out.grow hb6); clear hb6))
            go_ret
            exact ⟨ret_congr (by rw [HV.out]; simp [*]), by first | exact HS6.out.b | exact HS5.out.b | exact HS4.out.b | exact HS.out.b⟩
          · cases g7 : (li != 0)
            all_goals
              go_enter Tryz.func62, Tryz.ntmps62
              go_wp2_with (first
                | (go_at_call 108; refine (HE.out _).mono ?_; rintro e w2 ⟨rfl, rfl⟩)
                | (go_at_call 110; refine (HI.out _ HS.out.b).mono ?_; rintro e w3 ⟨rfl, rfl⟩)
                | (go_at_call 111; refine (HF.out _ HS.out.b).mono ?_; rintro e w4 ⟨rfl, hb4⟩
                   have hs4 := HS.out.grow hb4
                   obtain ⟨⟨a0, a1, a2, a3, a4, a5, a6, a7, a8, a9, a10⟩, ⟨b0, b1, b2⟩, e0, e1, e2, e3, e4, e5, e6⟩ := F3.cellsI hs4
                   have lt1 := hs4.m.lt
                   have lt2 := hs4.v.lt
                   have lt3 := hs4.x.lt
                   have HS4 := hide hs4
                   clear hb4 hs4)
                | (go_at_call 112; refine (HCR.out _ HS4.out.b).mono ?_; rintro e w5 ⟨rfl, hb5⟩
                   have hs5 := HS4.out.grow hb5
                   clear a0 a1 a2 a3 a4 a5 a6 a7 a8 a9 a10 b0 b1 b2 e0 e1 e2 e3 e4 e5 e6 lt1 lt2 lt3
                   obtain ⟨⟨a0, a1, a2, a3, a4, a5, a6, a7, a8, a9, a10⟩, ⟨b0, b1, b2⟩, e0, e1, e2, e3, e4, e5, e6⟩ := F3.cellsI hs5
                   have lt1 := hs5.m.lt
                   have lt2 := hs5.v.lt
                   have lt3 := hs5.x.lt
                   have HS5 := hide hs5
                   clear hb5 hs5)
                | (go_at_call 113; refine (HLI.out _ HS5.out.b).mono ?_; rintro e w6 ⟨rfl, hb6⟩; have HS6 := hide (HS5.out.grow hb6); clear hb6))
              go_ret
              exact ⟨ret_congr (by rw [HV.out]; simp [*]), by first | exact HS6.out.b | exact HS5.out.b | exact HS4.out.b | exact HS.out.b⟩
    · cases g3 : (t == 0)
      · cases g4 : (f == 0)
        · go_enter Tryz.func62, Tryz.ntmps62
          go_wp2_with (first
            | (go_at_call 108; refine (HE.out _).mono ?_; rintro e w2 ⟨rfl, rfl⟩)
            | (go_at_call 110; refine (HI.out _ HS.out.b).mono ?_; rintro e w3 ⟨rfl, rfl⟩)
            | (go_at_call 111; refine (HF.out _ HS.out.b).mono ?_; rintro e w4 ⟨rfl, hb4⟩
               have hs4 := HS.out.grow hb4
               obtain ⟨⟨a0, a1, a2, a3, a4, a5, a6, a7, a8, a9, a10⟩, ⟨b0, b1, b2⟩, e0, e1, e2, e3, e4, e5, e6⟩ := F3.cellsI hs4
               have lt1 := hs4.m.lt
               have lt2 := hs4.v.lt
               have lt3 := hs4.x.lt
               have HS4 := hide hs4
               clear hb4 hs4)
            | (go_at_call 112; refine (HCR.out _ HS4.out.b).mono ?_; rintro e w5 ⟨rfl, hb5⟩
               have hs5 := HS4.out.grow hb5
               clear a0 a1 a2 a3 a4 a5 a6 a7 a8 a9 a10 b0 b1 b2 e0 e1 e2 e3 e4 e5 e6 lt1 lt2 lt3
               obtain ⟨⟨a0, a1, a2, a3, a4, a5, a6, a7, a8, a9, a10⟩, ⟨b0, b1, b2⟩, e0, e1, e2, e3, e4, e5, e6⟩ := F3.cellsI hs5
               have lt1 := hs5.m.lt
               have lt2 := hs5.v.lt
               have lt3 := hs5.x.lt
               have HS5 := hide hs5
               clear hb5 hs5)
            | (go_at_call 113; refine (HLI.out _ HS5.out.b).mono ?_; rintro e w6 ⟨rfl, hb6⟩; have HS6 := hide (HS5.out.grow hb6); clear hb6))
          go_ret
          exact ⟨ret_congr (by rw [HV.out]; simp [*]), by first | exact HS6.out.b | exact HS5.out.b | exact HS4.out.b | exact HS.out.b⟩
        · cases fr
          · go_enter Tryz.func62, Tryz.ntmps62
            go_wp2_with (first
              | (go_at_call 108; refine (HE.out _).mono ?_; rintro e w2 ⟨rfl, rfl⟩)
              | (go_at_call 110; refine (HI.out _ HS.out.b).mono ?_; rintro e w3 ⟨rfl, rfl⟩)
              | (go_at_call 111; refine (HF.out _ HS.out.b).mono ?_; rintro e w4 ⟨rfl, hb4⟩
                 have hs4 := HS.out.grow hb4
                 obtain ⟨⟨a0, a1, a2, a3, a4, a5, a6, a7, a8, a9, a10⟩, ⟨b0, b1, b2⟩, e0, e1, e2, e3, e4, e5, e6⟩ := F3.cellsI hs4
                 have lt1 := hs4.m.lt
                 have lt2 := hs4.v.lt
                 have lt3 := hs4.x.lt
                 have HS4 := hide hs4
                 clear hb4 hs4)
              | (go_at_call 112; refine (HCR.out _ HS4.out.b).mono ?_; rintro e w5 ⟨rfl, hb5⟩
                 have hs5 := HS4.out.grow hb5
                 clear a0 a1 a2 a3 a4 a5 a6 a7 a8 a9 a10 b0 b1 b2 e0 e1 e2 e3 e4 e5 e6 lt1 lt2 lt3
                 obtain ⟨⟨a0, a1, a2, a3, a4, a5, a6, a7, a8, a9, a10⟩, ⟨b0, b1, b2⟩, e0, e1, e2, e3, e4, e5, e6⟩ := F3.cellsI hs5
                 have lt1 := hs5.m.lt
                 have lt2 := hs5.v.lt
                 have lt3 := hs5.x.lt
                 have HS5 := hide hs5
                 clear hb5 hs5)
              | (go_at_call 113; refine (HLI.out _ HS5.out.b).mono ?_; rintro e w6 ⟨rfl, hb6⟩; have HS6 := hide (HS5.out.grow hb6); clear hb6))
            go_ret
            exact ⟨ret_congr (by rw [HV.out]; simp [*]), by first | exact HS6.out.b | exact HS5.out.b | exact HS4.out.b | exact HS.out.b⟩
          · cases cr
            · go_enter Tryz.func62, Tryz.ntmps62
              go_wp2_with (first
                | (go_at_call 108; refine (HE.out _).mono ?_; rintro e w2 ⟨rfl, rfl⟩)
                | (go_at_call 110; refine (HI.out _ HS.out.b).mono ?_; rintro e w3 ⟨rfl, rfl⟩)
                | (go_at_call 111; refine (HF.out _ HS.out.b).mono ?_; rintro e w4 ⟨rfl, hb4⟩
                   have hs4 := HS.out.grow hb4
                   obtain ⟨⟨a0, a1, a2, a3, a4, a5, a6, a7, a8, a9, a10⟩, ⟨b0, b1, b2⟩, e0, e1, e2, e3, e4, e5, e6⟩ := F3.cellsI hs4
                   have lt1 := hs4.m.lt
                   have lt2 := hs4.v.lt
                   have lt3 := hs4.x.lt
                   have HS4 := hide hs4
                   clear hb4 hs4)
                | (go_at_call 112; refine (HCR.out _ HS4.out.b).mono ?_; rintro e w5 ⟨rfl, hb5⟩
                   have hs5 := HS4.out.grow hb5
                   clear a0 a1 a2 a3 a4 a5 a6 a7 a8 a9 a10 b0 b1 b2 e0 e1 e2 e3 e4 e5 e6 lt1 lt2 lt3
                   obtain ⟨⟨a0, a1, a2, a3, a4, a5, a6, a7, a8, a9, a10⟩, ⟨b0, b1, b2⟩, e0, e1, e2, e3, e4, e5, e6⟩ := F3.cellsI hs5
                   have lt1 := hs5.m.lt
                   have lt2 := hs5.v.lt
                   have lt3 := hs5.x.lt
                   have HS5 := hide hs5
                   clear hb5 hs5)
                | (go_at_call 113; refine (HLI.out _ HS5.out.b).mono ?_; rintro e w6 ⟨rfl, hb6⟩; have HS6 := hide (HS5.out.grow hb6); clear hb6))
              go_ret
              exact ⟨ret_congr (by rw [HV.out]; simp [*]), by first | exact HS6.out.b | exact HS5.out.b | exact HS4.out.b | exact HS.out.b⟩
            · cases g7 : (li != 0)
              all_goals
                go_enter Tryz.func62, Tryz.ntmps62
                go_wp2_with (first
                  | (go_at_call 108; refine (HE.out _).mono ?_; rintro e w2 ⟨rfl, rfl⟩)
                  | (go_at_call 110; refine (HI.out _ HS.out.b).mono ?_; rintro e w3 ⟨rfl, rfl⟩)
                  | (go_at_call 111; refine (HF.out _ HS.out.b).mono ?_; rintro e w4 ⟨rfl, hb4⟩
                     have hs4 := HS.out.grow hb4
                     obtain ⟨⟨a0, a1, a2, a3, a4, a5, a6, a7, a8, a9, a10⟩, ⟨b0, b1, b2⟩, e0, e1, e2, e3, e4, e5, e6⟩ := F3.cellsI hs4
                     have lt1 := hs4.m.lt
                     have lt2 := hs4.v.lt
                     have lt3 := hs4.x.lt
                     have HS4 := hide hs4
                     clear hb4 hs4)
                  | (go_at_call 112; refine (HCR.out _ HS4.out.b).mono ?_; rintro e w5 ⟨rfl, hb5⟩
                     have hs5 := HS4.out.grow hb5
                     clear a0 a1 a2 a3 a4 a5 a6 a7 a8 a9 a10 b0 b1 b2 e0 e1 e2 e3 e4 e5 e6 lt1 lt2 lt3
                     obtain ⟨⟨a0, a1, a2, a3, a4, a5, a6, a7, a8, a9, a10⟩, ⟨b0, b1, b2⟩, e0, e1, e2, e3, e4, e5, e6⟩ := F3.cellsI hs5
                     have lt1 := hs5.m.lt
                     have lt2 := hs5.v.lt
                     have lt3 := hs5.x.lt
                     have HS5 := hide hs5
                     clear hb5 hs5)
                  | (go_at_call 113; refine (HLI.out _ HS5.out.b).mono ?_; rintro e w6 ⟨rfl, hb6⟩; have HS6 := hide (HS5.out.grow hb6); clear hb6))
                go_ret
                exact ⟨ret_congr (by rw [HV.out]; simp [*]), by first | exact HS6.out.b | exact HS5.out.b | exact HS4.out.b | exact HS.out.b⟩
      · go_enter Tryz.func62, Tryz.ntmps62
        go_wp2_with (first
          | (go_at_call 108; refine (HE.out _).mono ?_; rintro e w2 ⟨rfl, rfl⟩)
          | (go_at_call 110; refine (HI.out _ HS.out.b).mono ?_; rintro e w3 ⟨rfl, rfl⟩)
          | (go_at_call 111; refine (HF.out _ HS.out.b).mono ?_; rintro e w4 ⟨rfl, hb4⟩
             have hs4 := HS.out.grow hb4
             obtain ⟨⟨a0, a1, a2, a3, a4, a5, a6, a7, a8, a9, a10⟩, ⟨b0, b1, b2⟩, e0, e1, e2, e3, e4, e5, e6⟩ := F3.cellsI hs4
             have lt1 := hs4.m.lt
             have lt2 := hs4.v.lt
             have lt3 := hs4.x.lt
             have HS4 := hide hs4
             clear hb4 hs4)
          | (go_at_call 112; refine (HCR.out _ HS4.out.b).mono ?_; rintro e w5 ⟨rfl, hb5⟩
             have hs5 := HS4.out.grow hb5
             clear a0 a1 a2 a3 a4 a5 a6 a7 a8 a9 a10 b0 b1 b2 e0 e1 e2 e3 e4 e5 e6 lt1 lt2 lt3
             obtain ⟨⟨a0, a1, a2, a3, a4, a5, a6, a7, a8, a9, a10⟩, ⟨b0, b1, b2⟩, e0, e1, e2, e3, e4, e5, e6⟩ := F3.cellsI hs5
             have lt1 := hs5.m.lt
             have lt2 := hs5.v.lt
             have lt3 := hs5.x.lt
             have HS5 := hide hs5
             clear hb5 hs5)
          | (go_at_call 113; refine (HLI.out _ HS5.out.b).mono ?_; rintro e w6 ⟨rfl, hb6⟩; have HS6 := hide (HS5.out.grow hb6); clear hb6))
        go_ret
        exact ⟨ret_congr (by rw [HV.out]; simp [*]), by first | exact HS6.out.b | exact HS5.out.b | exact HS4.out.b | exact HS.out.b⟩
theorem valid23_ref (h : MH) (m : Mod) (v : MvM) (w : World) (d : MD w w.heap.size h m) (hv : validM m = true) :
    Calls Tryz.prog 62 #[.agg #[.slice h.s m.sites.length h.sc, .slice h.f m.feeds.length h.fc, .slice h.r m.racks.length h.rc, .slice h.m m.machs.length h.mc, .slice h.l m.links.length h.lc, .slice h.i m.items.length h.ic, .int .i64 m.dark, .int .i64 m.slots, .int .i64 m.reserve, .int .i64 m.failures, .slice h.u m.rules.length h.uc], .agg #[.int .i64 v.1, .int .i64 v.2.1, .int .i64 v.2.2]] w (AnsB w (.bool (fitB m v))) := by
  obtain ⟨i, f, t⟩ := v
  cases he : exI i m.items.length
  · rw [show fitB m (i, f, t) = false by rw [fitB, itemAt_no he]]
    exact validR_no h m i f t w he
  · obtain ⟨a, ha, rfl⟩ := exI_yes he
    rw [fitB_yes ha]
    exact validR_yes h m a f t w d hv ha
end Go.Proofs.YtpggamapmgpjcaaGreatDoor
