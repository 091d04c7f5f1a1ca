/- A part of the claim: see its last text. -/
import Derived.Test.YtcfogipaadhbeaaGreatDoorUK34
import Derived.Deep.QuietTactic
import Derived.Deep.RegionHeld3
import Derived.BigQuiet
import Derived.Test.YtcfogipaadhbeaaGreatDoorUK03
import Derived.Test.YtcfogipaadhbeaaGreatDoorUK32

set_option maxRecDepth 100000
set_option maxHeartbeats 16000000
namespace Go.Proofs.YtcfogipaadhbeaaGreatDoor
open Go Go.RowKit Go.Proofs
structure SM (w : World) (h1 h2 : MH) (m : Mod) (wr : World) : Prop where
 b : Below w.heap.size w wr
 x1 : Blk wr w.heap.size 32 #[.slice h1.s m.sT.length h1.sc, .slice h1.f m.fT.length h1.fc, .slice h1.r m.rT.length h1.rc, .slice h1.m m.mT.length h1.mc, .slice h1.l m.lT.length h1.lc, .slice h1.i m.iT.length h1.ic, .int .i64 m.dT, .int .i64 m.oT, .int .i64 m.vT, .int .i64 m.aT, .slice h1.u m.uT.length h1.uc]
 x2 : Blk wr (w.heap.size + 1) 32 #[.slice h2.s m.sT.length h2.sc, .slice h2.f m.fT.length h2.fc, .slice h2.r m.rT.length h2.rc, .slice h2.m m.mT.length h2.mc, .slice h2.l m.lT.length h2.lc, .slice h2.i m.iT.length h2.ic, .int .i64 m.dT, .int .i64 m.oT, .int .i64 m.vT, .int .i64 m.aT, .slice h2.u m.uT.length h2.uc]
theorem SM.grow {w wr w2 : World} {h1 h2 : MH} {m : Mod} (h : SM w h1 h2 m wr) (hb : Below wr.heap.size wr w2) : SM w h1 h2 m w2 := ⟨h.b.trans (hb.mono h.b.size), h.x1.below hb h.x1.lt, h.x2.below hb h.x2.lt⟩
theorem SM.drewN {w wr : World} {h1 h2 : MH} {m : Mod} (h : SM w h1 h2 m wr) (n : Nat) : SM w h1 h2 m (wr.drewN n) := ⟨below_drawn h.b n, h.x1, h.x2⟩
theorem same15_ref (h1 h2 : MH) (m : Mod) (w : World) (d1 : MD w w.heap.size h1 m) (d2 : MD w w.heap.size h2 m) :
    Calls Tryz.prog 13 #[.agg #[.slice h1.s m.sT.length h1.sc, .slice h1.f m.fT.length h1.fc, .slice h1.r m.rT.length h1.rc, .slice h1.m m.mT.length h1.mc, .slice h1.l m.lT.length h1.lc, .slice h1.i m.iT.length h1.ic, .int .i64 m.dT, .int .i64 m.oT, .int .i64 m.vT, .int .i64 m.aT, .slice h1.u m.uT.length h1.uc], .agg #[.slice h2.s m.sT.length h2.sc, .slice h2.f m.fT.length h2.fc, .slice h2.r m.rT.length h2.rc, .slice h2.m m.mT.length h2.mc, .slice h2.l m.lT.length h2.lc, .slice h2.i m.iT.length h2.ic, .int .i64 m.dT, .int .i64 m.oT, .int .i64 m.vT, .int .i64 m.aT, .slice h2.u m.uT.length h2.uc]] w fun e w' => e = .returned (.bool true) ∧ Below w.heap.size w w' := by
 have hb := ((Below.refl w.heap.size w).alloc (Nat.le_refl _) (.cells #[.slice h1.s m.sT.length h1.sc, .slice h1.f m.fT.length h1.fc, .slice h1.r m.rT.length h1.rc, .slice h1.m m.mT.length h1.mc, .slice h1.l m.lT.length h1.lc, .slice h1.i m.iT.length h1.ic, .int .i64 m.dT, .int .i64 m.oT, .int .i64 m.vT, .int .i64 m.aT, .slice h1.u m.uT.length h1.uc] 32)).alloc (by simp) (.cells #[.slice h2.s m.sT.length h2.sc, .slice h2.f m.fT.length h2.fc, .slice h2.r m.rT.length h2.rc, .slice h2.m m.mT.length h2.mc, .slice h2.l m.lT.length h2.lc, .slice h2.i m.iT.length h2.ic, .int .i64 m.dT, .int .i64 m.oT, .int .i64 m.vT, .int .i64 m.aT, .slice h2.u m.uT.length h2.uc] 32)
 have HS0 := hide (show SM w h1 h2 m ((w.alloc (.cells #[.slice h1.s m.sT.length h1.sc, .slice h1.f m.fT.length h1.fc, .slice h1.r m.rT.length h1.rc, .slice h1.m m.mT.length h1.mc, .slice h1.l m.lT.length h1.lc, .slice h1.i m.iT.length h1.ic, .int .i64 m.dT, .int .i64 m.oT, .int .i64 m.vT, .int .i64 m.aT, .slice h1.u m.uT.length h1.uc] 32)).alloc (.cells #[.slice h2.s m.sT.length h2.sc, .slice h2.f m.fT.length h2.fc, .slice h2.r m.rT.length h2.rc, .slice h2.m m.mT.length h2.mc, .slice h2.l m.lT.length h2.lc, .slice h2.i m.iT.length h2.ic, .int .i64 m.dT, .int .i64 m.oT, .int .i64 m.vT, .int .i64 m.aT, .slice h2.u m.uT.length h2.uc] 32)) from ⟨hb, (Blk.new w _ _).alloc _, by have := Blk.new (w.alloc (.cells #[.slice h1.s m.sT.length h1.sc, .slice h1.f m.fT.length h1.fc, .slice h1.r m.rT.length h1.rc, .slice h1.m m.mT.length h1.mc, .slice h1.l m.lT.length h1.lc, .slice h1.i m.iT.length h1.ic, .int .i64 m.dT, .int .i64 m.oT, .int .i64 m.vT, .int .i64 m.aT, .slice h1.u m.uT.length h1.uc] 32)) 32 #[.slice h2.s m.sT.length h2.sc, .slice h2.f m.fT.length h2.fc, .slice h2.r m.rT.length h2.rc, .slice h2.m m.mT.length h2.mc, .slice h2.l m.lT.length h2.lc, .slice h2.i m.iT.length h2.ic, .int .i64 m.dT, .int .i64 m.oT, .int .i64 m.vT, .int .i64 m.aT, .slice h2.u m.uT.length h2.uc]; rwa [World.size_alloc] at this⟩)
 have ht := fun (W : World) (hW : Below w.heap.size w W) => texts_ref h1.s h2.s h1.sc h2.sc m.sT m.sT W (d1.dS.grow hW) (d2.dS.grow hW) d1.sl d1.sl
 have hf := fun (W : World) (hW : Below w.heap.size w W) => texts_ref h1.f h2.f h1.fc h2.fc m.fT m.fT W (d1.dF.grow hW) (d2.dF.grow hW) d1.fl d1.fl
 simp only [decide_true] at ht hf
 have HT := hide ht
 have HF := hide hf
 have D1 := hide d1
 have D2 := hide d2
 clear hb ht hf d1 d2
 go_enter Tryz.func13, Tryz.ntmps13
 go_upto_region 1 with (fail)
 go_cut [98] from 12 to 99 (fun v wx => v = .bool false ∧ Hid (SM w h1 h2 m wx))
 case first =>
  have p0 := HS0.out.x1.cell 0
  have r0 := HS0.out.x2.cell 0
  have pl := HS0.out.x1.lt
  have rl := HS0.out.x2.lt
  simp at p0 r0
  go_wp2_with (first
   | (go_at_call 32; (with_reducible refine (HT.out _ HS0.out.b).mono ?_); rintro e w1 ⟨rfl, hb1⟩
      have HS1 := hide (HS0.out.grow hb1)
      have a1 := HS1.out.x1.cell 1
      have b1 := HS1.out.x2.cell 1
      have al := HS1.out.x1.lt
      have bl := HS1.out.x2.lt
      simp at a1 b1
      clear hb1)
   | (go_at_call 32; (with_reducible refine (HF.out _ HS1.out.b).mono ?_); rintro e w2 ⟨rfl, hb2⟩
      have HS2 := hide (HS1.out.grow hb2)
      have c2 := HS2.out.x1.cell 2
      have e2 := HS2.out.x2.cell 2
      have c3 := HS2.out.x1.cell 3
      have e3 := HS2.out.x2.cell 3
      have c4 := HS2.out.x1.cell 4
      have e4 := HS2.out.x2.cell 4
      have c5 := HS2.out.x1.cell 5
      have e5 := HS2.out.x2.cell 5
      have c6 := HS2.out.x1.cell 6
      have e6 := HS2.out.x2.cell 6
      have c7 := HS2.out.x1.cell 7
      have e7 := HS2.out.x2.cell 7
      have c8 := HS2.out.x1.cell 8
      have e8 := HS2.out.x2.cell 8
      have c9 := HS2.out.x1.cell 9
      have e9 := HS2.out.x2.cell 9
      have c10 := HS2.out.x1.cell 10
      have e10 := HS2.out.x2.cell 10
      have cl := HS2.out.x1.lt
      have el := HS2.out.x2.lt
      simp at c2 e2 c3 e3 c4 e4 c5 e5 c6 e6 c7 e7 c8 e8 c9 e9 c10 e10
      clear hb2))
  go_meet
  case rel => exact ⟨rfl, HS2⟩
 case rest =>
  obtain ⟨rfl, HS⟩ := hcut
  clear HS0 HT HF
  go_wp2_with fail
  have hl0 := D1.out.rl
  go_loopw [5] (fun i wr => ∃ k : Nat, k ≤ m.rT.length ∧ i = .int .i64 k ∧ Hid (SM w h1 h2 m wr)) (fun i _ => m.rT.length - (intOf i).toNat)
  case atStart => exact ⟨0, Nat.zero_le _, rfl, HS⟩
  case round =>
   clear HS
   obtain ⟨k, hk, rfl, hS⟩ := hrel
   rename World => w5
   have p := hS.out.x1.cell 2
   have q := hS.out.x2.cell 2
   have pl := hS.out.x1.lt
   have ql := hS.out.x2.lt
   simp at p q
   by_cases hlt : k < m.rT.length
   · obtain ⟨ba, oa, hA, hba, x0, x1, x2, _⟩ := (D1.out.grow hS.out.b).dR.rack hlt
     obtain ⟨bb, ob, hB, hbb, y0, y1, y2, _⟩ := (D2.out.grow hS.out.b).dR.rack hlt
     rw [hA] at p
     rw [hB] at q
     have heq := fun W => eq_rack m.rT[k].name m.rT[k].site m.rT[k].feed W
     obtain ⟨x, hx⟩ : ∃ x, x = m.rT[k] := ⟨_, rfl⟩
     rw [← hx] at x0 x1 x2 y0 y1 y2
     simp only [← hx] at heq
     have hltI : (k : Int) < (m.rT.length : Int) := by omega
     clear hx hA hB
     go_wp2_with fail
     go_quiet (fail)
     go_wp2_with fail
     go_roundw
     case rel => exact ⟨k + 1, by omega, by go_num, hide (hS.out.drewN _)⟩
     case measure => simp [intOf]; omega
   · have hge : ¬ (k : Int) < (m.rT.length : Int) := by omega
     have HS1_ := hS
     go_wp2_with fail
     clear p q pl ql hS hlt hge hk
     have hl1 := D1.out.ml
     go_loopw [6] (fun i wr => ∃ k : Nat, k ≤ m.mT.length ∧ i = .int .i64 k ∧ Hid (SM w h1 h2 m wr)) (fun i _ => m.mT.length - (intOf i).toNat)
     case atStart => exact ⟨0, Nat.zero_le _, rfl, HS1_⟩
     case round =>
      clear HS1_
      obtain ⟨k, hk, rfl, hS⟩ := hrel
      rename World => w5
      have p := hS.out.x1.cell 3
      have q := hS.out.x2.cell 3
      have pl := hS.out.x1.lt
      have ql := hS.out.x2.lt
      simp at p q
      by_cases hlt : k < m.mT.length
      · obtain ⟨ba, oa, hA, hba, x0, x1, x2, _⟩ := (D1.out.grow hS.out.b).dM.mach hlt
        obtain ⟨bb, ob, hB, hbb, y0, y1, y2, _⟩ := (D2.out.grow hS.out.b).dM.mach hlt
        rw [hA] at p
        rw [hB] at q
        have heq := fun W => eq_mach m.mT[k].name m.mT[k].rack m.mT[k].cap W
        obtain ⟨x, hx⟩ : ∃ x, x = m.mT[k] := ⟨_, rfl⟩
        rw [← hx] at x0 x1 x2 y0 y1 y2
        simp only [← hx] at heq
        have hltI : (k : Int) < (m.mT.length : Int) := by omega
        clear hx hA hB
        go_wp2_with fail
        go_quiet (fail)
        go_wp2_with fail
        go_roundw
        case rel => exact ⟨k + 1, by omega, by go_num, hide (hS.out.drewN _)⟩
        case measure => simp [intOf]; omega
      · have hge : ¬ (k : Int) < (m.mT.length : Int) := by omega
        have HS2_ := hS
        go_wp2_with fail
        clear p q pl ql hS hlt hge hk
        have hl2 := D1.out.ll
        go_loopw [7] (fun i wr => ∃ k : Nat, k ≤ m.lT.length ∧ i = .int .i64 k ∧ Hid (SM w h1 h2 m wr)) (fun i _ => m.lT.length - (intOf i).toNat)
        case atStart => exact ⟨0, Nat.zero_le _, rfl, HS2_⟩
        case round =>
         clear HS2_
         obtain ⟨k, hk, rfl, hS⟩ := hrel
         rename World => w5
         have p := hS.out.x1.cell 4
         have q := hS.out.x2.cell 4
         have pl := hS.out.x1.lt
         have ql := hS.out.x2.lt
         simp at p q
         by_cases hlt : k < m.lT.length
         · obtain ⟨ba, oa, hA, hba, x0, x1, x2⟩ := (D1.out.grow hS.out.b).dL.link hlt
           obtain ⟨bb, ob, hB, hbb, y0, y1, y2⟩ := (D2.out.grow hS.out.b).dL.link hlt
           rw [hA] at p
           rw [hB] at q
           have heq := fun W => eq_link m.lT[k].a m.lT[k].b m.lT[k].cap W
           obtain ⟨x, hx⟩ : ∃ x, x = m.lT[k] := ⟨_, rfl⟩
           rw [← hx] at x0 x1 x2 y0 y1 y2
           simp only [← hx] at heq
           have hltI : (k : Int) < (m.lT.length : Int) := by omega
           clear hx hA hB
           go_wp2_with fail
           go_quiet (fail)
           go_wp2_with fail
           go_roundw
           case rel => exact ⟨k + 1, by omega, by go_num, hide (hS.out.drewN _)⟩
           case measure => simp [intOf]; omega
         · have hge : ¬ (k : Int) < (m.lT.length : Int) := by omega
           have HS3_ := hS
           go_wp2_with fail
           clear p q pl ql hS hlt hge hk
           have hl3 := D1.out.il
           go_loopw [8] (fun i wr => ∃ k : Nat, k ≤ m.iT.length ∧ i = .int .i64 k ∧ Hid (SM w h1 h2 m wr)) (fun i _ => m.iT.length - (intOf i).toNat)
           case atStart => exact ⟨0, Nat.zero_le _, rfl, HS3_⟩
           case round =>
            clear HS3_
            obtain ⟨k, hk, rfl, hS⟩ := hrel
            rename World => w5
            have p := hS.out.x1.cell 5
            have q := hS.out.x2.cell 5
            have pl := hS.out.x1.lt
            have ql := hS.out.x2.lt
            simp at p q
            by_cases hlt : k < m.iT.length
            · obtain ⟨ba, oa, A1, c1, hA, hba, x0, x1, x2, x3, x4, x5, x6, _, u1, u2, i1⟩ := (D1.out.grow hS.out.b).dI.item hlt
              obtain ⟨bb, ob, A2, c2, hB, hbb, y0, y1, y2, y3, y4, y5, y6, _, _, _, i2⟩ := (D2.out.grow hS.out.b).dI.item hlt
              rw [hA] at p
              rw [hB] at q
              have hil : m.iT[k].on.length ≤ 9223372036854775807 := by omega
              have HI := hide (fun (W : World) (hW : Below w5.heap.size w5 W) => ints_ref A1 A2 c1 c2 m.iT[k].on m.iT[k].on W (i1.grow hW) (i2.grow hW) hil hil)
              obtain ⟨x, hx⟩ : ∃ x, x = m.iT[k] := ⟨_, rfl⟩
              rw [← hx] at x0 y0 x1 y1 x2 y2 x3 y3 x4 y4 x5 y5 x6 y6
              simp only [← hx, decide_true] at HI
              have hltI : (k : Int) < (m.iT.length : Int) := by omega
              clear hx hA hB i1 i2 hil u1 u2
              go_wp2_with fail
              go_region_held3 (fun W => W.cell? ⟨w.heap.size, 5, none⟩ = some (.slice (some ⟨ba, oa, none⟩) m.iT.length h1.ic) ∧ W.cell? ⟨w.heap.size + 1, 5, none⟩ = some (.slice (some ⟨bb, ob, none⟩) m.iT.length h2.ic) ∧ W.cell? ⟨ba, oa + k * 7, none⟩ = some (.string x.name) ∧ W.cell? ⟨ba, oa + k * 7 + 1, none⟩ = some (.int .i64 x.kind) ∧ W.cell? ⟨ba, oa + k * 7 + 2, none⟩ = some (.int .i64 x.count) ∧ W.cell? ⟨ba, oa + k * 7 + 3, none⟩ = some (.int .i64 x.load) ∧ W.cell? ⟨ba, oa + k * 7 + 4, none⟩ = some (.int .i64 x.size) ∧ W.cell? ⟨ba, oa + k * 7 + 5, none⟩ = some (.int .i64 x.share) ∧ W.cell? ⟨ba, oa + k * 7 + 6, none⟩ = some (.slice A1 x.on.length c1) ∧ W.cell? ⟨bb, ob + k * 7, none⟩ = some (.string x.name) ∧ W.cell? ⟨bb, ob + k * 7 + 1, none⟩ = some (.int .i64 x.kind) ∧ W.cell? ⟨bb, ob + k * 7 + 2, none⟩ = some (.int .i64 x.count) ∧ W.cell? ⟨bb, ob + k * 7 + 3, none⟩ = some (.int .i64 x.load) ∧ W.cell? ⟨bb, ob + k * 7 + 4, none⟩ = some (.int .i64 x.size) ∧ W.cell? ⟨bb, ob + k * 7 + 5, none⟩ = some (.int .i64 x.share) ∧ W.cell? ⟨bb, ob + k * 7 + 6, none⟩ = some (.slice A2 x.on.length c2)) (go_keep) (fail)
              all_goals
               go_wp2_with (go_at_call 33; refine (HI.out _ ((((Below.refl w5.heap.size w5).alloc (Nat.le_refl _) _).alloc (by simp) _).drew)).mono ?_; rintro e w6 ⟨rfl, hb6⟩
                            have HB6 := hide (hS.out.grow (((((Below.refl w5.heap.size w5).alloc (Nat.le_refl _) _).alloc (by simp) _).drew).trans (hb6.mono (by simp; omega))))
                            clear hb6)
               go_roundw
               case rel => exact ⟨k + 1, by omega, by go_num, HB6⟩
               case measure => simp [intOf]; omega
            · have hge : ¬ (k : Int) < (m.iT.length : Int) := by omega
              have HS4_ := hS
              go_wp2_with fail
              clear p q pl ql hS hlt hge hk
              have hl4 := D1.out.ul
              go_loopw [11] (fun i wr => ∃ k : Nat, k ≤ m.uT.length ∧ i = .int .i64 k ∧ Hid (SM w h1 h2 m wr)) (fun i _ => m.uT.length - (intOf i).toNat)
              case atStart => exact ⟨0, Nat.zero_le _, rfl, HS4_⟩
              case round =>
               clear HS4_
               obtain ⟨k, hk, rfl, hS⟩ := hrel
               rename World => w5
               have p := hS.out.x1.cell 10
               have q := hS.out.x2.cell 10
               have pl := hS.out.x1.lt
               have ql := hS.out.x2.lt
               simp at p q
               by_cases hlt : k < m.uT.length
               · obtain ⟨ba, oa, A1, c1, hA, hba, x0, x1, x2, x3, x4, x5, x6, u1, u2, i1⟩ := (D1.out.grow hS.out.b).dU.rule hlt
                 obtain ⟨bb, ob, A2, c2, hB, hbb, y0, y1, y2, y3, y4, y5, y6, _, _, i2⟩ := (D2.out.grow hS.out.b).dU.rule hlt
                 rw [hA] at p
                 rw [hB] at q
                 have hil : m.uT[k].machines.length ≤ 9223372036854775807 := by omega
                 have HI := hide (fun (W : World) (hW : Below w5.heap.size w5 W) => sameRule19 m.uT[k] A1 A2 c1 c2 W (i1.grow hW) (i2.grow hW) hil)
                 obtain ⟨x, hx⟩ : ∃ x, x = m.uT[k] := ⟨_, rfl⟩
                 rw [← hx] at x0 y0 x1 y1 x2 y2 x3 y3 x4 y4 x5 y5 x6 y6
                 simp only [← hx] at HI
                 have hltI : (k : Int) < (m.uT.length : Int) := by omega
                 clear hx hA hB i1 i2 hil u1 u2
                 have HKC := hide (fun (W : World) (hW : Below w5.heap.size w5 W) => (⟨(hW.cell (p := ⟨w.heap.size, 10, none⟩) pl).trans p, (hW.cell (p := ⟨w.heap.size + 1, 10, none⟩) ql).trans q, (hW.cell (p := ⟨ba, oa + k * 7, none⟩) hba).trans x0, (hW.cell (p := ⟨ba, oa + k * 7 + 1, none⟩) hba).trans x1, (hW.cell (p := ⟨ba, oa + k * 7 + 2, none⟩) hba).trans x2, (hW.cell (p := ⟨ba, oa + k * 7 + 3, none⟩) hba).trans x3, (hW.cell (p := ⟨ba, oa + k * 7 + 4, none⟩) hba).trans x4, (hW.cell (p := ⟨ba, oa + k * 7 + 5, none⟩) hba).trans x5, (hW.cell (p := ⟨ba, oa + k * 7 + 6, none⟩) hba).trans x6, (hW.cell (p := ⟨bb, ob + k * 7, none⟩) hbb).trans y0, (hW.cell (p := ⟨bb, ob + k * 7 + 1, none⟩) hbb).trans y1, (hW.cell (p := ⟨bb, ob + k * 7 + 2, none⟩) hbb).trans y2, (hW.cell (p := ⟨bb, ob + k * 7 + 3, none⟩) hbb).trans y3, (hW.cell (p := ⟨bb, ob + k * 7 + 4, none⟩) hbb).trans y4, (hW.cell (p := ⟨bb, ob + k * 7 + 5, none⟩) hbb).trans y5, (hW.cell (p := ⟨bb, ob + k * 7 + 6, none⟩) hbb).trans y6⟩ : W.cell? ⟨w.heap.size, 10, none⟩ = some (.slice (some ⟨ba, oa, none⟩) m.uT.length h1.uc) ∧ W.cell? ⟨w.heap.size + 1, 10, none⟩ = some (.slice (some ⟨bb, ob, none⟩) m.uT.length h2.uc) ∧ W.cell? ⟨ba, oa + k * 7, none⟩ = some (.int .i64 x.kind) ∧ W.cell? ⟨ba, oa + k * 7 + 1, none⟩ = some (.int .i64 x.item) ∧ W.cell? ⟨ba, oa + k * 7 + 2, none⟩ = some (.int .i64 x.other) ∧ W.cell? ⟨ba, oa + k * 7 + 3, none⟩ = some (.int .i64 x.n) ∧ W.cell? ⟨ba, oa + k * 7 + 4, none⟩ = some (.int .i64 x.by_) ∧ W.cell? ⟨ba, oa + k * 7 + 5, none⟩ = some (.bool x.always) ∧ W.cell? ⟨ba, oa + k * 7 + 6, none⟩ = some (.slice A1 x.machines.length c1) ∧ W.cell? ⟨bb, ob + k * 7, none⟩ = some (.int .i64 x.kind) ∧ W.cell? ⟨bb, ob + k * 7 + 1, none⟩ = some (.int .i64 x.item) ∧ W.cell? ⟨bb, ob + k * 7 + 2, none⟩ = some (.int .i64 x.other) ∧ W.cell? ⟨bb, ob + k * 7 + 3, none⟩ = some (.int .i64 x.n) ∧ W.cell? ⟨bb, ob + k * 7 + 4, none⟩ = some (.int .i64 x.by_) ∧ W.cell? ⟨bb, ob + k * 7 + 5, none⟩ = some (.bool x.always) ∧ W.cell? ⟨bb, ob + k * 7 + 6, none⟩ = some (.slice A2 x.machines.length c2)))
                 go_wp2_with fail
                 go_region_held3 (fun W => W.cell? ⟨w.heap.size, 10, none⟩ = some (.slice (some ⟨ba, oa, none⟩) m.uT.length h1.uc) ∧ W.cell? ⟨w.heap.size + 1, 10, none⟩ = some (.slice (some ⟨bb, ob, none⟩) m.uT.length h2.uc) ∧ W.cell? ⟨ba, oa + k * 7, none⟩ = some (.int .i64 x.kind) ∧ W.cell? ⟨ba, oa + k * 7 + 1, none⟩ = some (.int .i64 x.item) ∧ W.cell? ⟨ba, oa + k * 7 + 2, none⟩ = some (.int .i64 x.other) ∧ W.cell? ⟨ba, oa + k * 7 + 3, none⟩ = some (.int .i64 x.n) ∧ W.cell? ⟨ba, oa + k * 7 + 4, none⟩ = some (.int .i64 x.by_) ∧ W.cell? ⟨ba, oa + k * 7 + 5, none⟩ = some (.bool x.always) ∧ W.cell? ⟨ba, oa + k * 7 + 6, none⟩ = some (.slice A1 x.machines.length c1) ∧ W.cell? ⟨bb, ob + k * 7, none⟩ = some (.int .i64 x.kind) ∧ W.cell? ⟨bb, ob + k * 7 + 1, none⟩ = some (.int .i64 x.item) ∧ W.cell? ⟨bb, ob + k * 7 + 2, none⟩ = some (.int .i64 x.other) ∧ W.cell? ⟨bb, ob + k * 7 + 3, none⟩ = some (.int .i64 x.n) ∧ W.cell? ⟨bb, ob + k * 7 + 4, none⟩ = some (.int .i64 x.by_) ∧ W.cell? ⟨bb, ob + k * 7 + 5, none⟩ = some (.bool x.always) ∧ W.cell? ⟨bb, ob + k * 7 + 6, none⟩ = some (.slice A2 x.machines.length c2)) (first | (with_reducible exact HSC.out) | go_keep) ((go_at_call 34; refine (HI.out _ (Below.refl w5.heap.size w5).drew).mono ?_; rintro e w6 ⟨rfl, hb6⟩; have HB6 := hide ((Below.refl w5.heap.size w5).drew.trans hb6); have HSC := hide (HKC.out _ HB6.out)))
                 all_goals
                  go_wp2_with fail
                  go_roundw
                  case rel => exact ⟨k + 1, by omega, by go_num, hide (hS.out.grow HB6.out)⟩
                  case measure => simp [intOf]; omega
               · have hge : ¬ (k : Int) < (m.uT.length : Int) := by omega
                 go_wp2_with fail
                 go_ret
                 exact ⟨rfl, hS.out.b⟩
theorem filter_map_all {α : Type} (f : α → Decl) (s : Int) (l : List α) (h : ∀ x ∈ l, sectI (f x).kind = s) : (l.map f).filter (secB s) = l.map f := by
 rw [List.filter_eq_self]
 intro d hd
 obtain ⟨x, hx, rfl⟩ := List.mem_map.1 hd
 simp [secB, h x hx]
theorem filter_map_none {α : Type} (f : α → Decl) (s : Int) (l : List α) (h : ∀ x ∈ l, sectI (f x).kind ≠ s) : (l.map f).filter (secB s) = [] := by
 rw [List.filter_eq_nil_iff]
 intro d hd
 obtain ⟨x, hx, rfl⟩ := List.mem_map.1 hd
 simp [secB, h x hx]
theorem kind_item {m : Mod} (hv : validM m = true) {x : ItemM} (hx : x ∈ m.iT) : sectI (itemD m x).kind = 5 := by
 have := valid_kind hv hx
 show sectI (5 + x.kind) = 5
 unfold sectI
 rw [if_pos (by omega)]
theorem v_rule {m : Mod} (hv : validM m = true) {x : RuleM} (hx : x ∈ m.uT) : ruleOk m x = true := by
 simp only [validM, Bool.and_eq_true] at hv
 exact List.all_eq_true.1 hv.1.2 x hx
theorem rule_kind {m : Mod} {x : RuleM} (h : ruleOk m x = true) : 0 ≤ x.kind ∧ x.kind ≤ 6 := by
 unfold ruleOk at h
 repeat' (split at h; · omega)
 cases h
theorem kind_rule {m : Mod} (hv : validM m = true) {x : RuleM} (hx : x ∈ m.uT) : sectI (ruleDl m x).kind = 10 := by
 have := rule_kind (v_rule hv hx)
 show sectI (10 + x.kind) = 10
 unfold sectI
 rw [if_neg (by omega), if_pos (by omega)]
theorem fail_sec (m : Mod) (s : Int) : (failD m).filter (secB s) = if s = 9 then failD m else [] := by
 unfold failD
 by_cases h : 0 < m.aT
 · rw [if_pos h]
   by_cases e : s = 9
   · subst e; rfl
   · rw [if_neg e, List.filter_cons_of_neg (by simp only [secB, decide_eq_true_eq]; exact fun h2 => e h2.symm), List.filter_nil]
 · rw [if_neg h]; simp
theorem dark_sec (m : Mod) (s : Int) : [darkD m].filter (secB s) = if s = 8 then [darkD m] else [] := by
 by_cases e : s = 8
 · subst e; rfl
 · rw [if_neg e, List.filter_cons_of_neg (by simp only [secB, decide_eq_true_eq]; exact fun h2 => e h2.symm), List.filter_nil]
def partM (m : Mod) (s : Int) : List Decl :=
 if s = 0 then m.sT.map siteD else if s = 1 then m.fT.map feedD else if s = 2 then m.rT.map (rackD m) else if s = 3 then m.mT.map (machD m) else if s = 4 then m.lT.map (linkD m)
 else if s = 5 then m.iT.map (itemD m) else if s = 8 then [darkD m] else if s = 9 then failD m else if s = 10 then m.uT.map (ruleDl m) else []
theorem decls_sec {m : Mod} (hv : validM m = true) (s : Int) : (declsM m).filter (secB s) = partM m s := by
 have k0 : ∀ x ∈ m.sT, sectI (siteD x).kind = 0 := fun _ _ => rfl
 have k1 : ∀ x ∈ m.fT, sectI (feedD x).kind = 1 := fun _ _ => rfl
 have k2 : ∀ x ∈ m.rT, sectI (rackD m x).kind = 2 := fun _ _ => rfl
 have k3 : ∀ x ∈ m.mT, sectI (machD m x).kind = 3 := fun _ _ => rfl
 have k4 : ∀ x ∈ m.lT, sectI (linkD m x).kind = 4 := fun _ _ => rfl
 have k5 : ∀ x ∈ m.iT, sectI (itemD m x).kind = 5 := fun _ hx => kind_item hv hx
 have k10 : ∀ x ∈ m.uT, sectI (ruleDl m x).kind = 10 := fun _ hx => kind_rule hv hx
 have one : ∀ {α : Type} (f : α → Decl) (l : List α) (c : Int), (∀ x ∈ l, sectI (f x).kind = c) → (l.map f).filter (secB s) = if s = c then l.map f else [] := fun f l c h => by
  by_cases e : s = c
  · rw [if_pos e]; exact filter_map_all f s l (fun x hx => (h x hx).trans e.symm)
  · rw [if_neg e]; exact filter_map_none f s l (fun x hx h2 => e (h2.symm.trans (h x hx)))
 simp only [declsM, dec7, dec6, dec5, dec4, dec3, dec2, dec1, List.filter_append, one _ _ _ k0, one _ _ _ k1, one _ _ _ k2, one _ _ _ k3, one _ _ _ k4, one _ _ _ k5, one _ _ _ k10, fail_sec, dark_sec]
 unfold partM
 by_cases e0 : s = 0
 · subst e0; simp
 by_cases e1 : s = 1
 · subst e1; simp
 by_cases e2 : s = 2
 · subst e2; simp
 by_cases e3 : s = 3
 · subst e3; simp
 by_cases e4 : s = 4
 · subst e4; simp
 by_cases e5 : s = 5
 · subst e5; simp
 by_cases e8 : s = 8
 · subst e8; simp
 by_cases e9 : s = 9
 · subst e9; simp
 by_cases e10 : s = 10
 · subst e10; simp
 simp [e0, e1, e2, e3, e4, e5, e8, e9, e10]
theorem mem_sec {l : List Decl} {m : Mod} (h : ∀ s, l.filter (secB s) = partM m s) {d : Decl} : d ∈ l ↔ d ∈ partM m (sectI d.kind) := by
 rw [← h (sectI d.kind), List.mem_filter]
 simp [secB]
theorem exI_yes2 {n : Int} {l : Nat} (h : exI n l = true) : ∃ a : Nat, a < l ∧ n = (a : Int) + 1 := by
 simp only [exI, Bool.and_eq_true, decide_eq_true_eq] at h
 exact ⟨(n - 1).toNat, by omega, by omega⟩
/-! names -/
theorem names_nodup {m : Mod} (hv : validM m = true) : (nameList m).Nodup ∧ ∀ s ∈ nameList m, isName s = true := by
 simp only [validM, Bool.and_eq_true] at hv
 have hn := soundB_iff.1 hv.1.1.1.2
 refine ⟨?_, fun s hs => ?_⟩
 · rw [List.Nodup, List.pairwise_iff_getElem]
   intro i j hi hj hij e
   have h1 := hn j hj
   simp only [Bool.and_eq_true, Bool.not_eq_true'] at h1
   have h2 : hasS ((nameList m).take j) (nameList m)[j] = true := hasS_iff.2 (by
    rw [← e]
    exact List.mem_iff_getElem.2 ⟨i, by simp; omega, by simp⟩)
   rw [h1.2] at h2
   cases h2
 · obtain ⟨i, hi, rfl⟩ := List.getElem_of_mem hs
   have h1 := hn i hi
   simp only [Bool.and_eq_true] at h1
   exact h1.1
theorem isName_ne {s : ByteArray} (h : isName s = true) : s ≠ ⟨#[]⟩ := by
 rintro rfl
 exact absurd h (by decide)
def partN (m : Mod) (s : Int) : List ByteArray :=
 if s = 0 then m.sT else if s = 1 then m.fT else if s = 2 then m.rT.map (·.name) else if s = 3 then m.mT.map (·.name) else if s = 5 then m.iT.map (·.name) else []
theorem part_name {m : Mod} {s : Int} {d : Decl} (h : d ∈ partM m s) : d.name ∈ partN m s ∨ d.name = ⟨#[]⟩ := by
 unfold partM at h
 unfold partN
 split at h
 · rename_i e; simp only [e, if_true] at *; obtain ⟨x, hx, rfl⟩ := List.mem_map.1 h; exact .inl hx
 split at h
 · rename_i e; subst e; obtain ⟨x, hx, rfl⟩ := List.mem_map.1 h; exact .inl hx
 split at h
 · rename_i e; subst e; obtain ⟨x, hx, rfl⟩ := List.mem_map.1 h; exact .inl (List.mem_map.2 ⟨x, hx, rfl⟩)
 split at h
 · rename_i e; subst e; obtain ⟨x, hx, rfl⟩ := List.mem_map.1 h; exact .inl (List.mem_map.2 ⟨x, hx, rfl⟩)
 split at h
 · obtain ⟨x, hx, rfl⟩ := List.mem_map.1 h; exact .inr rfl
 split at h
 · rename_i e; subst e; obtain ⟨x, hx, rfl⟩ := List.mem_map.1 h; exact .inl (List.mem_map.2 ⟨x, hx, rfl⟩)
 split at h
 · obtain rfl := List.mem_singleton.1 h; exact .inr rfl
 split at h
 · unfold failD at h
   split at h
   · obtain rfl := List.mem_singleton.1 h; exact .inr rfl
   · cases h
 split at h
 · obtain ⟨x, hx, rfl⟩ := List.mem_map.1 h; exact .inr rfl
 · cases h
theorem part_sub {m : Mod} {s : Int} {n : ByteArray} (h : n ∈ partN m s) : n ∈ nameList m := by
 unfold partN at h
 simp only [nameList, List.mem_append]
 repeat' (split at h; · simp [h])
 cases h
theorem part_one {m : Mod} (hv : validM m = true) {s t : Int} {n : ByteArray} (h1 : n ∈ partN m s) (h2 : n ∈ partN m t) : s = t := by
 have hd := (names_nodup hv).1
 simp only [nameList, List.nodup_append, List.mem_append] at hd
 obtain ⟨⟨⟨⟨a, b, c⟩, d, e⟩, f, g⟩, h, i⟩ := hd
 unfold partN at h1 h2
 repeat' (first | (split at h1) | (split at h2))
 all_goals first
  | omega
  | (cases h1; done)
  | (cases h2; done)
  | (exfalso; first
      | exact c n h1 n h2 rfl
      | exact c n h2 n h1 rfl
      | exact e n (by first | exact .inr h1 | exact .inl h1 | exact .inl (.inr h1) | exact .inl (.inl h1) | exact .inl (.inl (.inr h1)) | exact .inl (.inl (.inl h1))) n h2 rfl
      | exact e n (by first | exact .inr h2 | exact .inl h2 | exact .inl (.inr h2) | exact .inl (.inl h2) | exact .inl (.inl (.inr h2)) | exact .inl (.inl (.inl h2))) n h1 rfl
      | exact g n (by first | exact .inr h1 | exact .inl h1 | exact .inl (.inr h1) | exact .inl (.inl h1) | exact .inl (.inl (.inr h1)) | exact .inl (.inl (.inl h1))) n h2 rfl
      | exact g n (by first | exact .inr h2 | exact .inl h2 | exact .inl (.inr h2) | exact .inl (.inl h2) | exact .inl (.inl (.inr h2)) | exact .inl (.inl (.inl h2))) n h1 rfl
      | exact i n (by first | exact .inr h1 | exact .inl h1 | exact .inl (.inr h1) | exact .inl (.inl h1) | exact .inl (.inl (.inr h1)) | exact .inl (.inl (.inl h1))) n h2 rfl
      | exact i n (by first | exact .inr h2 | exact .inl h2 | exact .inl (.inr h2) | exact .inl (.inl h2) | exact .inl (.inl (.inr h2)) | exact .inl (.inl (.inl h2))) n h1 rfl)
theorem partN_nodup {m : Mod} (hv : validM m = true) (s : Int) : (partN m s).Nodup := by
 have hd := (names_nodup hv).1
 simp only [nameList, List.nodup_append, List.mem_append] at hd
 obtain ⟨⟨⟨⟨a, b, c⟩, d, e⟩, f, g⟩, h, i⟩ := hd
 unfold partN
 repeat' split
 all_goals first | assumption | exact List.nodup_nil
theorem part_names {m : Mod} {s : Int} {d : Decl} (h : d ∈ partM m s) (hn : d.name ≠ ⟨#[]⟩) : (partM m s).map (·.name) = partN m s := by
 have h2 := h
 unfold partM at h ⊢
 unfold partN
 split at h
 · rename_i e; subst e; rw [if_pos rfl, List.map_map]; exact List.map_id _
 split at h
 · rename_i e; subst e; rw [if_neg (by decide), if_pos rfl, List.map_map]; exact List.map_id _
 split at h
 · rename_i e; subst e; simp [rackD]
 split at h
 · rename_i e; subst e; simp [machD]
 split at h
 · obtain ⟨x, hx, rfl⟩ := List.mem_map.1 h; exact absurd rfl hn
 split at h
 · rename_i e; subst e; simp [itemD]
 split at h
 · obtain rfl := List.mem_singleton.1 h; exact absurd rfl hn
 split at h
 · unfold failD at h
   split at h
   · obtain rfl := List.mem_singleton.1 h; exact absurd rfl hn
   · cases h
 split at h
 · obtain ⟨x, hx, rfl⟩ := List.mem_map.1 h; exact absurd rfl hn
 · cases h
theorem sec_find {l : List Decl} {m : Mod} (h : ∀ s, l.filter (secB s) = partM m s) (hv : validM m = true) {s : Int} {q : Nat} (hq : q < (partM m s).length) (hn : (partM m s)[q].name ≠ ⟨#[]⟩) : findD l (partM m s)[q].name = some ((partM m s)[q].kind, (q : Int) + 1) := by
 have hmem := List.getElem_mem hq
 have hN := part_names hmem hn
 have hin : (partM m s)[q].name ∈ partN m s := (part_name hmem).resolve_right hn
 refine findD_sec (h s) hq (fun e he hen => ?_) (fun j hj hjq => ?_)
 · have h1 := (mem_sec h).1 he
   rcases part_name h1 with h2 | h2
   · rw [hen] at h2; exact part_one hv h2 hin
   · exact absurd (hen.symm.trans h2) hn
 · have hnd := partN_nodup hv s
   rw [← hN, List.Nodup, List.pairwise_iff_getElem] at hnd
   exact hnd j q (by simp; omega) (by simpa using hq) hj (by simpa using hjq)
section
variable {l : List Decl} {m : Mod} (h : ∀ s, l.filter (secB s) = partM m s) (hv : validM m = true)
include h hv
theorem find_site {q : Nat} (hq : q < m.sT.length) : findD l m.sT[q] = some (0, (q : Int) + 1) := by
 have hn := isName_ne ((names_nodup hv).2 m.sT[q] (part_sub (s := 0) (by show m.sT[q] ∈ m.sT; exact List.getElem_mem hq)))
 have := sec_find h hv (s := 0) (q := q) (by simpa [partM] using hq) (by simpa [partM, siteD] using hn)
 simpa [partM, siteD] using this
theorem find_feed {q : Nat} (hq : q < m.fT.length) : findD l m.fT[q] = some (1, (q : Int) + 1) := by
 have hn := isName_ne ((names_nodup hv).2 m.fT[q] (part_sub (s := 1) (by show m.fT[q] ∈ m.fT; exact List.getElem_mem hq)))
 have := sec_find h hv (s := 1) (q := q) (by simpa [partM] using hq) (by simpa [partM, feedD] using hn)
 simpa [partM, feedD] using this
theorem find_rack {q : Nat} (hq : q < m.rT.length) : findD l m.rT[q].name = some (2, (q : Int) + 1) := by
 have hn := isName_ne ((names_nodup hv).2 m.rT[q].name (part_sub (s := 2) (by show _ ∈ m.rT.map _; exact List.mem_map.2 ⟨_, List.getElem_mem hq, rfl⟩)))
 have := sec_find h hv (s := 2) (q := q) (by simpa [partM] using hq) (by simpa [partM, rackD] using hn)
 simpa [partM, rackD] using this
theorem find_mach {q : Nat} (hq : q < m.mT.length) : findD l m.mT[q].name = some (3, (q : Int) + 1) := by
 have hn := isName_ne ((names_nodup hv).2 m.mT[q].name (part_sub (s := 3) (by show _ ∈ m.mT.map _; exact List.mem_map.2 ⟨_, List.getElem_mem hq, rfl⟩)))
 have := sec_find h hv (s := 3) (q := q) (by simpa [partM] using hq) (by simpa [partM, machD] using hn)
 simpa [partM, machD] using this
theorem find_item {q : Nat} (hq : q < m.iT.length) : findD l m.iT[q].name = some (5 + m.iT[q].kind, (q : Int) + 1) := by
 have hn := isName_ne ((names_nodup hv).2 m.iT[q].name (part_sub (s := 5) (by show _ ∈ m.iT.map _; exact List.mem_map.2 ⟨_, List.getElem_mem hq, rfl⟩)))
 have := sec_find h hv (s := 5) (q := q) (by simpa [partM] using hq) (by simpa [partM, itemD] using hn)
 simpa [partM, itemD] using this
theorem f_site {n : Int} (hn : exI n m.sT.length = true) : findD l (siteN m n) = some (0, n) := by
 obtain ⟨a, ha, rfl⟩ := exI_yes2 hn
 rw [siteN_is m ha]; exact find_site h hv ha
theorem f_feed {n : Int} (hn : exI n m.fT.length = true) : findD l (feedN m n) = some (1, n) := by
 obtain ⟨a, ha, rfl⟩ := exI_yes2 hn
 rw [feedN_is m ha]; exact find_feed h hv ha
theorem f_rack {n : Int} (hn : exI n m.rT.length = true) : findD l (rackN m n) = some (2, n) := by
 obtain ⟨a, ha, rfl⟩ := exI_yes2 hn
 rw [rackN_is m ha]; exact find_rack h hv ha
theorem f_mach {n : Int} (hn : exI n m.mT.length = true) : findD l (mchN m n) = some (3, n) := by
 obtain ⟨a, ha, rfl⟩ := exI_yes2 hn
 rw [mchN_is m ha]; exact find_mach h hv ha
theorem f_item {n : Int} (hn : exI n m.iT.length = true) : ∃ k, 0 ≤ k ∧ k ≤ 2 ∧ findD l (itN m n) = some (5 + k, n) ∧ (m.iT[(n - 1).toNat]?).map (·.kind) = some k := by
 obtain ⟨a, ha, rfl⟩ := exI_yes2 hn
 have hk := valid_kind hv (List.getElem_mem ha)
 refine ⟨m.iT[a].kind, by omega, by omega, ?_, ?_⟩
 · rw [itN_is m ha]; exact find_item h hv ha
 · rw [show ((a : Int) + 1 - 1).toNat = a by omega, List.getElem?_eq_getElem ha]; rfl
end
end Go.Proofs.YtcfogipaadhbeaaGreatDoor
