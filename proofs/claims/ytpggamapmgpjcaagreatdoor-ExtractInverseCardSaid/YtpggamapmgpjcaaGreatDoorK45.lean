/- The walk of exodusref27.Plan. Conditions: lengths that fit memory. The walk of exodusref14.Few: it answers, and only adds memory. Conditions: lengths that fit memory. -/
import Derived.Test.YtpggamapmgpjcaaGreatDoorK42
import Derived.Test.YtpggamapmgpjcaaGreatDoorK44
import Derived.Test.YtpggamapmgpjcaaGreatDoorK37
import Derived.Test.YtpggamapmgpjcaaGreatDoorK05

namespace Go.Proofs.YtpggamapmgpjcaaGreatDoor
open Go Go.RowKit Go.Proofs

set_option maxRecDepth 100000 in
set_option maxHeartbeats 4000000 in
theorem rplan_no (h : MH) (m : Mod) (Ax : Option Addr) (nx cx : Nat) (w : World) (d : MD w w.heap.size h m) (hc : (choR m).2 ≠ 0) :
    Calls Tryz.prog 10 #[.agg #[.slice h.s m.sites.length h.sc, .slice h.f m.feeds.length h.fc, .slice h.r m.racks.length h.rc, .slice h.m m.machs.length h.mc, .slice h.l m.links.length h.lc, .slice h.i m.items.length h.ic, .int .i64 m.dark, .int .i64 m.slots, .int .i64 m.reserve, .int .i64 m.failures, .slice h.u m.rules.length h.uc], .slice Ax nx cx] w (XPlan w [] (choR m).2) := by
  have hb := ((Below.refl w.heap.size w).alloc (Nat.le_refl _) (.cells #[.slice h.s m.sites.length h.sc, .slice h.f m.feeds.length h.fc, .slice h.r m.racks.length h.rc, .slice h.m m.machs.length h.mc, .slice h.l m.links.length h.lc, .slice h.i m.items.length h.ic, .int .i64 m.dark, .int .i64 m.slots, .int .i64 m.reserve, .int .i64 m.failures, .slice h.u m.rules.length h.uc] 29)).alloc (by simp) (.cells #[.slice none 0 0] 35)
  have HB := hide hb
  have HST := hide (steps_ref h m _ (d.grow hb))
  have HP0 := hide (show Blk ((w.alloc (.cells #[.slice h.s m.sites.length h.sc, .slice h.f m.feeds.length h.fc, .slice h.r m.racks.length h.rc, .slice h.m m.machs.length h.mc, .slice h.l m.links.length h.lc, .slice h.i m.items.length h.ic, .int .i64 m.dark, .int .i64 m.slots, .int .i64 m.reserve, .int .i64 m.failures, .slice h.u m.rules.length h.uc] 29)).alloc (.cells #[.slice none 0 0] 35)) (w.heap.size + 1) 35 #[.slice none 0 0] from by simpa using Blk.new (w.alloc (.cells #[.slice h.s m.sites.length h.sc, .slice h.f m.feeds.length h.fc, .slice h.r m.racks.length h.rc, .slice h.m m.machs.length h.mc, .slice h.l m.links.length h.lc, .slice h.i m.items.length h.ic, .int .i64 m.dark, .int .i64 m.slots, .int .i64 m.reserve, .int .i64 m.failures, .slice h.u m.rules.length h.uc] 29)) 35 #[.slice none 0 0])
  rw [show stepsR m = ([], (choR m).2) by rw [stepsR, if_pos hc]] at HST
  obtain ⟨q, hq⟩ : ∃ q, q = (choR m).2 := ⟨_, rfl⟩
  rw [← hq] at HST hc ⊢
  have g : (q != 0) = true := by simpa using hc
  clear hb d hc hq
  go_enter Tryz.func10, Tryz.ntmps10
  go_wp2_with (go_at_call 22; refine HST.out.mono ?_; rintro e w1 ⟨A, c, rfl, _, hb1⟩
               have hP := HP0.out.below hb1 HP0.out.lt
               have p0 := hP.cell 0
               have f0 := hP.frozen 0
               have l0 := hP.lt
               simp at p0
               have HP := hide hP
               have HB1 := hide (HB.out.trans (hb1.mono HB.out.size))
               clear hb1 hP)
  refine bodyPost_ret (ret_plan rfl _ _ (w.heap.size + 1) (.slice none 0 0) rfl (Blk.set_ HP.out 0 _)) rfl ?_
  exact ⟨none, 0, rfl, RdE.nil_, HB1.out.trans ((But.set_ (B := w.heap.size + 1) w1 0 _).below (Nat.le_refl _) |>.mono (Nat.le_succ _))⟩
set_option maxRecDepth 100000 in
set_option maxHeartbeats 4000000 in
theorem rplan_len (h : MH) (m : Mod) (Ax : Option Addr) (x : List Int) (cx : Nat) (w : World) (d : MD w w.heap.size h m) (hc : (choR m).2 = 0) (hl : x.length ≠ (stepsM m).length) :
    Calls Tryz.prog 10 #[.agg #[.slice h.s m.sites.length h.sc, .slice h.f m.feeds.length h.fc, .slice h.r m.racks.length h.rc, .slice h.m m.machs.length h.mc, .slice h.l m.links.length h.lc, .slice h.i m.items.length h.ic, .int .i64 m.dark, .int .i64 m.slots, .int .i64 m.reserve, .int .i64 m.failures, .slice h.u m.rules.length h.uc], .slice Ax x.length cx] w (XPlan w [] 1) := by
  have hb := ((Below.refl w.heap.size w).alloc (Nat.le_refl _) (.cells #[.slice h.s m.sites.length h.sc, .slice h.f m.feeds.length h.fc, .slice h.r m.racks.length h.rc, .slice h.m m.machs.length h.mc, .slice h.l m.links.length h.lc, .slice h.i m.items.length h.ic, .int .i64 m.dark, .int .i64 m.slots, .int .i64 m.reserve, .int .i64 m.failures, .slice h.u m.rules.length h.uc] 29)).alloc (by simp) (.cells #[.slice none 0 0] 35)
  have HB := hide hb
  have hst := steps_ref h m _ (d.grow hb)
  have HP0 := hide (show Blk ((w.alloc (.cells #[.slice h.s m.sites.length h.sc, .slice h.f m.feeds.length h.fc, .slice h.r m.racks.length h.rc, .slice h.m m.machs.length h.mc, .slice h.l m.links.length h.lc, .slice h.i m.items.length h.ic, .int .i64 m.dark, .int .i64 m.slots, .int .i64 m.reserve, .int .i64 m.failures, .slice h.u m.rules.length h.uc] 29)).alloc (.cells #[.slice none 0 0] 35)) (w.heap.size + 1) 35 #[.slice none 0 0] from by simpa using Blk.new (w.alloc (.cells #[.slice h.s m.sites.length h.sc, .slice h.f m.feeds.length h.fc, .slice h.r m.racks.length h.rc, .slice h.m m.machs.length h.mc, .slice h.l m.links.length h.lc, .slice h.i m.items.length h.ic, .int .i64 m.dark, .int .i64 m.slots, .int .i64 m.reserve, .int .i64 m.failures, .slice h.u m.rules.length h.uc] 29)) 35 #[.slice none 0 0])
  rw [show stepsR m = (stepsM m, 0) by rw [stepsR, if_neg (by simpa using hc)]] at hst
  have HST := hide hst
  dsimp only at HST
  obtain ⟨n, hn⟩ : ∃ n, n = (stepsM m).length := ⟨_, rfl⟩
  rw [← hn] at hl
  have HN := hide hn
  have g : ((x.length : Int) != (n : Int)) = true := by simp; omega
  clear hb d hc hst hn
  go_enter Tryz.func10, Tryz.ntmps10
  go_wp2_with (go_at_call 22; refine HST.out.mono ?_; rintro e w1 ⟨A, c, rfl, _, hb1⟩
               have hP := HP0.out.below hb1 HP0.out.lt
               have p0 := hP.cell 0
               have f0 := hP.frozen 0
               have l0 := hP.lt
               simp at p0
               have HP := hide hP
               have HB1 := hide (HB.out.trans (hb1.mono HB.out.size))
               rw [← HN.out]
               clear hb1 hP)
  refine bodyPost_ret (ret_plan rfl _ _ (w.heap.size + 1) (.slice none 0 0) rfl (Blk.set_ HP.out 0 _)) rfl ?_
  exact ⟨none, 0, rfl, RdE.nil_, HB1.out.trans ((But.set_ (B := w.heap.size + 1) w1 0 _).below (Nat.le_refl _) |>.mono (Nat.le_succ _))⟩
set_option maxRecDepth 100000 in
set_option maxHeartbeats 8000000 in
theorem rplan_yes (h : MH) (m : Mod) (Ax : Option Addr) (x : List Int) (cx : Nat) (w : World) (d : MD w w.heap.size h m) (hx : Ints w w.heap.size Ax x) (hc : (choR m).2 = 0) (hl : x.length = (stepsM m).length) :
    Calls Tryz.prog 10 #[.agg #[.slice h.s m.sites.length h.sc, .slice h.f m.feeds.length h.fc, .slice h.r m.racks.length h.rc, .slice h.m m.machs.length h.mc, .slice h.l m.links.length h.lc, .slice h.i m.items.length h.ic, .int .i64 m.dark, .int .i64 m.slots, .int .i64 m.reserve, .int .i64 m.failures, .slice h.u m.rules.length h.uc], .slice Ax x.length cx] w (XPlan w (planA (stepsM m) x).1 (planA (stepsM m) x).2) := by
  have hb := ((Below.refl w.heap.size w).alloc (Nat.le_refl _) (.cells #[.slice h.s m.sites.length h.sc, .slice h.f m.feeds.length h.fc, .slice h.r m.racks.length h.rc, .slice h.m m.machs.length h.mc, .slice h.l m.links.length h.lc, .slice h.i m.items.length h.ic, .int .i64 m.dark, .int .i64 m.slots, .int .i64 m.reserve, .int .i64 m.failures, .slice h.u m.rules.length h.uc] 29)).alloc (by simp) (.cells #[.slice none 0 0] 35)
  have HB := hide hb
  have hst := steps_ref h m _ (d.grow hb)
  have HP0 := hide (show Blk ((w.alloc (.cells #[.slice h.s m.sites.length h.sc, .slice h.f m.feeds.length h.fc, .slice h.r m.racks.length h.rc, .slice h.m m.machs.length h.mc, .slice h.l m.links.length h.lc, .slice h.i m.items.length h.ic, .int .i64 m.dark, .int .i64 m.slots, .int .i64 m.reserve, .int .i64 m.failures, .slice h.u m.rules.length h.uc] 29)).alloc (.cells #[.slice none 0 0] 35)) (w.heap.size + 1) 35 #[.slice none 0 0] from by simpa using Blk.new (w.alloc (.cells #[.slice h.s m.sites.length h.sc, .slice h.f m.feeds.length h.fc, .slice h.r m.racks.length h.rc, .slice h.m m.machs.length h.mc, .slice h.l m.links.length h.lc, .slice h.i m.items.length h.ic, .int .i64 m.dark, .int .i64 m.slots, .int .i64 m.reserve, .int .i64 m.failures, .slice h.u m.rules.length h.uc] 29)) 35 #[.slice none 0 0])
  rw [show stepsR m = (stepsM m, 0) by rw [stepsR, if_neg (by simpa using hc)]] at hst
  have HST := hide hst
  dsimp only at HST
  obtain ⟨hv, _, _⟩ := choR_ok hc
  have hsl := steps_len hv
  obtain ⟨L, hL⟩ : ∃ L, L = stepsM m := ⟨_, rfl⟩
  rw [← hL] at HST hl hsl ⊢
  have HL := hide hl
  have hn : x.length ≤ 48000 := by omega
  have HX := hide hx
  have HPA := hide (show planA L x = if badX x then ([], 2) else (normM (pickM L x), 0) by rw [planA, if_neg (by simpa using hl)])
  clear hb d hc hst hv hsl hL hx hl
  go_enter Tryz.func10, Tryz.ntmps10
  go_wp2_with (go_at_call 22; refine HST.out.mono ?_; rintro e w1 ⟨A, c, rfl, hrd, hb1⟩
               have HP := hide (HP0.out.below hb1 HP0.out.lt)
               have HB1 := hide (HB.out.trans (hb1.mono HB.out.size))
               have HRD := hide hrd
               rw [← HL.out]
               clear hb1 hrd)
  have HO0 := hide (OwnE_.empty (E := elSt) (B := w1.heap.size) w1 (Nat.le_refl _))
  have HB0 := hide ((Below.refl w1.heap.size w1).alloc (Nat.le_refl _) (.cells #[] 53))
  go_loopw [8, 9] (fun v i wr => ∃ k : Nat, k ≤ x.length ∧ i = .int .i64 k ∧ Hid (badX (x.take k) = false) ∧ Hid (OwnE_ elSt w1.heap.size wr v (pickM (L.take k) (x.take k))) ∧ Hid (Below w1.heap.size w1 wr)) (fun _ i _ => x.length - (intOf i).toNat)
  case atStart => exact ⟨0, Nat.zero_le _, rfl, hide rfl, HO0, HB0⟩
  case round =>
    obtain ⟨k, hk, rfl, hbad, hO, hbr⟩ := hrel
    clear HO0 HB0
    by_cases hlt : k < x.length
    · obtain ⟨b, o, hA, hbl, a0⟩ := int_at (HX.out.below (HB1.out.trans (hbr.out.mono HB1.out.size))) hlt
      have hbl := Nat.lt_of_lt_of_le hbl (HB1.out.trans (hbr.out.mono HB1.out.size)).size
      have hkL : k < L.length := by rw [← HL.out]; exact hlt
      obtain ⟨b2, o2, hA2, hbl2, y0, y1, y2, y3⟩ := rd_st (RdE.grow HRD.out hbr.out) hkL
      obtain ⟨v, hv⟩ : ∃ v, v = x[k] := ⟨_, rfl⟩
      obtain ⟨s, hs⟩ : ∃ s, s = L[k] := ⟨_, rfl⟩
      have hbs := badX_snoc hlt
      have hps := pickM_snoc hkL hlt
      rw [← hv] at a0 hbs hps
      rw [← hs] at y0 y1 y2 y3 hps
      rw [hbad.out] at hbs
      have hltI : (k : Int) < (x.length : Int) := by omega
      have HAT := hide (fun (g0 : v ≠ 0) (g1 : v ≠ 1) => badX_at hlt (by rw [← hv]; exact g0) (by rw [← hv]; exact g1))
      clear hv hs hkL
      subst hA hA2
      by_cases g0 : v = 0
      · subst g0
        have HBS := hide (show badX (x.take (k + 1)) = false by rw [hbs]; simp)
        have HPS := hide (show pickM (L.take (k + 1)) (x.take (k + 1)) = pickM (L.take k) (x.take k) by rw [hps, if_neg (by decide), List.append_nil])
        clear hbs hps
        go_wp2_with fail
        go_roundw
        case rel => exact ⟨k + 1, by omega, by go_num, HBS, hide (by rw [HPS.out]; exact hO.out), hbr⟩
        case measure => simp [intOf]; omega
      · by_cases g1 : v = 1
        · have HBS := hide (show badX (x.take (k + 1)) = false by rw [hbs]; simp [g1])
          have HPS := hide (show pickM (L.take (k + 1)) (x.take (k + 1)) = pickM (L.take k) (x.take k) ++ [s] by rw [hps, if_pos g1])
          obtain ⟨ll, hll⟩ : ∃ ll, ll = pickM (L.take k) (x.take k) := ⟨_, rfl⟩
          have HLL := hide (show ll.length ≤ 48000 by rw [hll]; have := pickM_len (L.take k) (x.take k); have := HL.out; simp at this ⊢; have h2 := List.length_take_le k L; omega)
          rw [← hll] at hO HPS
          obtain ⟨A3, c3, e3, _⟩ := hO.out.form
          have HE3 := hide e3
          clear hbs hps hll HAT e3
          subst g1
          have hO2 := hO.out
          rw [HE3.out] at hO2
          have HO2 := hide hO2
          clear hO2
          go_wp2_with (at_builtin; refine append_el okSt rfl _ _ rfl w1.heap.size u8 ll rfl (hO.out.below ((Below.refl _ _).alloc (Nat.le_refl _) _)) _ _ 1 1 [s] rfl (Reads.newE2 (E := elSt) _ s rfl) rfl (by have := HLL.out; simp; omega) (by have := hbr.out.size; simp; omega) ?_
                       intro v3 w3 ho3 hg3 _
                       have HO3 := hide ho3
                       have HB3 := hide (Below.ofGrown (hbr.out.alloc hbr.out.size (.cells (elSt.f s).toArray elSt.T)) hg3 (by have := hbr.out.size; simp; omega) (fun k hk => (hO.out.lt k hk).1))
                       clear ho3 hg3)
          go_roundw
          case rel => exact ⟨k + 1, by omega, by go_num, HBS, hide (by rw [HPS.out]; exact HO3.out), HB3⟩
          case measure => simp [intOf]; omega
        · have HBS := hide (HAT.out g0 g1)
          have g2 : (v != 0) = true := by simpa using g0
          have g3 : (v != 1) = true := by simpa using g1
          clear hbs hps
          have hP := HP.out.below hbr.out HP.out.lt
          have p0 := hP.cell 0
          have f0 := hP.frozen 0
          have l0 := hP.lt
          simp at p0
          have HP2 := hide hP
          clear hP
          go_wp2_with fail
          refine bodyPost_ret (ret_plan rfl _ _ (w.heap.size + 1) (.slice none 0 0) rfl (Blk.set_ HP2.out 0 _)) rfl ?_
          rw [HPA.out, if_pos HBS.out]
          exact ⟨none, 0, rfl, RdE.nil_, (HB1.out.trans (hbr.out.mono HB1.out.size)).trans ((But.set_ (B := w.heap.size + 1) wr 0 _).below (Nat.le_refl _) |>.mono (Nat.le_succ _))⟩
    · obtain rfl : k = x.length := by omega
      have hO2 := hO.out
      have hb2 := hbad.out
      rw [List.take_of_length_le (by rw [← HL.out]; exact Nat.le_refl _), List.take_of_length_le (Nat.le_refl _)] at hO2
      rw [List.take_of_length_le (Nat.le_refl _)] at hb2
      obtain ⟨A3, c3, e3, hrd3⟩ := hO2.rd
      have HNP := hide (rnormal_ref (pickM L x) A3 c3 wr (by have := pickM_len L x; have := HL.out; omega) hrd3)
      have HBD := hide hb2
      have HP2 := hide (HP.out.below hbr.out HP.out.lt)
      have HB2 := hide (HB1.out.trans (hbr.out.mono HB1.out.size))
      have HPL := hide HP.out.lt
      clear hO2 hb2 hrd3 hbr hO hbad
      subst e3
      go_wp2_with (go_at_call 23; refine HNP.out.mono ?_; rintro e w4 ⟨A4, c4, rfl, hrd4, hga, hb4⟩
                   have hP := HP2.out.below hb4 HP2.out.lt
                   have p0 := hP.cell 0
                   have f0 := hP.frozen 0
                   have l0 := hP.lt
                   simp at p0
                   have HP4 := hide hP
                   have HB4 := hide (HB2.out.trans (hb4.mono HB2.out.size))
                   have HRD4 := hide hrd4
                   have HGA := hide hga
                   clear hP hb4 hrd4 hga)
      refine bodyPost_ret (ret_plan rfl _ _ (w.heap.size + 1) (.slice A4 (normM (pickM L x)).length c4) rfl (Blk.set_ HP4.out 0 _)) rfl ?_
      rw [HPA.out, if_neg (by rw [HBD.out]; decide)]
      exact ⟨A4, c4, rfl, RdE.set_ HRD4.out (fun ad e => by have := HGA.out ad e; have h2 := HP2.out.lt; omega) _ _, HB4.out.trans ((But.set_ (B := w.heap.size + 1) w4 0 _).below (Nat.le_refl _) |>.mono (Nat.le_succ _))⟩
theorem rplan_ref (h : MH) (m : Mod) (Ax : Option Addr) (x : List Int) (cx : Nat) (w : World) (d : MD w w.heap.size h m) (hx : Ints w w.heap.size Ax x) :
    Calls Tryz.prog 10 #[.agg #[.slice h.s m.sites.length h.sc, .slice h.f m.feeds.length h.fc, .slice h.r m.racks.length h.rc, .slice h.m m.machs.length h.mc, .slice h.l m.links.length h.lc, .slice h.i m.items.length h.ic, .int .i64 m.dark, .int .i64 m.slots, .int .i64 m.reserve, .int .i64 m.failures, .slice h.u m.rules.length h.uc], .slice Ax x.length cx] w (XPlan w (xplanR m x).1 (xplanR m x).2) := by
  unfold xplanR
  by_cases hc : (choR m).2 = 0
  · rw [if_neg (by simpa using hc)]
    by_cases hl : x.length = (stepsM m).length
    · exact rplan_yes h m Ax x cx w d hx hc hl
    · rw [planA, if_pos hl]
      exact rplan_len h m Ax x cx w d hc hl
  · rw [if_pos hc]
    exact rplan_no h m Ax x.length cx w d hc
end Go.Proofs.YtpggamapmgpjcaaGreatDoor

namespace Go.Proofs.YtpggamapmgpjcaaGreatDoor
open Go Go.RowKit Go.Proofs

/-- what Few says of a model's lists -/
structure FewL (m : Mod) : Prop where
  ls : m.sites.length ≤ 24
  lf : m.feeds.length ≤ 24
  lr : m.racks.length ≤ 24
  lm : m.machs.length ≤ 24
  li : m.items.length ≤ 24
  lu : m.rules.length ≤ 48
def FewB (m : Mod) (w : World) (e : Ending) (w' : World) : Prop := (∃ b : Bool, e = .returned (.bool b) ∧ (b = true → FewL m)) ∧ Below w.heap.size w w'
def SomeB (w : World) (e : Ending) (w' : World) : Prop := (∃ b, e = .returned (.bool b)) ∧ Below w.heap.size w w'
set_option maxRecDepth 100000 in
set_option maxHeartbeats 8000000 in
theorem few22_ref (h : MH) (m : Mod) (w : World) (d : MD w w.heap.size h m) :
    Calls Tryz.prog 36 #[.agg #[.slice h.s m.sites.length h.sc, .slice h.f m.feeds.length h.fc, .slice h.r m.racks.length h.rc, .slice h.m m.machs.length h.mc, .slice h.l m.links.length h.lc, .slice h.i m.items.length h.ic, .int .i64 m.dark, .int .i64 m.slots, .int .i64 m.reserve, .int .i64 m.failures, .slice h.u m.rules.length h.uc]] w (FewB m w) := by
  have l0 := d.sl
  have l1 := d.fl
  have l2 := d.rl
  have l3 := d.ml
  have l5 := d.il
  have l6 := d.ul
  have D := hide d; clear d
  by_cases hbad : 24 < m.sites.length ∨ 24 < m.feeds.length ∨ 24 < m.racks.length ∨ 24 < m.machs.length ∨ 24 < m.links.length ∨ 24 < m.items.length ∨ 48 < m.rules.length
  · clear l0 l1 l2 l3 l5 l6 D
    rcases hbad with q | q | q | q | q | q | q
    all_goals
      go_enter Tryz.func36, Tryz.ntmps36
      go_wp2_with fail
      all_goals
        go_ret
        exact ⟨⟨false, rfl, fun e => absurd e (by simp)⟩, (Below.refl _ _).alloc (Nat.le_refl _) _⟩
  · obtain ⟨q0, q1, q2, q3, q4, q5, q6⟩ : ¬ 24 < m.sites.length ∧ ¬ 24 < m.feeds.length ∧ ¬ 24 < m.racks.length ∧ ¬ 24 < m.machs.length ∧ ¬ 24 < m.links.length ∧ ¬ 24 < m.items.length ∧ ¬ 48 < m.rules.length := by omega
    have HQ := hide (show FewL m from ⟨by omega, by omega, by omega, by omega, by omega, by omega⟩)
    clear hbad
    go_enter Tryz.func36, Tryz.ntmps36
    go_wp2_with fail
    clear q0 q1 q2 q3 q4 q5 q6
    go_loopw [3, 4] (fun v i wr => ∃ (k : Nat) (n : Int), k ≤ m.sites.length ∧ i = .int .i64 k ∧ v = .int .i64 n ∧ Hid (MW w w.heap.size wr h m)) (fun _ i _ => m.sites.length - (intOf i).toNat)
    case atStart => exact ⟨0, _, Nat.zero_le _, rfl, rfl, MW.start w h m⟩
    case round =>
      obtain ⟨k, n, hk, rfl, rfl, hW⟩ := hrel
      obtain ⟨a0, a1, a2, a3, a4, a5, a6, a7, a8, a9, a10⟩ := MB.cells hW.out.blk
      have hL1 := hW.out.lt
      clear a1 a2 a3 a4 a5 a6 a7 a8 a9 a10
      by_cases hlt : k < m.sites.length
      · obtain ⟨b, off, hA, hb, x0⟩ := str_at (hW.out.md D.out).dS hlt
        rw [hA] at a0
        clear hA
        have hsz : m.sites[k].size ≤ 9223372036854775807 := D.out.sf _ (List.getElem_mem _)
        go_wp2_with fail
        all_goals
          go_roundw
          case rel => exact ⟨k + 1, _, by omega, by go_num, rfl, hW⟩
          case measure => simp [intOf]; omega
      · go_wp2_with fail
        go_loopw [3, 5] (fun v i wr => ∃ (k : Nat) (n : Int), k ≤ m.feeds.length ∧ i = .int .i64 k ∧ v = .int .i64 n ∧ Hid (MW w w.heap.size wr h m)) (fun _ i _ => m.feeds.length - (intOf i).toNat)
        case atStart => exact ⟨0, _, Nat.zero_le _, rfl, rfl, hW⟩
        case round =>
          clear hW hL1 a0
          obtain ⟨k, n, hk, rfl, rfl, hW⟩ := hrel
          obtain ⟨a0, a1, a2, a3, a4, a5, a6, a7, a8, a9, a10⟩ := MB.cells hW.out.blk
          have hL1 := hW.out.lt
          clear a0 a2 a3 a4 a5 a6 a7 a8 a9 a10
          by_cases hlt : k < m.feeds.length
          · obtain ⟨b, off, hA, hb, x0⟩ := str_at (hW.out.md D.out).dF hlt
            rw [hA] at a1
            clear hA
            have hsz : m.feeds[k].size ≤ 9223372036854775807 := D.out.ff _ (List.getElem_mem _)
            go_wp2_with fail
            all_goals
              go_roundw
              case rel => exact ⟨k + 1, _, by omega, by go_num, rfl, hW⟩
              case measure => simp [intOf]; omega
          · go_wp2_with fail
            go_loopw [3, 6] (fun v i wr => ∃ (k : Nat) (n : Int), k ≤ m.racks.length ∧ i = .int .i64 k ∧ v = .int .i64 n ∧ Hid (MW w w.heap.size wr h m)) (fun _ i _ => m.racks.length - (intOf i).toNat)
            case atStart => exact ⟨0, _, Nat.zero_le _, rfl, rfl, hW⟩
            case round =>
              clear hW hL1 a1
              obtain ⟨k, n, hk, rfl, rfl, hW⟩ := hrel
              obtain ⟨a0, a1, a2, a3, a4, a5, a6, a7, a8, a9, a10⟩ := MB.cells hW.out.blk
              have hL1 := hW.out.lt
              clear a0 a1 a3 a4 a5 a6 a7 a8 a9 a10
              by_cases hlt : k < m.racks.length
              · obtain ⟨b, off, hA, hb, x0, x1, x2, hsz⟩ := (hW.out.md D.out).dR.rack hlt
                rw [hA] at a2
                clear hA
                go_wp2_with fail
                all_goals
                  go_roundw
                  case rel => exact ⟨k + 1, _, by omega, by go_num, rfl, hW⟩
                  case measure => simp [intOf]; omega
              · go_wp2_with fail
                go_loopw [3, 7] (fun v i wr => ∃ (k : Nat) (n : Int), k ≤ m.machs.length ∧ i = .int .i64 k ∧ v = .int .i64 n ∧ Hid (MW w w.heap.size wr h m)) (fun _ i _ => m.machs.length - (intOf i).toNat)
                case atStart => exact ⟨0, _, Nat.zero_le _, rfl, rfl, hW⟩
                case round =>
                  clear hW hL1 a2
                  obtain ⟨k, n, hk, rfl, rfl, hW⟩ := hrel
                  obtain ⟨a0, a1, a2, a3, a4, a5, a6, a7, a8, a9, a10⟩ := MB.cells hW.out.blk
                  have hL1 := hW.out.lt
                  clear a0 a1 a2 a4 a5 a6 a7 a8 a9 a10
                  by_cases hlt : k < m.machs.length
                  · obtain ⟨b, off, hA, hb, x0, x1, x2, hsz⟩ := (hW.out.md D.out).dM.mach hlt
                    rw [hA] at a3
                    clear hA
                    go_wp2_with fail
                    all_goals
                      go_roundw
                      case rel => exact ⟨k + 1, _, by omega, by go_num, rfl, hW⟩
                      case measure => simp [intOf]; omega
                  · go_wp2_with fail
                    go_loopw [3, 8] (fun v i wr => ∃ (k : Nat) (n : Int), k ≤ m.items.length ∧ i = .int .i64 k ∧ v = .int .i64 n ∧ Hid (MW w w.heap.size wr h m)) (fun _ i _ => m.items.length - (intOf i).toNat)
                    case atStart => exact ⟨0, _, Nat.zero_le _, rfl, rfl, hW⟩
                    case round =>
                      clear hW hL1 a3
                      obtain ⟨k, n, hk, rfl, rfl, hW⟩ := hrel
                      obtain ⟨a0, a1, a2, a3, a4, a5, a6, a7, a8, a9, a10⟩ := MB.cells hW.out.blk
                      have hL1 := hW.out.lt
                      clear a0 a1 a2 a3 a4 a6 a7 a8 a9 a10
                      by_cases hlt : k < m.items.length
                      · obtain ⟨b, off, A2, c2, hA, hb, x0, x1, x2, x3, x4, x5, x6, hsz, _⟩ := (hW.out.md D.out).dI.item hlt
                        rw [hA] at a5
                        clear hA
                        have hltI : (k : Int) < (m.items.length : Int) := by omega
                        go_wp2_with fail
                        go_quiet (fail)
                        go_wp2_with fail
                        all_goals
                          go_roundw
                          case rel => exact ⟨k + 1, _, by omega, by go_num, rfl, hide (hW.out.drewN _)⟩
                          case measure => simp [intOf]; omega
                      · go_wp2_with fail
                        go_loopw [3, 9] (fun v i wr => ∃ (k : Nat) (n : Int), k ≤ m.rules.length ∧ i = .int .i64 k ∧ v = .int .i64 n ∧ Hid (MW w w.heap.size wr h m)) (fun _ i _ => m.rules.length - (intOf i).toNat)
                        case atStart => exact ⟨0, _, Nat.zero_le _, rfl, rfl, hW⟩
                        case round =>
                          clear hW hL1 a5
                          obtain ⟨k, n, hk, rfl, rfl, hW⟩ := hrel
                          obtain ⟨a0, a1, a2, a3, a4, a5, a6, a7, a8, a9, a10⟩ := MB.cells hW.out.blk
                          have hL1 := hW.out.lt
                          clear a0 a1 a2 a3 a4 a5 a6 a7 a8 a9
                          by_cases hlt : k < m.rules.length
                          · obtain ⟨b, off, A2, c2, hA, hb, x0, x1, x2, x3, x4, x5, x6, _⟩ := (hW.out.md D.out).dU.rule hlt
                            rw [hA] at a10
                            clear hA
                            go_wp2_with fail
                            all_goals
                              go_roundw
                              case rel => exact ⟨k + 1, _, by omega, by go_num, rfl, hW⟩
                              case measure => simp [intOf]; omega
                          · go_wp2_with fail
                            go_ret
                            exact ⟨⟨_, rfl, fun _ => HQ.out⟩, hW.out.b⟩
theorem few14_ref (h : MH) (m : Mod) (w : World) (d : MD w w.heap.size h m) : Calls Tryz.prog 36 #[.agg #[.slice h.s m.sites.length h.sc, .slice h.f m.feeds.length h.fc, .slice h.r m.racks.length h.rc, .slice h.m m.machs.length h.mc, .slice h.l m.links.length h.lc, .slice h.i m.items.length h.ic, .int .i64 m.dark, .int .i64 m.slots, .int .i64 m.reserve, .int .i64 m.failures, .slice h.u m.rules.length h.uc]] w (SomeB w) :=
  (few22_ref h m w d).mono fun _ _ h => ⟨⟨h.1.choose, h.1.choose_spec.1⟩, h.2⟩
end Go.Proofs.YtpggamapmgpjcaaGreatDoor
