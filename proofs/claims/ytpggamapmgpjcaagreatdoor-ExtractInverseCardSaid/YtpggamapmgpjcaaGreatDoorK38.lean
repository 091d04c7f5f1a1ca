/- The walks of slices.Equal at steps, plan.Same and exodusref24.Same, at equal lists. Conditions: lengths that fit memory. The walk of exodusref08.Same at equal lists. Conditions: lengths that fit memory. The walk of exoduslaw27's awake: it answers true. Conditions: the table of spaces is laid. -/
import Derived.Test.YtpggamapmgpjcaaGreatDoorK36
import Derived.Test.YtpggamapmgpjcaaGreatDoorK32
import Derived.Test.YtpggamapmgpjcaaGreatDoorK03
import Derived.Test.YtpggamapmgpjcaaGreatDoorK29
import Derived.Deep.QuietTactic
import Derived.BigQuiet
import Derived.Test.YtpggamapmgpjcaaGreatDoorK37

namespace Go.Proofs.YtpggamapmgpjcaaGreatDoor
open Go Go.RowKit Go.Proofs

set_option maxRecDepth 100000 in
set_option maxHeartbeats 2000000 in
theorem equal_steps (A A2 : Option Addr) (c c2 : Nat) (l : List StM) (w : World) (hl : l.length ≤ 100000) (h1 : RdE elSt w A l) (h2 : RdE elSt w A2 l) :
    Calls Tryz.prog 32 #[.slice A l.length c, .slice A2 l.length c2] w fun e w' => e = .returned (.bool true) ∧ Below w.heap.size w w' := by
  have H1 := hide h1
  have H2 := hide h2
  clear h1 h2
  go_enter Tryz.func32, Tryz.ntmps32
  go_wp2_with fail
  go_loopw [13] (fun i wr => ∃ k : Nat, k ≤ l.length ∧ i = .int .i64 k ∧ Below w.heap.size w wr) (fun i _ => l.length - (intOf i).toNat)
  case atStart => exact ⟨0, Nat.zero_le _, rfl, Below.refl _ _⟩
  case round =>
    obtain ⟨k, hk, rfl, hb⟩ := hrel
    by_cases hlt : k < l.length
    · obtain ⟨b, o, hA, hbl, a0, a1, a2, a3⟩ := rd_st (RdE.grow H1.out hb) hlt
      obtain ⟨b', o', hA', hbl', b0, b1, b2, b3⟩ := rd_st (RdE.grow H2.out hb) hlt
      subst hA hA'
      obtain ⟨x, hx⟩ : ∃ x, x = l[k] := ⟨_, rfl⟩
      rw [← hx] at a0 a1 a2 a3 b0 b1 b2 b3
      clear hx
      have hq := step_eq (a := x) (b := x) (q := true) (by simp)
      have hltI : (k : Int) < (l.length : Int) := by omega
      have HB := hide hb
      clear hb
      go_wp2_with fail
      go_quiet (fail)
      go_wp2_with fail
      go_roundw
      case rel => exact ⟨k + 1, by omega, by go_num, by first | exact HB.out | exact below_drawn HB.out _⟩
      case measure => simp [intOf]; omega
    · obtain rfl : k = l.length := by omega
      have hltI : ¬ (l.length : Int) < (l.length : Int) := by omega
      have HB := hide hb
      clear hb
      go_wp2_with fail
      go_ret
      exact ⟨rfl, HB.out⟩
set_option maxRecDepth 100000 in
set_option maxHeartbeats 2000000 in
theorem same_prog (A A2 : Option Addr) (c c2 : Nat) (l : List StM) (w : World) (hl : l.length ≤ 100000) (h1 : RdE elSt w A l) (h2 : RdE elSt w A2 l) :
    Calls Tryz.prog 17 #[.agg #[.slice A l.length c], .agg #[.slice A2 l.length c2]] w fun e w' => e = .returned (.bool true) ∧ Below w.heap.size w w' := by
  have hb : Below w.heap.size w ((w.alloc (.cells #[.slice A l.length c] 35)).alloc (.cells #[.slice A2 l.length c2] 35)) := ((Below.refl _ w).alloc (Nat.le_refl _) _).alloc (by simp) _
  have HE := hide (equal_steps A A2 c c2 l _ hl (RdE.grow h1 hb) (RdE.grow h2 hb))
  have HB := hide hb
  clear hb h1 h2
  go_enter Tryz.func17, Tryz.ntmps17
  go_wp2_with (go_at_call 32; refine HE.out.mono ?_; rintro e w2 ⟨rfl, hb2⟩)
  go_ret
  exact ⟨rfl, HB.out.trans (hb2.mono HB.out.size)⟩
set_option maxRecDepth 100000 in
set_option maxHeartbeats 2000000 in
theorem same24_ref (A A2 : Option Addr) (c c2 : Nat) (l : List StM) (w : World) (hl : l.length ≤ 100000) (h1 : RdE elSt w A l) (h2 : RdE elSt w A2 l) :
    Calls Tryz.prog 11 #[.agg #[.slice A l.length c], .agg #[.slice A2 l.length c2]] w fun e w' => e = .returned (.bool true) ∧ Below w.heap.size w w' := by
  obtain ⟨W0, e0⟩ : ∃ W0, W0 = (w.alloc (.cells #[.slice A l.length c] 35)).alloc (.cells #[.slice A2 l.length c2] 35) := ⟨_, rfl⟩
  have hb : Below w.heap.size w W0 := by rw [e0]; exact ((Below.refl _ w).alloc (Nat.le_refl _) _).alloc (by simp) _
  have ha : Blk W0 w.heap.size 35 #[.slice A l.length c] := by rw [e0]; exact (Blk.new w _ _).alloc _
  have hc : Blk W0 (w.heap.size + 1) 35 #[.slice A2 l.length c2] := by rw [e0]; simpa using Blk.new (w.alloc (.cells #[.slice A l.length c] 35)) 35 #[.slice A2 l.length c2]
  have HF := hide (fun W (hW : Below W0.heap.size W0 W) => (⟨ha.below hW ha.lt, hc.below hW hc.lt, RdE.grow (RdE.grow h1 hb) hW, RdE.grow (RdE.grow h2 hb) hW⟩ : Blk W w.heap.size 35 #[.slice A l.length c] ∧ Blk W (w.heap.size + 1) 35 #[.slice A2 l.length c2] ∧ RdE elSt W A l ∧ RdE elSt W A2 l))
  have HB := hide hb
  have HE := hide e0
  clear hb ha hc h1 h2 e0
  go_enter Tryz.func11, Tryz.ntmps11
  go_wp2_with fail
  rw [← HE.out]
  go_loopw [5] (fun i wr => ∃ k : Nat, k ≤ l.length ∧ i = .int .i64 k ∧ Below W0.heap.size W0 wr) (fun i _ => l.length - (intOf i).toNat)
  case atStart => exact ⟨0, Nat.zero_le _, rfl, Below.refl _ _⟩
  case round =>
    obtain ⟨k, hk, rfl, hbr⟩ := hrel
    obtain ⟨ha, hc, q1, q2⟩ := HF.out wr hbr
    have p0 := ha.cell 0
    have pl := ha.lt
    have c0 := hc.cell 0
    have cl := hc.lt
    simp at p0 c0
    have HBR := hide hbr
    clear ha hc hbr
    by_cases hlt : k < l.length
    · obtain ⟨b, o, hA, hbl, a0, a1, a2, a3⟩ := rd_st q1 hlt
      obtain ⟨b', o', hA', hbl', b0, b1, b2, b3⟩ := rd_st q2 hlt
      clear q1 q2
      subst hA hA'
      obtain ⟨x, hx⟩ : ∃ x, x = l[k] := ⟨_, rfl⟩
      rw [← hx] at a0 a1 a2 a3 b0 b1 b2 b3
      clear hx
      have hq := step_eq (a := x) (b := x) (q := true) (by simp)
      have hltI : (k : Int) < (l.length : Int) := by omega
      go_wp2_with fail
      go_quiet (fail)
      go_wp2_with fail
      go_roundw
      case rel => exact ⟨k + 1, by omega, by go_num, by first | exact HBR.out | exact below_drawn HBR.out _⟩
      case measure => simp [intOf]; omega
    · clear q1 q2
      obtain rfl : k = l.length := by omega
      have hltI : ¬ (l.length : Int) < (l.length : Int) := by omega
      go_wp2_with fail
      go_ret
      exact ⟨rfl, HB.out.trans (HBR.out.mono HB.out.size)⟩
end Go.Proofs.YtpggamapmgpjcaaGreatDoor

namespace Go.Proofs.YtpggamapmgpjcaaGreatDoor
open Go Go.RowKit Go.Proofs

set_option maxRecDepth 100000 in
set_option maxHeartbeats 2000000 in
theorem same08_ref (A A2 : Option Addr) (c c2 : Nat) (l : List Int) (w : World) (hl : l.length ≤ 100000) (h1 : Ints w w.heap.size A l) (h2 : Ints w w.heap.size A2 l) :
    Calls Tryz.prog 14 #[.slice A l.length c, .slice A2 l.length c2] w fun e w' => e = .returned (.bool true) ∧ Below w.heap.size w w' := by
  have H1 := hide h1
  have H2 := hide h2
  clear h1 h2
  go_enter Tryz.func14, Tryz.ntmps14
  go_wp2_with fail
  go_loopw [5] (fun i wr => ∃ k : Nat, k ≤ l.length ∧ i = .int .i64 k ∧ Below w.heap.size w wr) (fun i _ => l.length - (intOf i).toNat)
  case atStart => exact ⟨0, Nat.zero_le _, rfl, Below.refl _ _⟩
  case round =>
    obtain ⟨k, hk, rfl, hb⟩ := hrel
    by_cases hlt : k < l.length
    · obtain ⟨b, o, hA, hbl, a0⟩ := int_at (H1.out.below hb) hlt
      obtain ⟨b', o', hA', hbl', b0⟩ := int_at (H2.out.below hb) hlt
      subst hA hA'
      obtain ⟨x, hx⟩ : ∃ x, x = l[k] := ⟨_, rfl⟩
      rw [← hx] at a0 b0
      clear hx
      have hltI : (k : Int) < (l.length : Int) := by omega
      have HB := hide hb
      clear hb
      go_wp2_with fail
      go_quiet (fail)
      go_wp2_with fail
      go_roundw
      case rel => exact ⟨k + 1, by omega, by go_num, by first | exact HB.out | exact below_drawn HB.out _⟩
      case measure => simp [intOf]; omega
    · obtain rfl : k = l.length := by omega
      have hltI : ¬ (l.length : Int) < (l.length : Int) := by omega
      have HB := hide hb
      clear hb
      go_wp2_with fail
      go_ret
      exact ⟨rfl, HB.out⟩
end Go.Proofs.YtpggamapmgpjcaaGreatDoor

namespace Go.Proofs.YtpggamapmgpjcaaGreatDoor
open Go Go.RowKit Go.Proofs

/-- the box of the model, and what has grown -/
structure A27 (w : World) (h : MH) (m : Mod) (bm : Nat) (W : World) : Prop where
  mb : Blk W bm 29 #[.slice h.s m.sites.length h.sc, .slice h.f m.feeds.length h.fc, .slice h.r m.racks.length h.rc, .slice h.m m.machs.length h.mc, .slice h.l m.links.length h.lc, .slice h.i m.items.length h.ic, .int .i64 m.dark, .int .i64 m.slots, .int .i64 m.reserve, .int .i64 m.failures, .slice h.u m.rules.length h.uc]
  d : MD W W.heap.size h m
  b : Below w.heap.size w W
theorem A27.grow {w : World} {h : MH} {m : Mod} {bm : Nat} {W W2 : World} (s : A27 w h m bm W) (hb : Below W.heap.size W W2) : A27 w h m bm W2 := ⟨s.mb.below hb s.mb.lt, s.d.grow hb, s.b.trans (hb.mono s.b.size)⟩
theorem two_ints (W : World) (x y : Int) : Ints (W.alloc (.cells #[.int .i64 x, .int .i64 y] 2)) (W.alloc (.cells #[.int .i64 x, .int .i64 y] 2)).heap.size (some ⟨W.heap.size, 0, none⟩) [x, y] := row_ints (o := [x, y]) (Blk.new W _ _)
theorem one_step (W : World) (x : StM) : RdE elSt (W.alloc (.cells #[.int .i64 x.1, .int .i64 x.2.1, .int .i64 x.2.2.1, .int .i64 x.2.2.2] 53)) (some ⟨W.heap.size, 0, none⟩) [x] := fun k hk => by
  obtain rfl : k = 0 := by simp at hk; omega
  refine ⟨_, 0, rfl, by simp, fun j u hu => ?_⟩
  have hb := Blk.new W 53 #[.int .i64 x.1, .int .i64 x.2.1, .int .i64 x.2.2.1, .int .i64 x.2.2.2]
  rw [show 0 + 0 * elSt.sz + j = j by omega, hb.cell j]
  simpa [elSt] using hu
set_option maxRecDepth 100000 in
set_option maxHeartbeats 4000000 in
theorem awake27 (w : World) (ha : Asc w) : Calls Tryz.prog 7 #[] w (AnsR w (.bool true)) := by
  have HE := hide (example26 w)
  have HA := hide ha
  clear ha
  go_enter Tryz.func7, Tryz.ntmps7
  go_upto_region 2 with (first
    | (go_at_call 19; refine HE.out.mono ?_; rintro e w1 ⟨rfl, hx⟩
       have HX := hide hx
       clear hx)
    | (refine wpList_store_row (o := ⟨none, .store 29 _ _, _, _, _, _⟩) rfl 29 _ _ rfl w1.heap.size (cells22 (h26 w.heap.size) m26) rfl rfl 29 z29 (Blk.new w1 _ _) (by kernel_rfl) rfl (cells22_one _ _) ?_; rw [World.setRow_alloc_new]))
  have hb2 : Below w1.heap.size w1 (w1.alloc (.cells (cells22 (h26 w.heap.size) m26) 29)) := (Below.refl _ _).alloc (Nat.le_refl _) _
  have hs2 : A27 w (h26 w.heap.size) m26 w1.heap.size (w1.alloc (.cells (cells22 (h26 w.heap.size) m26) 29)) := ⟨Blk.new w1 _ _, (HX.out.s.grow hb2).md, HX.out.bb.trans (hb2.mono HX.out.bb.size)⟩
  obtain ⟨w2, hw2⟩ : ∃ w2, w2 = w1.alloc (.cells (cells22 (h26 w.heap.size) m26) 29) := ⟨_, rfl⟩
  obtain ⟨bm, hbm⟩ : ∃ bm, bm = w1.heap.size := ⟨_, rfl⟩
  rw [← hw2] at hs2 ⊢
  rw [← hbm] at hs2 ⊢
  have HC := hide (show (h26 w.heap.size).rc = 2 ∧ (h26 w.heap.size).mc = 2 ∧ (h26 w.heap.size).lc = 1 from ⟨rfl, rfl, rfl⟩)
  obtain ⟨h, hh⟩ : ∃ h, h = h26 w.heap.size := ⟨_, rfl⟩
  obtain ⟨m, hm⟩ : ∃ m, m = m26 := ⟨_, rfl⟩
  rw [← hh] at hs2 HC
  rw [← hm] at hs2
  have k1 : m.racks.length ≤ h.rc := by rw [HC.out.1, hm]; decide
  have k2 : m.machs.length ≤ h.mc := by rw [HC.out.2.1, hm]; decide
  have k3 : m.links.length ≤ h.lc := by rw [HC.out.2.2, hm]; decide
  have HP := hide (fun W (s : A27 w h m bm W) => (show Calls Tryz.prog 9 #[.agg #[.slice h.s m.sites.length h.sc, .slice h.f m.feeds.length h.fc, .slice h.r m.racks.length h.rc, .slice h.m m.machs.length h.mc, .slice h.l m.links.length h.lc, .slice h.i m.items.length h.ic, .int .i64 m.dark, .int .i64 m.slots, .int .i64 m.reserve, .int .i64 m.failures, .slice h.u m.rules.length h.uc], .slice (some ⟨W.heap.size, 0, none⟩) 2 2] (W.alloc (.cells #[.int .i64 0, .int .i64 1] 2)) (XPlan (W.alloc (.cells #[.int .i64 0, .int .i64 1] 2)) [(1, 1, 1, 2)] 0) from by
    have hg := (Below.refl W.heap.size W).alloc (Nat.le_refl _) (.cells #[.int .i64 0, .int .i64 1] 2)
    have := xplan_prog h m (some ⟨W.heap.size, 0, none⟩) [0, 1] 2 _ (s.d.grow hg) k1 k2 k3 (HA.out.below (Nat.le_refl _) (s.b.trans (hg.mono s.b.size))) (two_ints W 0 1)
    rwa [show xplanR m [0, 1] = ([(1, 1, 1, 2)], 0) by rw [hm]; exact plan26] at this))
  have HT := hide (fun A c W (s : A27 w h m bm W) (hr : RdE elSt W A [(1, 1, 1, 2)]) => (show Calls Tryz.prog 12 #[.agg #[.slice h.s m.sites.length h.sc, .slice h.f m.feeds.length h.fc, .slice h.r m.racks.length h.rc, .slice h.m m.machs.length h.mc, .slice h.l m.links.length h.lc, .slice h.i m.items.length h.ic, .int .i64 m.dark, .int .i64 m.slots, .int .i64 m.reserve, .int .i64 m.failures, .slice h.u m.rules.length h.uc], .agg #[.slice A 1 c]] W (XPoint W [0, 1] 0) from by
    have := xpoint_prog h m A [(1, 1, 1, 2)] c W s.d k1 k2 k3 (HA.out.below (Nat.le_refl _) s.b) hr (by decide)
    rwa [show xpointR m [(1, 1, 1, 2)] = ([0, 1], 0) by rw [hm]; exact point26] at this))
  have HS2 := hide hs2
  have HG := hide (show cells22 (h26 w.heap.size) m26 = #[.slice h.s m.sites.length h.sc, .slice h.f m.feeds.length h.fc, .slice h.r m.racks.length h.rc, .slice h.m m.machs.length h.mc, .slice h.l m.links.length h.lc, .slice h.i m.items.length h.ic, .int .i64 m.dark, .int .i64 m.slots, .int .i64 m.reserve, .int .i64 m.failures, .slice h.u m.rules.length h.uc] by rw [hh, hm]; rfl)
  obtain ⟨a0, a1, a2, a3, a4, a5, a6, a7, a8, a9, a10⟩ := MB.cells hs2.mb
  have al := hs2.mb.lt
  clear hs2 hb2 hw2 hbm HE HX k1 k2 k3 HC hm hh
  go_upto_region 3 with (go_at_call 9; (with_reducible refine (HP.out _ HS2.out).mono ?_); rintro e w3 ⟨A3, c3, e3, hr3, hb3⟩
                         have e3' : e = .returned (.tuple #[.agg #[.slice A3 1 c3], .int .i64 0]) := e3
                         subst e3'
                         have HS3 := hide (HS2.out.grow (((Below.refl _ _).alloc (Nat.le_refl _) _).trans (hb3.mono (by simp))))
                         have HR3 := hide hr3
                         clear e3 hr3 hb3)
  have hg3 : Below w3.heap.size w3 (w3.alloc (.cells #[.slice A3 1 c3] 35)) := (Below.refl _ _).alloc (Nat.le_refl _) _
  have HS4 := hide (HS3.out.grow hg3)
  have HR4 := hide (HR3.out.grow hg3)
  have HB4 := hide (Blk.new w3 35 #[.slice A3 1 c3])
  obtain ⟨w4, hw4⟩ : ∃ w4, w4 = w3.alloc (.cells #[.slice A3 1 c3] 35) := ⟨_, rfl⟩
  obtain ⟨bp, hbp⟩ : ∃ bp, bp = w3.heap.size := ⟨_, rfl⟩
  rw [← hw4] at HS4 HR4 HB4 ⊢
  rw [← hbp] at HB4 ⊢
  clear hw4 hbp hg3 HS3 HR3 HS2 a0 a1 a2 a3 a4 a5 a6 a7 a8 a9 a10 al
  obtain ⟨a0, a1, a2, a3, a4, a5, a6, a7, a8, a9, a10⟩ := MB.cells HS4.out.mb
  have al := HS4.out.mb.lt
  have p0 := HB4.out.cell 0
  have pl := HB4.out.lt
  simp at p0
  go_upto_region 4 with (go_at_call 12; (with_reducible refine (HT.out A3 c3 _ HS4.out HR4.out).mono ?_); rintro e w5 ⟨A5, c5, e5, hr5, hb5⟩
                         have e5' : e = .returned (.tuple #[.slice A5 2 c5, .int .i64 0]) := e5
                         subst e5'
                         have HS5 := hide (HS4.out.grow hb5)
                         have HR5 := hide (HR4.out.grow hb5)
                         have HB5 := hide (HB4.out.below hb5 HB4.out.lt)
                         have HI5 := hide hr5
                         clear e5 hr5 hb5 a0 a1 a2 a3 a4 a5 a6 a7 a8 a9 a10 al p0 pl)
  have p0 := HB5.out.cell 0
  have pl := HB5.out.lt
  simp at p0
  have hg5 := (Below.refl w5.heap.size w5).alloc (Nat.le_refl _) (.cells #[.int .i64 1, .int .i64 1, .int .i64 1, .int .i64 2] 53)
  have HQ := hide (show Calls Tryz.prog 11 #[.agg #[.slice A3 1 c3], .agg #[.slice (some ⟨w5.heap.size, 0, none⟩) 1 1]] (w5.alloc (.cells #[.int .i64 1, .int .i64 1, .int .i64 1, .int .i64 2] 53)) _ from same24_ref A3 (some ⟨w5.heap.size, 0, none⟩) c3 1 [(1, 1, 1, 2)] _ (by decide) (HR5.out.grow hg5) (one_step w5 (1, 1, 1, 2)))
  have HG5 := hide hg5
  have HJ := hide (fun W (hW : Below w5.heap.size w5 W) => (show Calls Tryz.prog 14 #[.slice A5 2 c5, .slice (some ⟨W.heap.size, 0, none⟩) 2 2] (W.alloc (.cells #[.int .i64 0, .int .i64 1] 2)) _ from same08_ref A5 (some ⟨W.heap.size, 0, none⟩) c5 2 [0, 1] _ (by decide) (HI5.out.grow (hW.alloc hW.size _)) (two_ints W 0 1)))
  clear hg5
  go_wp2_with (first
    | (go_at_call 11; (with_reducible refine HQ.out.mono ?_); rintro e w6 ⟨rfl, hb6⟩
       have HB6 := hide (HG5.out.trans (hb6.mono (by simp)))
       clear hb6 p0 pl)
    | (go_at_call 14; (with_reducible refine (HJ.out _ HB6.out).mono ?_); rintro e w7 ⟨rfl, hb7⟩
       have HB7 := hide ((HB6.out.alloc HB6.out.size _).trans (hb7.mono (by have := HB6.out.size; simp; omega)))
       clear hb7))
  go_ret
  exact ⟨rfl, HS5.out.b.trans (HB7.out.mono HS5.out.b.size)⟩
end Go.Proofs.YtpggamapmgpjcaaGreatDoor
