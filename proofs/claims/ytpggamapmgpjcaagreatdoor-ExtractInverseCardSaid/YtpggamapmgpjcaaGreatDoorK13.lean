/- The walks of site.Link and exodusref14.Link at any model. Conditions: lengths that fit memory. -/
import Derived.Test.YtpggamapmgpjcaaGreatDoorK10
import Derived.Test.YtpggamapmgpjcaaGreatDoorK07
import Derived.Test.YtpggamapmgpjcaaGreatDoorK12
import Derived.Deep.RegionHeld3

namespace Go.Proofs.YtpggamapmgpjcaaGreatDoor
open Go Go.RowKit Go.Proofs

set_option maxRecDepth 100000 in
set_option maxHeartbeats 1000000 in
theorem link_joins (a b : Int) (y : LinkM) (ba bb : Nat) (W : World) (hA : Blk W ba 3 #[.int .i64 a]) (hB : Blk W bb 3 #[.int .i64 b]) :
    Calls Tryz.prog 176 #[.agg #[.int .i64 y.a, .int .i64 y.b, .int .i64 y.cap], .pointer (some ⟨ba, 0, none⟩), .pointer (some ⟨bb, 0, none⟩)] W fun e w' => e = .returned (.bool (joinsB a b y)) ∧ Below W.heap.size W w' := by
  have x1 := hA.cell 0
  have x2 := hB.cell 0
  have l1 := hA.lt
  have l2 := hB.lt
  simp at x1 x2
  have HV := hide (show joinsB a b y = (((y.a == a) && (y.b == b)) || ((y.a == b) && (y.b == a))) from rfl)
  clear hA hB
  cases g1 : (y.a == a)
  · cases g3 : (y.a == b)
    · rw [g1, g3] at HV
      go_enter Tryz.func176, Tryz.ntmps176
      go_wp2_with fail
      go_ret
      exact ⟨ret_congr (by rw [HV.out]; rfl), (Below.refl _ _).alloc (Nat.le_refl _) _⟩
    · cases g4 : (y.b == a)
      all_goals
        rw [g1, g3, g4] at HV
        go_enter Tryz.func176, Tryz.ntmps176
        go_wp2_with fail
        go_ret
        exact ⟨ret_congr (by rw [HV.out]; rfl), (Below.refl _ _).alloc (Nat.le_refl _) _⟩
  · cases g2 : (y.b == b)
    · cases g3 : (y.a == b)
      · rw [g1, g2, g3] at HV
        go_enter Tryz.func176, Tryz.ntmps176
        go_wp2_with fail
        go_ret
        exact ⟨ret_congr (by rw [HV.out]; rfl), (Below.refl _ _).alloc (Nat.le_refl _) _⟩
      · cases g4 : (y.b == a)
        all_goals
          rw [g1, g2, g3, g4] at HV
          go_enter Tryz.func176, Tryz.ntmps176
          go_wp2_with fail
          go_ret
          exact ⟨ret_congr (by rw [HV.out]; rfl), (Below.refl _ _).alloc (Nat.le_refl _) _⟩
    · rw [g1, g2] at HV
      go_enter Tryz.func176, Tryz.ntmps176
      go_wp2_with fail
      go_ret
      exact ⟨ret_congr (by rw [HV.out]; rfl), (Below.refl _ _).alloc (Nat.le_refl _) _⟩
set_option maxRecDepth 100000 in
set_option maxHeartbeats 2000000 in
theorem link_prog (h : MH) (m : Mod) (a b : Int) (w : World) (d : MD w w.heap.size h m) :
    Calls Tryz.prog 151 #[.agg #[.slice h.s m.sites.length h.sc, .slice h.f m.feeds.length h.fc, .slice h.r m.racks.length h.rc, .slice h.m m.machs.length h.mc, .slice h.l m.links.length h.lc, .slice h.i m.items.length h.ic, .int .i64 m.dark, .int .i64 m.slots, .int .i64 m.reserve, .int .i64 m.failures, .slice h.u m.rules.length h.uc], .int .i64 a, .int .i64 b] w (AnsB w (.int .i64 (linkI m a b))) := by
  have hb1 := (Below.refl w.heap.size w).alloc (Nat.le_refl _) (.cells #[.slice h.s m.sites.length h.sc, .slice h.f m.feeds.length h.fc, .slice h.r m.racks.length h.rc, .slice h.m m.machs.length h.mc, .slice h.l m.links.length h.lc, .slice h.i m.items.length h.ic, .int .i64 m.dark, .int .i64 m.slots, .int .i64 m.reserve, .int .i64 m.failures, .slice h.u m.rules.length h.uc] 29)
  have hb2 := hb1.alloc hb1.size (.cells #[.int .i64 a] 3)
  have hb3 := hb2.alloc hb2.size (.cells #[.int .i64 b] 3)
  have hll := d.ll
  by_cases hab : a = b
  · have HV := hide (show linkI m a b = 0 by rw [linkI, if_pos hab])
    have g : (a == b) = true := by simpa using hab
    have HB := hide hb3
    clear hb1 hb2 hb3 d hab
    go_enter Tryz.func151, Tryz.ntmps151
    go_wp2_with fail
    go_ret
    exact ⟨ret_congr (by rw [HV.out]; rfl), HB.out⟩
  · have HV := hide (show linkI m a b = 1 + firstI (joinsB a b) m.links by rw [linkI, if_neg hab])
    have g : (a == b) = false := by simpa using hab
    have hlo := firstI_lo (joinsB a b) m.links
    have HA0 := hide (show Blk ((w.alloc (.cells #[.slice h.s m.sites.length h.sc, .slice h.f m.feeds.length h.fc, .slice h.r m.racks.length h.rc, .slice h.m m.machs.length h.mc, .slice h.l m.links.length h.lc, .slice h.i m.items.length h.ic, .int .i64 m.dark, .int .i64 m.slots, .int .i64 m.reserve, .int .i64 m.failures, .slice h.u m.rules.length h.uc] 29)).alloc (.cells #[.int .i64 a] 3)) (w.heap.size + 1) 3 #[.int .i64 a] by have := Blk.new (w.alloc (.cells #[.slice h.s m.sites.length h.sc, .slice h.f m.feeds.length h.fc, .slice h.r m.racks.length h.rc, .slice h.m m.machs.length h.mc, .slice h.l m.links.length h.lc, .slice h.i m.items.length h.ic, .int .i64 m.dark, .int .i64 m.slots, .int .i64 m.reserve, .int .i64 m.failures, .slice h.u m.rules.length h.uc] 29)) 3 #[.int .i64 a]; simpa using this)
    have HB0 := hide (show Blk (((w.alloc (.cells #[.slice h.s m.sites.length h.sc, .slice h.f m.feeds.length h.fc, .slice h.r m.racks.length h.rc, .slice h.m m.machs.length h.mc, .slice h.l m.links.length h.lc, .slice h.i m.items.length h.ic, .int .i64 m.dark, .int .i64 m.slots, .int .i64 m.reserve, .int .i64 m.failures, .slice h.u m.rules.length h.uc] 29)).alloc (.cells #[.int .i64 a] 3)).alloc (.cells #[.int .i64 b] 3)) (w.heap.size + 1 + 1) 3 #[.int .i64 b] by have := Blk.new ((w.alloc (.cells #[.slice h.s m.sites.length h.sc, .slice h.f m.feeds.length h.fc, .slice h.r m.racks.length h.rc, .slice h.m m.machs.length h.mc, .slice h.l m.links.length h.lc, .slice h.i m.items.length h.ic, .int .i64 m.dark, .int .i64 m.slots, .int .i64 m.reserve, .int .i64 m.failures, .slice h.u m.rules.length h.uc] 29)).alloc (.cells #[.int .i64 a] 3)) 3 #[.int .i64 b]; simpa using this)
    have HIX := hide (indexFunc_Link 176 #[.pointer (some ⟨w.heap.size + 1, 0, none⟩), .pointer (some ⟨w.heap.size + 1 + 1, 0, none⟩)] (fun _ _ => by kernel_rfl) (joinsB a b) h.l h.lc m.links _ hll (d.grow hb3).dL
      (fun i hi W hW => link_joins a b m.links[i] (w.heap.size + 1) (w.heap.size + 1 + 1) W ((HA0.out.alloc _).below hW (by simp)) (HB0.out.below hW (by simp))))
    have HB := hide hb3
    obtain ⟨q, hq⟩ : ∃ q, q = firstI (joinsB a b) m.links := ⟨_, rfl⟩
    rw [← hq] at HV HIX hlo
    have hw1 : IntKind.i64.wrap (1 + q) = 1 + q := IntWalk.i64_in _ (by omega)
    clear hb1 hb2 hb3 d hab hq HA0 HB0
    go_enter Tryz.func151, Tryz.ntmps151
    go_wp2_with (go_at_call 115; refine HIX.out.mono ?_; rintro e w1 ⟨rfl, hb4⟩; have HB4 := hide (HB.out.trans (hb4.mono HB.out.size)); clear hb4)
    go_ret
    exact ⟨ret_congr (by rw [HV.out]; rfl), HB4.out⟩
set_option maxRecDepth 100000 in
set_option maxHeartbeats 4000000 in
theorem linkR_ref (h : MH) (m : Mod) (a b : Int) (w : World) (d : MD w w.heap.size h m) :
    Calls Tryz.prog 171 #[.agg #[.slice h.s m.sites.length h.sc, .slice h.f m.feeds.length h.fc, .slice h.r m.racks.length h.rc, .slice h.m m.machs.length h.mc, .slice h.l m.links.length h.lc, .slice h.i m.items.length h.ic, .int .i64 m.dark, .int .i64 m.slots, .int .i64 m.reserve, .int .i64 m.failures, .slice h.u m.rules.length h.uc], .int .i64 a, .int .i64 b] w (AnsB w (.int .i64 (linkI m a b))) := by
  have hll := d.ll
  have D := hide d
  clear d
  by_cases hab : a = b
  · have HV := hide (show linkI m a b = 0 by rw [linkI, if_pos hab])
    have g : (a != b) = false := by simpa using hab
    clear hab
    go_enter Tryz.func171, Tryz.ntmps171
    go_wp2_with fail
    go_loopw [7] (fun i wr => i = .int .i64 0 ∧ Hid (MW w w.heap.size wr h m)) (fun _ _ => 0)
    case atStart => exact ⟨rfl, MW.start w h m⟩
    case round =>
      obtain ⟨rfl, hW⟩ := hrel
      obtain ⟨c0, c1, c2, c3, c4, c5, c6, c7, c8, c9, c10⟩ := MB.cells hW.out.blk
      clear c0 c1 c2 c3 c5 c6 c7 c8 c9 c10
      have hlt0 := hW.out.lt
      by_cases hz : 0 < m.links.length
      · have hzI : (0 : Int) < (m.links.length : Int) := by omega
        go_wp2_with fail
        go_ret
        exact ⟨ret_congr (by rw [HV.out]; rfl), hW.out.b⟩
      · have hzI : ¬ (0 : Int) < (m.links.length : Int) := by omega
        go_wp2_with fail
        go_ret
        exact ⟨ret_congr (by rw [HV.out]; rfl), hW.out.b⟩
  · have HV := hide (show linkI m a b = 1 + firstI (joinsB a b) m.links by rw [linkI, if_neg hab])
    have g : (a != b) = true := by simpa using hab
    clear hab
    go_enter Tryz.func171, Tryz.ntmps171
    go_wp2_with fail
    go_loopw [7] (fun i wr => ∃ k : Nat, k ≤ m.links.length ∧ i = .int .i64 k ∧ Hid (MW w w.heap.size wr h m) ∧ Hid (∀ j (hj : j < m.links.length), j < k → joinsB a b m.links[j] = false)) (fun i _ => m.links.length - (intOf i).toNat)
    case atStart => exact ⟨0, Nat.zero_le _, rfl, MW.start w h m, fun j hj h0 => absurd h0 (by omega)⟩
    case round =>
      obtain ⟨k, hk, rfl, hW, hs⟩ := hrel
      obtain ⟨c0, c1, c2, c3, c4, c5, c6, c7, c8, c9, c10⟩ := MB.cells hW.out.blk
      clear c0 c1 c2 c3 c5 c6 c7 c8 c9 c10
      have hlt0 := hW.out.lt
      by_cases hlt : k < m.links.length
      · obtain ⟨bb, off, hA, hb, x0, x1, x2⟩ := (hW.out.md D.out).dL.link hlt
        rw [hA] at c4
        obtain ⟨y, hy⟩ : ∃ y, y = m.links[k] := ⟨_, rfl⟩
        rw [← hy] at x0 x1 x2
        have HY := hide hy
        have HJ := hide (show joinsB a b y = (((y.a == a) && (y.b == b)) || ((y.a == b) && (y.b == a))) from rfl)
        have hkI : (k : Int) < (m.links.length : Int) := by omega
        have HN := hide (hW.out.grow ((Below.refl _ _).alloc (Nat.le_refl _) (.cells #[.int .i64 y.a, .int .i64 y.b, .int .i64 y.cap] 88)))
        clear hA hy
        cases hj : joinsB a b y
        · have HF := hide hj
          have HS2 := hide (show ∀ j (hj : j < m.links.length), j < k + 1 → joinsB a b m.links[j] = false from fun j hj2 h1 => by
            rcases Nat.lt_or_ge j k with h2 | h2
            · exact hs j hj2 h2
            · obtain rfl : j = k := by omega
              rw [← HY.out]; exact HF.out)
          rw [hj] at HJ
          clear hj
          cases g1 : (y.a == a) <;> cases g2 : (y.b == b) <;> cases g3 : (y.a == b) <;> cases g4 : (y.b == a)
          all_goals first
            | (exfalso; have := HJ.out; rw [g1, g2, g3, g4] at this; simp at this; done)
            | (go_wp2_with fail
               go_roundw
               case rel => exact ⟨k + 1, by omega, by go_num, HN, HS2⟩
               case measure => simp [intOf]; omega)
        · have HF := hide (firstI_at (p := joinsB a b) hlt (by rw [← HY.out]; exact hj) hs)
          rw [hj] at HJ
          clear hj
          cases g1 : (y.a == a) <;> cases g2 : (y.b == b) <;> cases g3 : (y.a == b) <;> cases g4 : (y.b == a)
          all_goals first
            | (exfalso; have := HJ.out; rw [g1, g2, g3, g4] at this; simp at this; done)
            | (go_wp2_with fail
               go_ret
               exact ⟨ret_congr (by rw [HV.out, HF.out]; go_num), HN.out.b⟩)
      · have hzI : ¬ (k : Int) < (m.links.length : Int) := by omega
        have HF := hide (firstI_none (p := joinsB a b) fun j hj => hs j hj (by omega))
        go_wp2_with fail
        go_ret
        exact ⟨ret_congr (by rw [HV.out, HF.out]; rfl), hW.out.b⟩
end Go.Proofs.YtpggamapmgpjcaaGreatDoor
