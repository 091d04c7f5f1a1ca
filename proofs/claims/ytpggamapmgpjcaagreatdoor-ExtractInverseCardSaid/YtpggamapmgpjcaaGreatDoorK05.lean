/- The walks of exodusref14.racks, links, Valid: whether the site part of a model is valid. Conditions: lengths that fit memory. -/
import Derived.Test.YtpggamapmgpjcaaGreatDoorK04
import Derived.Deep.QuietTactic
import Derived.BigQuiet

namespace Go.Proofs.YtpggamapmgpjcaaGreatDoor
open Go Go.RowKit Go.Proofs

theorem any_take_false {α : Type} {p : α → Bool} {l : List α} {k : Nat} (hk : k ≤ l.length) (h : ∀ j (hj : j < l.length), j < k → p l[j] = false) : (l.take k).any p = false := by
  rw [List.any_eq_false]
  intro x hx
  obtain ⟨j, hj, rfl⟩ := List.getElem_of_mem hx
  have hj2 : j < k := by simp at hj; omega
  rw [List.getElem_take]
  simp [h j (by omega) hj2]
theorem any_take_true {α : Type} {p : α → Bool} {l : List α} {k j : Nat} (hj : j < l.length) (hjk : j < k) (h : p l[j] = true) : (l.take k).any p = true := by
  rw [List.any_eq_true]
  exact ⟨l[j], List.mem_take_iff_getElem.2 ⟨j, by omega, rfl⟩, h⟩

set_option maxRecDepth 100000 in
set_option maxHeartbeats 4000000 in
theorem racks_ref (h : MH) (m : Mod) (w : World) (d : MD w w.heap.size h m) :
    Calls Tryz.prog 163 #[.agg #[.slice h.s m.sites.length h.sc, .slice h.f m.feeds.length h.fc, .slice h.r m.racks.length h.rc, .slice h.m m.machs.length h.mc, .slice h.l m.links.length h.lc, .slice h.i m.items.length h.ic, .int .i64 m.dark, .int .i64 m.slots, .int .i64 m.reserve, .int .i64 m.failures, .slice h.u m.rules.length h.uc]] w fun e w' => e = .returned (.bool (soundB (rackOk m) m.racks)) ∧ Below w.heap.size w w' := by
  have hl2 := d.rl
  have hl0 := d.sl
  have hl1 := d.fl
  have D := hide d; clear d
  go_enter Tryz.func163, Tryz.ntmps163
  go_wp2_with fail
  go_loopw [3] (fun i wr => ∃ k : Nat, k ≤ m.racks.length ∧ i = .int .i64 k ∧ Hid (MW w w.heap.size wr h m) ∧ Hid (∀ j (hj : j < m.racks.length), j < k → rackOk m m.racks[j] (m.racks.take j) = true)) (fun i _ => m.racks.length - (intOf i).toNat)
  case atStart => exact ⟨0, Nat.zero_le _, rfl, MW.start w h m, fun j hj h0 => absurd h0 (by omega)⟩
  case round =>
    obtain ⟨k, hk, rfl, hW, hs⟩ := hrel
    obtain ⟨wo, rfl⟩ : ∃ wo : World, wo = wr := ⟨_, rfl⟩
    obtain ⟨c0, c1, c2, c3, c4, c5, c6, c7, c8, c9, c10⟩ := MB.cells hW.out.blk
    clear c3 c4 c5 c6 c7 c8 c9 c10
    have hlt0 := hW.out.lt
    by_cases hlt : k < m.racks.length
    · obtain ⟨b, off, hA, hb, x0, x1, x2, hz⟩ := (hW.out.md D.out).dR.rack hlt
      rw [hA] at c2
      cases e1 : exI m.racks[k].site m.sites.length
      · have HV := hide (soundB_false (p := rackOk m) hlt (by simp [rackOk, e1]))
        clear hA
        go_wp2_with (go_at_call 108; refine (exists_ref _ _ _).mono ?_; rintro e w' ⟨rfl, rfl⟩)
        go_ret
        exact ⟨ret_congr (by rw [HV.out]; rfl), hW.out.b.alloc hW.out.b.size _⟩
      cases e2 : exI m.racks[k].feed m.feeds.length
      · have HV := hide (soundB_false (p := rackOk m) hlt (by simp [rackOk, e2]))
        clear hA
        go_wp2_with (go_at_call 108; refine (exists_ref _ _ _).mono ?_; rintro e w' ⟨rfl, rfl⟩)
        go_ret
        exact ⟨ret_congr (by rw [HV.out]; rfl), hW.out.b.alloc hW.out.b.size _⟩
      have HW2 := hide (hW.out.grow ((Below.refl _ _).alloc (Nat.le_refl _) (.cells #[.string m.racks[k].name, .int .i64 m.racks[k].site, .int .i64 m.racks[k].feed] 84)))
      have HB2 := hide (Blk.new wo 84 #[.string m.racks[k].name, .int .i64 m.racks[k].site, .int .i64 m.racks[k].feed])
      have HA := hide hA
      clear hA
      go_wp2_with (go_at_call 108; refine (exists_ref _ _ _).mono ?_; rintro e w' ⟨rfl, rfl⟩)
      have HE := hide (And.intro e1 e2)
      clear e1 e2 x0 x1 x2 c0 c1 c2
      go_loopw [5] (fun i w2 => ∃ j : Nat, j ≤ k ∧ i = .int .i64 j ∧ Hid (MW w w.heap.size w2 h m) ∧ Hid (Blk w2 wo.heap.size 84 #[.string m.racks[k].name, .int .i64 m.racks[k].site, .int .i64 m.racks[k].feed]) ∧ Hid (∀ q (hq : q < m.racks.length), q < j → (decide (m.racks[q].feed = m.racks[k].feed) && decide (m.racks[q].site ≠ m.racks[k].site)) = false)) (fun i _ => k - (intOf i).toNat)
      case atStart => exact ⟨0, Nat.zero_le _, rfl, HW2, HB2, fun j hj h0 => absurd h0 (by omega)⟩
      case round =>
        obtain ⟨j, hj, rfl, hW2, hB2, hq⟩ := hrel
        obtain ⟨c0, c1, c2, c3, c4, c5, c6, c7, c8, c9, c10⟩ := MB.cells hW2.out.blk
        clear c0 c1 c3 c4 c5 c6 c7 c8 c9 c10
        have y1 := hB2.out.cell 1
        have y2 := hB2.out.cell 2
        have hltb := hB2.out.lt
        have hlt2 := hW2.out.lt
        simp at y1 y2
        by_cases hjk : j < k
        · have hjI : (j : Int) < (m.racks.length : Int) := by omega
          obtain ⟨b2, off2, hA2, hb2, z0, z1, z2, _⟩ := (hW2.out.md D.out).dR.rack (i := j) (by omega)
          rw [hA2] at c2
          clear hA2 z0
          by_cases f1 : m.racks[j].feed = m.racks[k].feed
          · have g1 : (m.racks[j].feed == m.racks[k].feed) = true := by simpa using f1
            by_cases f2 : m.racks[j].site = m.racks[k].site
            · have g2 : (m.racks[j].site != m.racks[k].site) = false := by simpa using f2
              have HN := hide (show (decide (m.racks[j].feed = m.racks[k].feed) && decide (m.racks[j].site ≠ m.racks[k].site)) = false by simp [f2])
              clear f1 f2
              go_wp2_with fail
              go_quiet (fail)
              go_wp2_with fail
              go_roundw
              case rel => exact ⟨j + 1, by omega, by go_num, hide (hW2.out.drewN _), hB2.out.drewN _, fun q hq' h1 => by
                rcases Nat.lt_or_ge q j with h2 | h2
                · exact hq q hq' h2
                · obtain rfl : q = j := by omega
                  exact HN⟩
              case measure => simp [intOf]; omega
            · have g2 : (m.racks[j].site != m.racks[k].site) = true := by simpa using f2
              have HV := hide (soundB_false (p := rackOk m) hlt (by
                have := any_take_true (p := fun y : RackM => decide (y.feed = m.racks[k].feed) && decide (y.site ≠ m.racks[k].site)) (l := m.racks) (k := k) (j := j) (by omega) hjk (by simp [f1, f2])
                simp only [rackOk, this]; simp))
              clear f1 f2
              go_wp2_with fail
              go_quiet (fail)
              go_wp2_with fail
              go_ret
              exact ⟨ret_congr (by rw [HV.out]; rfl), (hW2.out.drewN _).b⟩
          · have g1 : (m.racks[j].feed == m.racks[k].feed) = false := by simpa using f1
            have HN := hide (show (decide (m.racks[j].feed = m.racks[k].feed) && decide (m.racks[j].site ≠ m.racks[k].site)) = false by simp [f1])
            clear f1
            go_wp2_with fail
            go_quiet (fail)
            go_wp2_with fail
            go_roundw
            case rel => exact ⟨j + 1, by omega, by go_num, hide (hW2.out.drewN _), hB2.out.drewN _, fun q hq' h1 => by
              rcases Nat.lt_or_ge q j with h2 | h2
              · exact hq q hq' h2
              · obtain rfl : q = j := by omega
                exact HN⟩
            case measure => simp [intOf]; omega
        · have HK := hide (show rackOk m m.racks[k] (m.racks.take k) = true by
            unfold rackOk
            rw [HE.out.1, HE.out.2, any_take_false (Nat.le_of_lt hlt) fun q hq' h1 => hq.out q hq' (by omega)]
            rfl)
          go_wp2_with fail
          go_roundw
          case rel => exact ⟨k + 1, by omega, by go_num, hW2, fun q hq' h1 => by
            rcases Nat.lt_or_ge q k with h2 | h2
            · exact hs q hq' h2
            · obtain rfl : q = k := by omega
              exact HK⟩
          case measure => simp [intOf]; omega
    · have HV := hide (soundB_true (p := rackOk m) fun q hq => hs q hq (by omega))
      go_wp2_with fail
      go_ret
      exact ⟨ret_congr (by rw [HV.out]; rfl), hW.out.b⟩

theorem linkOk_parts {m : Mod} {x : LinkM} {pre : List LinkM} (h1 : ¬ x.a < 1) (h2 : ¬ x.b ≤ x.a) (h3 : ¬ (m.sites.length : Int) < x.b) (h4 : wiI x.cap 0 1048576 = true) (h5 : (pre.any fun y => decide (y.a = x.a) && decide (y.b = x.b)) = false) : linkOk m x pre = true := by
  unfold linkOk
  rw [h4, h5]
  simp
  omega
set_option maxRecDepth 100000 in
set_option maxHeartbeats 4000000 in
theorem links_ref (h : MH) (m : Mod) (w : World) (d : MD w w.heap.size h m) :
    Calls Tryz.prog 164 #[.agg #[.slice h.s m.sites.length h.sc, .slice h.f m.feeds.length h.fc, .slice h.r m.racks.length h.rc, .slice h.m m.machs.length h.mc, .slice h.l m.links.length h.lc, .slice h.i m.items.length h.ic, .int .i64 m.dark, .int .i64 m.slots, .int .i64 m.reserve, .int .i64 m.failures, .slice h.u m.rules.length h.uc]] w fun e w' => e = .returned (.bool (soundB (linkOk m) m.links)) ∧ Below w.heap.size w w' := by
  have hl2 := d.ll
  have hl0 := d.sl
  have D := hide d; clear d
  go_enter Tryz.func164, Tryz.ntmps164
  go_wp2_with fail
  go_loopw [3] (fun i wr => ∃ k : Nat, k ≤ m.links.length ∧ i = .int .i64 k ∧ Hid (MW w w.heap.size wr h m) ∧ Hid (∀ j (hj : j < m.links.length), j < k → linkOk m m.links[j] (m.links.take j) = true)) (fun i _ => m.links.length - (intOf i).toNat)
  case atStart => exact ⟨0, Nat.zero_le _, rfl, MW.start w h m, fun j hj h0 => absurd h0 (by omega)⟩
  case round =>
    obtain ⟨k, hk, rfl, hW, hs⟩ := hrel
    obtain ⟨wo, rfl⟩ : ∃ wo : World, wo = wr := ⟨_, rfl⟩
    obtain ⟨c0, c1, c2, c3, c4, c5, c6, c7, c8, c9, c10⟩ := MB.cells hW.out.blk
    clear c1 c2 c3 c5 c6 c7 c8 c9 c10
    have hlt0 := hW.out.lt
    by_cases hlt : k < m.links.length
    · obtain ⟨b, off, hA, hb, x0, x1, x2⟩ := (hW.out.md D.out).dL.link hlt
      rw [hA] at c4
      by_cases e1 : m.links[k].a < 1
      · have HV := hide (soundB_false (p := linkOk m) hlt (by simp [linkOk]; omega))
        clear hA
        go_wp2_with fail
        go_ret
        exact ⟨ret_congr (by rw [HV.out]; rfl), hW.out.b.alloc hW.out.b.size _⟩
      by_cases e2 : m.links[k].b ≤ m.links[k].a
      · have HV := hide (soundB_false (p := linkOk m) hlt (by simp [linkOk]; omega))
        clear hA
        go_wp2_with fail
        go_ret
        exact ⟨ret_congr (by rw [HV.out]; rfl), hW.out.b.alloc hW.out.b.size _⟩
      by_cases e3 : (m.sites.length : Int) < m.links[k].b
      · have HV := hide (soundB_false (p := linkOk m) hlt (by simp [linkOk]; omega))
        clear hA
        go_wp2_with fail
        go_ret
        exact ⟨ret_congr (by rw [HV.out]; rfl), hW.out.b.alloc hW.out.b.size _⟩
      cases e4 : wiI m.links[k].cap 0 1048576
      · have HV := hide (soundB_false (p := linkOk m) hlt (by simp [linkOk, e4]))
        clear hA
        go_wp2_with (go_at_call 162; refine (number_ref _ _).mono ?_; rintro e w' ⟨rfl, rfl⟩)
        go_ret
        exact ⟨ret_congr (by rw [HV.out]; rfl), hW.out.b.alloc hW.out.b.size _⟩
      have HW2 := hide (hW.out.grow ((Below.refl _ _).alloc (Nat.le_refl _) (.cells #[.int .i64 m.links[k].a, .int .i64 m.links[k].b, .int .i64 m.links[k].cap] 88)))
      have HB2 := hide (Blk.new wo 88 #[.int .i64 m.links[k].a, .int .i64 m.links[k].b, .int .i64 m.links[k].cap])
      have HA := hide hA
      clear hA
      have HE := hide (And.intro e1 (And.intro e2 (And.intro e3 e4)))
      go_wp2_with (go_at_call 162; refine (number_ref _ _).mono ?_; rintro e w' ⟨rfl, rfl⟩)
      clear e1 e2 e3 e4 x0 x1 x2 c0 c4
      go_loopw [5] (fun i w2 => ∃ j : Nat, j ≤ k ∧ i = .int .i64 j ∧ Hid (MW w w.heap.size w2 h m) ∧ Hid (Blk w2 wo.heap.size 88 #[.int .i64 m.links[k].a, .int .i64 m.links[k].b, .int .i64 m.links[k].cap]) ∧ Hid (∀ q (hq : q < m.links.length), q < j → (decide (m.links[q].a = m.links[k].a) && decide (m.links[q].b = m.links[k].b)) = false)) (fun i _ => k - (intOf i).toNat)
      case atStart => exact ⟨0, Nat.zero_le _, rfl, HW2, HB2, fun j hj h0 => absurd h0 (by omega)⟩
      case round =>
        obtain ⟨j, hj, rfl, hW2, hB2, hq⟩ := hrel
        obtain ⟨c0, c1, c2, c3, c4, c5, c6, c7, c8, c9, c10⟩ := MB.cells hW2.out.blk
        clear c0 c1 c2 c3 c5 c6 c7 c8 c9 c10
        have y0 := hB2.out.cell 0
        have y1 := hB2.out.cell 1
        have hltb := hB2.out.lt
        have hlt2 := hW2.out.lt
        simp at y0 y1
        by_cases hjk : j < k
        · have hjI : (j : Int) < (m.links.length : Int) := by omega
          obtain ⟨b2, off2, hA2, hb2, z0, z1, z2⟩ := (hW2.out.md D.out).dL.link (i := j) (by omega)
          rw [hA2] at c4
          clear hA2 z2
          by_cases f1 : m.links[j].a = m.links[k].a
          · have g1 : (m.links[j].a == m.links[k].a) = true := by simpa using f1
            by_cases f2 : m.links[j].b = m.links[k].b
            · have g2 : (m.links[j].b == m.links[k].b) = true := by simpa using f2
              have HV := hide (soundB_false (p := linkOk m) hlt (by
                have := any_take_true (p := fun y : LinkM => decide (y.a = m.links[k].a) && decide (y.b = m.links[k].b)) (l := m.links) (k := k) (j := j) (by omega) hjk (by simp [f1, f2])
                simp only [linkOk, this]; simp))
              clear f1 f2
              go_wp2_with fail
              go_quiet (fail)
              go_wp2_with fail
              go_ret
              exact ⟨ret_congr (by rw [HV.out]; rfl), (hW2.out.drewN _).b⟩
            · have g2 : (m.links[j].b == m.links[k].b) = false := by simpa using f2
              have HN := hide (show (decide (m.links[j].a = m.links[k].a) && decide (m.links[j].b = m.links[k].b)) = false by simp [f2])
              clear f1 f2
              go_wp2_with fail
              go_quiet (fail)
              go_wp2_with fail
              go_roundw
              case rel => exact ⟨j + 1, by omega, by go_num, hide (hW2.out.drewN _), hB2.out.drewN _, fun q hq' h1 => by
                rcases Nat.lt_or_ge q j with h2 | h2
                · exact hq q hq' h2
                · obtain rfl : q = j := by omega
                  exact HN⟩
              case measure => simp [intOf]; omega
          · have g1 : (m.links[j].a == m.links[k].a) = false := by simpa using f1
            have HN := hide (show (decide (m.links[j].a = m.links[k].a) && decide (m.links[j].b = m.links[k].b)) = false by simp [f1])
            clear f1
            go_wp2_with fail
            go_quiet (fail)
            go_wp2_with fail
            go_roundw
            case rel => exact ⟨j + 1, by omega, by go_num, hide (hW2.out.drewN _), hB2.out.drewN _, fun q hq' h1 => by
              rcases Nat.lt_or_ge q j with h2 | h2
              · exact hq q hq' h2
              · obtain rfl : q = j := by omega
                exact HN⟩
            case measure => simp [intOf]; omega
        · have HK := hide (linkOk_parts (m := m) (x := m.links[k]) (pre := m.links.take k) (by have := HE.out.1; omega) (by have := HE.out.2.1; omega) (by have := HE.out.2.2.1; omega) HE.out.2.2.2 (any_take_false (Nat.le_of_lt hlt) fun q hq' h1 => hq.out q hq' (by omega)))
          go_wp2_with fail
          go_roundw
          case rel => exact ⟨k + 1, by omega, by go_num, hW2, fun q hq' h1 => by
            rcases Nat.lt_or_ge q k with h2 | h2
            · exact hs q hq' h2
            · obtain rfl : q = k := by omega
              exact HK⟩
          case measure => simp [intOf]; omega
    · have HV := hide (soundB_true (p := linkOk m) fun q hq => hs q hq (by omega))
      go_wp2_with fail
      go_ret
      exact ⟨ret_congr (by rw [HV.out]; rfl), hW.out.b⟩
def siteSizes (m : Mod) : Bool := exI m.sites.length 4 && decide (m.feeds.length ≤ 16) && decide (m.racks.length ≤ 16) && exI m.machs.length 16 && decide (m.links.length ≤ 12)
theorem siteB_sizes {m : Mod} (h : siteSizes m = false) : siteB m = false := by
  unfold siteSizes at h; unfold siteB; rw [h]; rfl
theorem siteB_rest {m : Mod} (h : siteSizes m = true) : siteB m = (soundB (rackOk m) m.racks && m.machs.all (machOk m) && soundB (linkOk m) m.links) := by
  unfold siteSizes at h; unfold siteB; rw [h]; simp [Bool.and_assoc]
theorem siteSizes_bad {m : Mod} (h : siteSizes m = false) : m.sites.length < 1 ∨ 4 < m.sites.length ∨ 16 < m.feeds.length ∨ 16 < m.racks.length ∨ m.machs.length < 1 ∨ 16 < m.machs.length ∨ 12 < m.links.length := by
  simp [siteSizes, exI] at h; omega
theorem siteSizes_ok {m : Mod} (h : siteSizes m = true) : ¬ m.sites.length < 1 ∧ ¬ 4 < m.sites.length ∧ ¬ 16 < m.feeds.length ∧ ¬ 16 < m.racks.length ∧ ¬ m.machs.length < 1 ∧ ¬ 16 < m.machs.length ∧ ¬ 12 < m.links.length := by
  simp [siteSizes, exI] at h; omega
theorem all_false_at' {α : Type} {l : List α} {p : α → Bool} {k : Nat} (hk : k < l.length) (h : p l[k] = false) : l.all p = false := by
  rw [List.all_eq_false]; exact ⟨l[k], List.getElem_mem _, by simp [h]⟩
theorem all_true_of' {α : Type} {l : List α} {p : α → Bool} (h : ∀ j (hj : j < l.length), p l[j] = true) : l.all p = true := by
  rw [List.all_eq_true]; intro x hx; obtain ⟨j, hj, rfl⟩ := List.getElem_of_mem hx; exact h j hj
set_option maxRecDepth 100000 in
set_option maxHeartbeats 8000000 in
theorem siteValid_ref (h : MH) (m : Mod) (w : World) (d : MD w w.heap.size h m) :
    Calls Tryz.prog 104 #[.agg #[.slice h.s m.sites.length h.sc, .slice h.f m.feeds.length h.fc, .slice h.r m.racks.length h.rc, .slice h.m m.machs.length h.mc, .slice h.l m.links.length h.lc, .slice h.i m.items.length h.ic, .int .i64 m.dark, .int .i64 m.slots, .int .i64 m.reserve, .int .i64 m.failures, .slice h.u m.rules.length h.uc]] w fun e w' => e = .returned (.bool (siteB m)) ∧ Below w.heap.size w w' := by
  cases hsz : siteSizes m
  · have HV := hide (siteB_sizes hsz)
    rcases siteSizes_bad hsz with q | q | q | q | q | q | q
    all_goals
      clear hsz d
      go_enter Tryz.func104, Tryz.ntmps104
      go_wp2_with fail
      all_goals
        go_ret
        exact ⟨ret_congr (by rw [HV.out]; rfl), (Below.refl _ _).alloc (Nat.le_refl _) _⟩
  · have HS := hide (siteB_rest hsz)
    obtain ⟨q1, q2, q3, q4, q5, q6, q7⟩ := siteSizes_ok hsz
    clear hsz
    have hl2 := d.ml
    have hl0 := d.rl
    have D := hide d; clear d
    go_enter Tryz.func104, Tryz.ntmps104
    go_wp2_with fail
    have HQ := hide q1
    clear q1 q2 q3 q4 q5 q6 q7
    go_loopw [3] (fun i wr => ∃ k : Nat, k ≤ m.machs.length ∧ i = .int .i64 k ∧ Hid (MW w w.heap.size wr h m) ∧ Hid (∀ j (hj : j < m.machs.length), j < k → machOk m m.machs[j] = true)) (fun i _ => m.machs.length - (intOf i).toNat)
    case atStart => exact ⟨0, Nat.zero_le _, rfl, MW.start w h m, fun j hj h0 => absurd h0 (by omega)⟩
    case round =>
      obtain ⟨k, hk, rfl, hW, hs⟩ := hrel
      have hlt0 := hW.out.lt
      by_cases hlt : k < m.machs.length
      · obtain ⟨c0, c1, c2, c3, c4, c5, c6, c7, c8, c9, c10⟩ := MB.cells hW.out.blk
        clear c0 c1 c4 c5 c6 c7 c8 c9 c10
        have hltI : (k : Int) < (m.machs.length : Int) := by omega
        obtain ⟨b, off, hA, hb, x0, x1, x2, _⟩ := (hW.out.md D.out).dM.mach hlt
        rw [hA] at c3
        clear hA x0
        cases e1 : exI m.machs[k].rack m.racks.length
        · have HV := hide (show siteB m = false by rw [HS.out, all_false_at' hlt (by simp [machOk, e1])]; simp)
          go_wp2_with fail
          go_quiet ((first | (go_at_call 108; exact quiet_left (exists_ref _ _ _)) | (go_at_call 162; exact quiet_left (number_ref _ _))))
          go_wp2_with fail
          go_ret
          exact ⟨ret_congr (by rw [HV.out]; rfl), (hW.out.drewN _).b⟩
        cases e2 : wiI m.machs[k].cap 0 1048576
        · have HV := hide (show siteB m = false by rw [HS.out, all_false_at' hlt (by simp [machOk, e2])]; simp)
          go_wp2_with fail
          go_quiet ((first | (go_at_call 108; exact quiet_left (exists_ref _ _ _)) | (go_at_call 162; exact quiet_left (number_ref _ _))))
          go_wp2_with fail
          go_ret
          exact ⟨ret_congr (by rw [HV.out]; rfl), (hW.out.drewN _).b⟩
        · have HK := hide (show machOk m m.machs[k] = true by simp [machOk, e1, e2])
          go_wp2_with fail
          go_quiet ((first | (go_at_call 108; exact quiet_left (exists_ref _ _ _)) | (go_at_call 162; exact quiet_left (number_ref _ _))))
          go_wp2_with fail
          go_roundw
          case rel => exact ⟨k + 1, by omega, by go_num, hide (hW.out.drewN _), fun q hq' h1 => by
            rcases Nat.lt_or_ge q k with h2 | h2
            · exact hs q hq' h2
            · obtain rfl : q = k := by omega
              exact HK⟩
          case measure => simp [intOf]; omega
      · have HM := hide (show m.machs.all (machOk m) = true from all_true_of' fun q hq => hs q hq (by omega))
        obtain ⟨c0, c1, c2, c3, c4, c5, c6, c7, c8, c9, c10⟩ := MB.cells hW.out.blk
        have HR := hide (racks_ref h m wr (hW.out.md D.out))
        cases e1 : soundB (rackOk m) m.racks
        · have HV := hide (show siteB m = false by rw [HS.out, e1]; simp)
          rw [e1] at HR
          clear e1
          go_wp2_with (go_at_call 163; refine HR.out.mono ?_; rintro e w2 ⟨rfl, hb2⟩)
          go_ret
          exact ⟨ret_congr (by rw [HV.out]; rfl), (hW.out.grow hb2).b⟩
        · have HV := hide (show siteB m = soundB (linkOk m) m.links by rw [HS.out, e1, HM.out]; simp)
          rw [e1] at HR
          clear e1
          go_wp2_with (first
            | (go_at_call 163; refine HR.out.mono ?_; rintro e w2 ⟨rfl, hb2⟩
               have hW3 := hW.out.grow hb2
               obtain ⟨a0, a1, a2, a3, a4, a5, a6, a7, a8, a9, a10⟩ := MB.cells hW3.blk)
            | (go_at_call 164; refine (links_ref h m w2 (hW3.md D.out)).mono ?_; rintro e w3 ⟨rfl, hb3⟩))
          go_ret
          exact ⟨ret_congr (by rw [HV.out]; rfl), (hW3.grow hb3).b⟩
end Go.Proofs.YtpggamapmgpjcaaGreatDoor
