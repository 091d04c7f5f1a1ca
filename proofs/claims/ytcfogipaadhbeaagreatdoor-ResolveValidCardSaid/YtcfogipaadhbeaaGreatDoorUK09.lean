/- A part of the claim: see its last text. -/
import Derived.Test.YtcfogipaadhbeaaGreatDoorUK08
import Derived.Deep.QuietTactic
import Derived.BigQuiet
import Derived.Deep.RegionLaw
import Derived.Test.YtcfogipaadhbeaaGreatDoorUK03

set_option maxRecDepth 100000
set_option maxHeartbeats 16000000
namespace Go.Proofs.YtcfogipaadhbeaaGreatDoor
open Go Go.RowKit Go.Proofs
theorem any_take_false {α : Type} {p : α → Bool} {l : List α} {k : Nat} (hk : k ≤ l.length) (h : ∀ j (hj : j < l.length), j < k → p l[j] = false) : (l.take k).any p = false := by
 rw [List.any_eq_false]
 intro x hx
 obtain ⟨j, hj, rfl⟩ := List.getElem_of_mem hx
 have hj2 : j < k := by simp at hj; omega
 rw [List.getElem_take]
 simp [h j (by omega) hj2]
theorem any_take_true {α : Type} {p : α → Bool} {l : List α} {k j : Nat} (hj : j < l.length) (hjk : j < k) (h : p l[j] = true) : (l.take k).any p = true := by
 rw [List.any_eq_true]
 exact ⟨l[j], List.mem_take_iff_getElem.2 ⟨j, by omega, rfl⟩, h⟩
theorem racks_ref (h : MH) (m : Mod) (w : World) (d : MD w w.heap.size h m) :
    Calls Tryz.prog 88 #[.agg #[.slice h.s m.sT.length h.sc, .slice h.f m.fT.length h.fc, .slice h.r m.rT.length h.rc, .slice h.m m.mT.length h.mc, .slice h.l m.lT.length h.lc, .slice h.i m.iT.length h.ic, .int .i64 m.dT, .int .i64 m.oT, .int .i64 m.vT, .int .i64 m.aT, .slice h.u m.uT.length h.uc]] w fun e w' => e = .returned (.bool (soundB (rackOk m) m.rT)) ∧ Below w.heap.size w w' := by
 have hl2 := d.rl
 have hl0 := d.sl
 have hl1 := d.fl
 have D := hide d; clear d
 go_enter Tryz.func88, Tryz.ntmps88
 go_wp2_with fail
 go_loopw [3] (fun i wr => ∃ k : Nat, k ≤ m.rT.length ∧ i = .int .i64 k ∧ Hid (MW w w.heap.size wr h m) ∧ Hid (∀ j (hj : j < m.rT.length), j < k → rackOk m m.rT[j] (m.rT.take j) = true)) (fun i _ => m.rT.length - (intOf i).toNat)
 case atStart => exact ⟨0, Nat.zero_le _, rfl, MW.start w h m, fun j hj h0 => absurd h0 (by omega)⟩
 case round =>
  obtain ⟨k, hk, rfl, hW, hs⟩ := hrel
  obtain ⟨wo, rfl⟩ : ∃ wo : World, wo = wr := ⟨_, rfl⟩
  obtain ⟨c0, c1, c2, c3, c4, c5, c6, c7, c8, c9, c10⟩ := MB.cells hW.out.blk
  clear c3 c4 c5 c6 c7 c8 c9 c10
  have hlt0 := hW.out.lt
  by_cases hlt : k < m.rT.length
  · obtain ⟨b, off, hA, hb, x0, x1, x2, hz⟩ := (hW.out.md D.out).dR.rack hlt
    rw [hA] at c2
    cases e1 : exI m.rT[k].site m.sT.length
    · have HV := hide (soundB_false (p := rackOk m) hlt (by simp [rackOk, e1]))
      clear hA
      go_wp2_with (go_at_call 45; refine (exists_ref _ _ _).mono ?_; rintro e w' ⟨rfl, rfl⟩)
      go_ret
      exact ⟨ret_congr (by rw [HV.out]; rfl), hW.out.b.alloc hW.out.b.size _⟩
    cases e2 : exI m.rT[k].feed m.fT.length
    · have HV := hide (soundB_false (p := rackOk m) hlt (by simp [rackOk, e2]))
      clear hA
      go_wp2_with (go_at_call 45; refine (exists_ref _ _ _).mono ?_; rintro e w' ⟨rfl, rfl⟩)
      go_ret
      exact ⟨ret_congr (by rw [HV.out]; rfl), hW.out.b.alloc hW.out.b.size _⟩
    have HW2 := hide (hW.out.grow ((Below.refl _ _).alloc (Nat.le_refl _) (.cells #[.string m.rT[k].name, .int .i64 m.rT[k].site, .int .i64 m.rT[k].feed] 69)))
    have HB2 := hide (Blk.new wo 69 #[.string m.rT[k].name, .int .i64 m.rT[k].site, .int .i64 m.rT[k].feed])
    have HA := hide hA
    clear hA
    go_wp2_with (go_at_call 45; refine (exists_ref _ _ _).mono ?_; rintro e w' ⟨rfl, rfl⟩)
    have HE := hide (And.intro e1 e2)
    clear e1 e2 x0 x1 x2 c0 c1 c2
    go_loopw [5] (fun i w2 => ∃ j : Nat, j ≤ k ∧ i = .int .i64 j ∧ Hid (MW w w.heap.size w2 h m) ∧ Hid (Blk w2 wo.heap.size 69 #[.string m.rT[k].name, .int .i64 m.rT[k].site, .int .i64 m.rT[k].feed]) ∧ Hid (∀ q (hq : q < m.rT.length), q < j → (decide (m.rT[q].feed = m.rT[k].feed) && decide (m.rT[q].site ≠ m.rT[k].site)) = false)) (fun i _ => k - (intOf i).toNat)
    case atStart => exact ⟨0, Nat.zero_le _, rfl, HW2, HB2, fun j hj h0 => absurd h0 (by omega)⟩
    case round =>
     obtain ⟨j, hj, rfl, hW2, hB2, hq⟩ := hrel
     obtain ⟨c0, c1, c2, c3, c4, c5, c6, c7, c8, c9, c10⟩ := MB.cells hW2.out.blk
     clear c0 c1 c3 c4 c5 c6 c7 c8 c9 c10
     have y1 := hB2.out.cell 1
     have y2 := hB2.out.cell 2
     have hltb := hB2.out.lt
     have hlt2 := hW2.out.lt
     simp at y1 y2
     by_cases hjk : j < k
     · have hjI : (j : Int) < (m.rT.length : Int) := by omega
       obtain ⟨b2, off2, hA2, hb2, z0, z1, z2, _⟩ := (hW2.out.md D.out).dR.rack (i := j) (by omega)
       rw [hA2] at c2
       clear hA2 z0
       by_cases f1 : m.rT[j].feed = m.rT[k].feed
       · have g1 : (m.rT[j].feed == m.rT[k].feed) = true := by simpa using f1
         by_cases f2 : m.rT[j].site = m.rT[k].site
         · have g2 : (m.rT[j].site != m.rT[k].site) = false := by simpa using f2
           have HN := hide (show (decide (m.rT[j].feed = m.rT[k].feed) && decide (m.rT[j].site ≠ m.rT[k].site)) = false by simp [f2])
           clear f1 f2
           go_wp2_with fail
           go_quiet (fail)
           go_wp2_with fail
           go_roundw
           case rel => exact ⟨j + 1, by omega, by go_num, hide (hW2.out.drewN _), hB2.out.drewN _, fun q hq' h1 => by
            rcases Nat.lt_or_ge q j with h2 | h2
            · exact hq q hq' h2
            · obtain rfl : q = j := by omega
              exact HN⟩
           case measure => simp [intOf]; omega
         · have g2 : (m.rT[j].site != m.rT[k].site) = true := by simpa using f2
           have HV := hide (soundB_false (p := rackOk m) hlt (by
            have := any_take_true (p := fun y : RackM => decide (y.feed = m.rT[k].feed) && decide (y.site ≠ m.rT[k].site)) (l := m.rT) (k := k) (j := j) (by omega) hjk (by simp [f1, f2])
            simp only [rackOk, this]; simp))
           clear f1 f2
           go_wp2_with fail
           go_quiet (fail)
           go_wp2_with fail
           go_ret
           exact ⟨ret_congr (by rw [HV.out]; rfl), (hW2.out.drewN _).b⟩
       · have g1 : (m.rT[j].feed == m.rT[k].feed) = false := by simpa using f1
         have HN := hide (show (decide (m.rT[j].feed = m.rT[k].feed) && decide (m.rT[j].site ≠ m.rT[k].site)) = false by simp [f1])
         clear f1
         go_wp2_with fail
         go_quiet (fail)
         go_wp2_with fail
         go_roundw
         case rel => exact ⟨j + 1, by omega, by go_num, hide (hW2.out.drewN _), hB2.out.drewN _, fun q hq' h1 => by
          rcases Nat.lt_or_ge q j with h2 | h2
          · exact hq q hq' h2
          · obtain rfl : q = j := by omega
            exact HN⟩
         case measure => simp [intOf]; omega
     · have HK := hide (show rackOk m m.rT[k] (m.rT.take k) = true by
         unfold rackOk
         rw [HE.out.1, HE.out.2, any_take_false (Nat.le_of_lt hlt) fun q hq' h1 => hq.out q hq' (by omega)]
         rfl)
       go_wp2_with fail
       go_roundw
       case rel => exact ⟨k + 1, by omega, by go_num, hW2, fun q hq' h1 => by
        rcases Nat.lt_or_ge q k with h2 | h2
        · exact hs q hq' h2
        · obtain rfl : q = k := by omega
          exact HK⟩
       case measure => simp [intOf]; omega
  · have HV := hide (soundB_true (p := rackOk m) fun q hq => hs q hq (by omega))
    go_wp2_with fail
    go_ret
    exact ⟨ret_congr (by rw [HV.out]; rfl), hW.out.b⟩
theorem linkOk_parts {m : Mod} {x : LinkM} {pre : List LinkM} (h1 : ¬ x.a < 1) (h2 : ¬ x.b ≤ x.a) (h3 : ¬ (m.sT.length : Int) < x.b) (h4 : wiI x.cap 0 1048576 = true) (h5 : (pre.any fun y => decide (y.a = x.a) && decide (y.b = x.b)) = false) : linkOk m x pre = true := by
 unfold linkOk
 rw [h4, h5]
 simp
 omega
theorem links_ref (h : MH) (m : Mod) (w : World) (d : MD w w.heap.size h m) :
    Calls Tryz.prog 89 #[.agg #[.slice h.s m.sT.length h.sc, .slice h.f m.fT.length h.fc, .slice h.r m.rT.length h.rc, .slice h.m m.mT.length h.mc, .slice h.l m.lT.length h.lc, .slice h.i m.iT.length h.ic, .int .i64 m.dT, .int .i64 m.oT, .int .i64 m.vT, .int .i64 m.aT, .slice h.u m.uT.length h.uc]] w fun e w' => e = .returned (.bool (soundB (linkOk m) m.lT)) ∧ Below w.heap.size w w' := by
 have hl2 := d.ll
 have hl0 := d.sl
 have D := hide d; clear d
 go_enter Tryz.func89, Tryz.ntmps89
 go_wp2_with fail
 go_loopw [3] (fun i wr => ∃ k : Nat, k ≤ m.lT.length ∧ i = .int .i64 k ∧ Hid (MW w w.heap.size wr h m) ∧ Hid (∀ j (hj : j < m.lT.length), j < k → linkOk m m.lT[j] (m.lT.take j) = true)) (fun i _ => m.lT.length - (intOf i).toNat)
 case atStart => exact ⟨0, Nat.zero_le _, rfl, MW.start w h m, fun j hj h0 => absurd h0 (by omega)⟩
 case round =>
  obtain ⟨k, hk, rfl, hW, hs⟩ := hrel
  obtain ⟨wo, rfl⟩ : ∃ wo : World, wo = wr := ⟨_, rfl⟩
  obtain ⟨c0, c1, c2, c3, c4, c5, c6, c7, c8, c9, c10⟩ := MB.cells hW.out.blk
  clear c1 c2 c3 c5 c6 c7 c8 c9 c10
  have hlt0 := hW.out.lt
  by_cases hlt : k < m.lT.length
  · obtain ⟨b, off, hA, hb, x0, x1, x2⟩ := (hW.out.md D.out).dL.link hlt
    rw [hA] at c4
    by_cases e1 : m.lT[k].a < 1
    · have HV := hide (soundB_false (p := linkOk m) hlt (by simp [linkOk]; omega))
      clear hA
      go_wp2_with fail
      go_ret
      exact ⟨ret_congr (by rw [HV.out]; rfl), hW.out.b.alloc hW.out.b.size _⟩
    by_cases e2 : m.lT[k].b ≤ m.lT[k].a
    · have HV := hide (soundB_false (p := linkOk m) hlt (by simp [linkOk]; omega))
      clear hA
      go_wp2_with fail
      go_ret
      exact ⟨ret_congr (by rw [HV.out]; rfl), hW.out.b.alloc hW.out.b.size _⟩
    by_cases e3 : (m.sT.length : Int) < m.lT[k].b
    · have HV := hide (soundB_false (p := linkOk m) hlt (by simp [linkOk]; omega))
      clear hA
      go_wp2_with fail
      go_ret
      exact ⟨ret_congr (by rw [HV.out]; rfl), hW.out.b.alloc hW.out.b.size _⟩
    cases e4 : wiI m.lT[k].cap 0 1048576
    · have HV := hide (soundB_false (p := linkOk m) hlt (by simp [linkOk, e4]))
      clear hA
      go_wp2_with (go_at_call 87; refine (number_ref _ _).mono ?_; rintro e w' ⟨rfl, rfl⟩)
      go_ret
      exact ⟨ret_congr (by rw [HV.out]; rfl), hW.out.b.alloc hW.out.b.size _⟩
    have HW2 := hide (hW.out.grow ((Below.refl _ _).alloc (Nat.le_refl _) (.cells #[.int .i64 m.lT[k].a, .int .i64 m.lT[k].b, .int .i64 m.lT[k].cap] 73)))
    have HB2 := hide (Blk.new wo 73 #[.int .i64 m.lT[k].a, .int .i64 m.lT[k].b, .int .i64 m.lT[k].cap])
    have HA := hide hA
    clear hA
    have HE := hide (And.intro e1 (And.intro e2 (And.intro e3 e4)))
    go_wp2_with (go_at_call 87; refine (number_ref _ _).mono ?_; rintro e w' ⟨rfl, rfl⟩)
    clear e1 e2 e3 e4 x0 x1 x2 c0 c4
    go_loopw [5] (fun i w2 => ∃ j : Nat, j ≤ k ∧ i = .int .i64 j ∧ Hid (MW w w.heap.size w2 h m) ∧ Hid (Blk w2 wo.heap.size 73 #[.int .i64 m.lT[k].a, .int .i64 m.lT[k].b, .int .i64 m.lT[k].cap]) ∧ Hid (∀ q (hq : q < m.lT.length), q < j → (decide (m.lT[q].a = m.lT[k].a) && decide (m.lT[q].b = m.lT[k].b)) = false)) (fun i _ => k - (intOf i).toNat)
    case atStart => exact ⟨0, Nat.zero_le _, rfl, HW2, HB2, fun j hj h0 => absurd h0 (by omega)⟩
    case round =>
     obtain ⟨j, hj, rfl, hW2, hB2, hq⟩ := hrel
     obtain ⟨c0, c1, c2, c3, c4, c5, c6, c7, c8, c9, c10⟩ := MB.cells hW2.out.blk
     clear c0 c1 c2 c3 c5 c6 c7 c8 c9 c10
     have y0 := hB2.out.cell 0
     have y1 := hB2.out.cell 1
     have hltb := hB2.out.lt
     have hlt2 := hW2.out.lt
     simp at y0 y1
     by_cases hjk : j < k
     · have hjI : (j : Int) < (m.lT.length : Int) := by omega
       obtain ⟨b2, off2, hA2, hb2, z0, z1, z2⟩ := (hW2.out.md D.out).dL.link (i := j) (by omega)
       rw [hA2] at c4
       clear hA2 z2
       by_cases f1 : m.lT[j].a = m.lT[k].a
       · have g1 : (m.lT[j].a == m.lT[k].a) = true := by simpa using f1
         by_cases f2 : m.lT[j].b = m.lT[k].b
         · have g2 : (m.lT[j].b == m.lT[k].b) = true := by simpa using f2
           have HV := hide (soundB_false (p := linkOk m) hlt (by
            have := any_take_true (p := fun y : LinkM => decide (y.a = m.lT[k].a) && decide (y.b = m.lT[k].b)) (l := m.lT) (k := k) (j := j) (by omega) hjk (by simp [f1, f2])
            simp only [linkOk, this]; simp))
           clear f1 f2
           go_wp2_with fail
           go_quiet (fail)
           go_wp2_with fail
           go_ret
           exact ⟨ret_congr (by rw [HV.out]; rfl), (hW2.out.drewN _).b⟩
         · have g2 : (m.lT[j].b == m.lT[k].b) = false := by simpa using f2
           have HN := hide (show (decide (m.lT[j].a = m.lT[k].a) && decide (m.lT[j].b = m.lT[k].b)) = false by simp [f2])
           clear f1 f2
           go_wp2_with fail
           go_quiet (fail)
           go_wp2_with fail
           go_roundw
           case rel => exact ⟨j + 1, by omega, by go_num, hide (hW2.out.drewN _), hB2.out.drewN _, fun q hq' h1 => by
            rcases Nat.lt_or_ge q j with h2 | h2
            · exact hq q hq' h2
            · obtain rfl : q = j := by omega
              exact HN⟩
           case measure => simp [intOf]; omega
       · have g1 : (m.lT[j].a == m.lT[k].a) = false := by simpa using f1
         have HN := hide (show (decide (m.lT[j].a = m.lT[k].a) && decide (m.lT[j].b = m.lT[k].b)) = false by simp [f1])
         clear f1
         go_wp2_with fail
         go_quiet (fail)
         go_wp2_with fail
         go_roundw
         case rel => exact ⟨j + 1, by omega, by go_num, hide (hW2.out.drewN _), hB2.out.drewN _, fun q hq' h1 => by
          rcases Nat.lt_or_ge q j with h2 | h2
          · exact hq q hq' h2
          · obtain rfl : q = j := by omega
            exact HN⟩
         case measure => simp [intOf]; omega
     · have HK := hide (linkOk_parts (m := m) (x := m.lT[k]) (pre := m.lT.take k) (by have := HE.out.1; omega) (by have := HE.out.2.1; omega) (by have := HE.out.2.2.1; omega) HE.out.2.2.2 (any_take_false (Nat.le_of_lt hlt) fun q hq' h1 => hq.out q hq' (by omega)))
       go_wp2_with fail
       go_roundw
       case rel => exact ⟨k + 1, by omega, by go_num, hW2, fun q hq' h1 => by
        rcases Nat.lt_or_ge q k with h2 | h2
        · exact hs q hq' h2
        · obtain rfl : q = k := by omega
          exact HK⟩
       case measure => simp [intOf]; omega
  · have HV := hide (soundB_true (p := linkOk m) fun q hq => hs q hq (by omega))
    go_wp2_with fail
    go_ret
    exact ⟨ret_congr (by rw [HV.out]; rfl), hW.out.b⟩
def siteSizes (m : Mod) : Bool := exI m.sT.length 4 && decide (m.fT.length ≤ 16) && decide (m.rT.length ≤ 16) && exI m.mT.length 16 && decide (m.lT.length ≤ 12)
theorem siteB_sizes {m : Mod} (h : siteSizes m = false) : siteB m = false := by
 unfold siteSizes at h; unfold siteB; rw [h]; rfl
theorem siteB_rest {m : Mod} (h : siteSizes m = true) : siteB m = (soundB (rackOk m) m.rT && m.mT.all (machOk m) && soundB (linkOk m) m.lT) := by
 unfold siteSizes at h; unfold siteB; rw [h]; simp [Bool.and_assoc]
theorem siteSizes_bad {m : Mod} (h : siteSizes m = false) : m.sT.length < 1 ∨ 4 < m.sT.length ∨ 16 < m.fT.length ∨ 16 < m.rT.length ∨ m.mT.length < 1 ∨ 16 < m.mT.length ∨ 12 < m.lT.length := by
 simp [siteSizes, exI] at h; omega
theorem siteSizes_ok {m : Mod} (h : siteSizes m = true) : ¬ m.sT.length < 1 ∧ ¬ 4 < m.sT.length ∧ ¬ 16 < m.fT.length ∧ ¬ 16 < m.rT.length ∧ ¬ m.mT.length < 1 ∧ ¬ 16 < m.mT.length ∧ ¬ 12 < m.lT.length := by
 simp [siteSizes, exI] at h; omega
theorem all_false_at' {α : Type} {l : List α} {p : α → Bool} {k : Nat} (hk : k < l.length) (h : p l[k] = false) : l.all p = false := by
 rw [List.all_eq_false]; exact ⟨l[k], List.getElem_mem _, by simp [h]⟩
theorem all_true_of' {α : Type} {l : List α} {p : α → Bool} (h : ∀ j (hj : j < l.length), p l[j] = true) : l.all p = true := by
 rw [List.all_eq_true]; intro x hx; obtain ⟨j, hj, rfl⟩ := List.getElem_of_mem hx; exact h j hj
theorem siteValid_ref (h : MH) (m : Mod) (w : World) (d : MD w w.heap.size h m) :
    Calls Tryz.prog 41 #[.agg #[.slice h.s m.sT.length h.sc, .slice h.f m.fT.length h.fc, .slice h.r m.rT.length h.rc, .slice h.m m.mT.length h.mc, .slice h.l m.lT.length h.lc, .slice h.i m.iT.length h.ic, .int .i64 m.dT, .int .i64 m.oT, .int .i64 m.vT, .int .i64 m.aT, .slice h.u m.uT.length h.uc]] w fun e w' => e = .returned (.bool (siteB m)) ∧ Below w.heap.size w w' := by
 cases hsz : siteSizes m
 · have HV := hide (siteB_sizes hsz)
   rcases siteSizes_bad hsz with q | q | q | q | q | q | q
   all_goals
    clear hsz d
    go_enter Tryz.func41, Tryz.ntmps41
    go_wp2_with fail
    all_goals
     go_ret
     exact ⟨ret_congr (by rw [HV.out]; rfl), (Below.refl _ _).alloc (Nat.le_refl _) _⟩
 · have HS := hide (siteB_rest hsz)
   obtain ⟨q1, q2, q3, q4, q5, q6, q7⟩ := siteSizes_ok hsz
   clear hsz
   have hl2 := d.ml
   have hl0 := d.rl
   have D := hide d; clear d
   go_enter Tryz.func41, Tryz.ntmps41
   go_wp2_with fail
   have HQ := hide q1
   clear q1 q2 q3 q4 q5 q6 q7
   go_loopw [3] (fun i wr => ∃ k : Nat, k ≤ m.mT.length ∧ i = .int .i64 k ∧ Hid (MW w w.heap.size wr h m) ∧ Hid (∀ j (hj : j < m.mT.length), j < k → machOk m m.mT[j] = true)) (fun i _ => m.mT.length - (intOf i).toNat)
   case atStart => exact ⟨0, Nat.zero_le _, rfl, MW.start w h m, fun j hj h0 => absurd h0 (by omega)⟩
   case round =>
    obtain ⟨k, hk, rfl, hW, hs⟩ := hrel
    have hlt0 := hW.out.lt
    by_cases hlt : k < m.mT.length
    · obtain ⟨c0, c1, c2, c3, c4, c5, c6, c7, c8, c9, c10⟩ := MB.cells hW.out.blk
      clear c0 c1 c4 c5 c6 c7 c8 c9 c10
      have hltI : (k : Int) < (m.mT.length : Int) := by omega
      obtain ⟨b, off, hA, hb, x0, x1, x2, _⟩ := (hW.out.md D.out).dM.mach hlt
      rw [hA] at c3
      clear hA x0
      cases e1 : exI m.mT[k].rack m.rT.length
      · have HV := hide (show siteB m = false by rw [HS.out, all_false_at' hlt (by simp [machOk, e1])]; simp)
        go_wp2_with fail
        go_quiet ((first | (go_at_call 45; exact quiet_left (exists_ref _ _ _)) | (go_at_call 87; exact quiet_left (number_ref _ _))))
        go_wp2_with fail
        go_ret
        exact ⟨ret_congr (by rw [HV.out]; rfl), (hW.out.drewN _).b⟩
      cases e2 : wiI m.mT[k].cap 0 1048576
      · have HV := hide (show siteB m = false by rw [HS.out, all_false_at' hlt (by simp [machOk, e2])]; simp)
        go_wp2_with fail
        go_quiet ((first | (go_at_call 45; exact quiet_left (exists_ref _ _ _)) | (go_at_call 87; exact quiet_left (number_ref _ _))))
        go_wp2_with fail
        go_ret
        exact ⟨ret_congr (by rw [HV.out]; rfl), (hW.out.drewN _).b⟩
      · have HK := hide (show machOk m m.mT[k] = true by simp [machOk, e1, e2])
        go_wp2_with fail
        go_quiet ((first | (go_at_call 45; exact quiet_left (exists_ref _ _ _)) | (go_at_call 87; exact quiet_left (number_ref _ _))))
        go_wp2_with fail
        go_roundw
        case rel => exact ⟨k + 1, by omega, by go_num, hide (hW.out.drewN _), fun q hq' h1 => by
         rcases Nat.lt_or_ge q k with h2 | h2
         · exact hs q hq' h2
         · obtain rfl : q = k := by omega
           exact HK⟩
        case measure => simp [intOf]; omega
    · have HM := hide (show m.mT.all (machOk m) = true from all_true_of' fun q hq => hs q hq (by omega))
      obtain ⟨c0, c1, c2, c3, c4, c5, c6, c7, c8, c9, c10⟩ := MB.cells hW.out.blk
      have HR := hide (racks_ref h m wr (hW.out.md D.out))
      cases e1 : soundB (rackOk m) m.rT
      · have HV := hide (show siteB m = false by rw [HS.out, e1]; simp)
        rw [e1] at HR
        clear e1
        go_wp2_with (go_at_call 88; refine HR.out.mono ?_; rintro e w2 ⟨rfl, hb2⟩)
        go_ret
        exact ⟨ret_congr (by rw [HV.out]; rfl), (hW.out.grow hb2).b⟩
      · have HV := hide (show siteB m = soundB (linkOk m) m.lT by rw [HS.out, e1, HM.out]; simp)
        rw [e1] at HR
        clear e1
        go_wp2_with (first
         | (go_at_call 88; refine HR.out.mono ?_; rintro e w2 ⟨rfl, hb2⟩
            have hW3 := hW.out.grow hb2
            obtain ⟨a0, a1, a2, a3, a4, a5, a6, a7, a8, a9, a10⟩ := MB.cells hW3.blk)
         | (go_at_call 89; refine (links_ref h m w2 (hW3.md D.out)).mono ?_; rintro e w3 ⟨rfl, hb3⟩))
        go_ret
        exact ⟨ret_congr (by rw [HV.out]; rfl), (hW3.grow hb3).b⟩
theorem Strs.newRow2 (w : World) {b : Nat} (t : TypeId) (l : List ByteArray) (hb : b = w.heap.size) : Strs (w.alloc (.cells (l.map Value.string).toArray t)) (w.heap.size + 1) (some ⟨b, 0, none⟩) l := by
 subst hb; exact Strs.newRow w t l
theorem OwnS.form3 {B : Nat} {w : World} {v : Value} {l : List ByteArray} (h : OwnS B w v l) : ∃ A c, v = .slice A l.length c ∧ l.length ≤ c ∧ Strs w w.heap.size A l := by
 have h2 := h
 rcases h2.2 with ⟨rfl, h0⟩ | ⟨g, cap, cur, rfl, _, _, hc, _⟩
 · have : l = [] := List.eq_nil_of_length_eq_zero h0
   subst this
   exact ⟨none, 0, rfl, Nat.le_refl _, Reads.none_⟩
 · exact ⟨_, _, rfl, hc, Reads.of_own h⟩
theorem MW.drew {w wr : World} {bm : Nat} {h : MH} {m : Mod} (d : MW w bm wr h m) : MW w bm wr.drew h m := ⟨d.b.drew, d.blk⟩
theorem MW.grown {w wr w2 : World} {bm : Nat} {h : MH} {m : Mod} {v : Value} (d : MW w bm wr h m) (hg : wr.grownBy w2 v.ownBlock) (hB : ∀ k, v.ownBlock = some k → w.heap.size + 1 ≤ k) (hbm : bm ≤ w.heap.size) : MW w bm w2 h m :=
 ⟨d.b.grown hg d.b.size fun k hk => by have := hB k hk; omega, d.blk.grown hg fun e => by have := hB _ e.symm; omega⟩
structure NW (w wr : World) (h : MH) (m : Mod) (v : Value) (l : List ByteArray) : Prop where
 mw : MW w w.heap.size wr h m
 own : OwnS (w.heap.size + 1) wr v l
theorem NW.step {w wr w2 : World} {h : MH} {m : Mod} {v v2 : Value} {l l2 : List ByteArray} (d : NW w wr h m v l) (s : ByteArray) (hO : OwnS (w.heap.size + 1) w2 v2 l2) (hg : (wr.alloc (.cells #[.string s] 9)).grownBy w2 v.ownBlock) : NW w w2 h m v2 l2 :=
 ⟨(d.mw.grow ((Below.refl _ _).alloc (Nat.le_refl _) _)).grown hg (fun k hk => (d.own.lt k hk).1) (Nat.le_refl _), hO⟩
def nmR (m : Mod) (k : Nat) : List ByteArray := m.sT ++ m.fT ++ (m.rT.take k).map (·.name)
def nmM (m : Mod) (k : Nat) : List ByteArray := nmR m m.rT.length ++ (m.mT.take k).map (·.name)
def nmI (m : Mod) (k : Nat) : List ByteArray := nmM m m.mT.length ++ (m.iT.take k).map (·.name)
theorem nmR_0 (m : Mod) : m.sT ++ m.fT = nmR m 0 := by simp [nmR]
theorem nmM_0 (m : Mod) : nmR m m.rT.length = nmM m 0 := by simp [nmM]
theorem nmI_0 (m : Mod) : nmM m m.mT.length = nmI m 0 := by simp [nmI]
theorem nmI_all (m : Mod) : nmI m m.iT.length = nameList m := by simp [nmI, nmM, nmR, nameList]
theorem nmR_succ (m : Mod) {k : Nat} (h : k < m.rT.length) : nmR m k ++ [m.rT[k].name] = nmR m (k + 1) := by
 unfold nmR
 rw [List.take_succ_eq_append_getElem h, List.map_append, ← List.append_assoc]; rfl
theorem nmM_succ (m : Mod) {k : Nat} (h : k < m.mT.length) : nmM m k ++ [m.mT[k].name] = nmM m (k + 1) := by
 unfold nmM
 rw [List.take_succ_eq_append_getElem h, List.map_append, ← List.append_assoc]; rfl
theorem nmI_succ (m : Mod) {k : Nat} (h : k < m.iT.length) : nmI m k ++ [m.iT[k].name] = nmI m (k + 1) := by
 unfold nmI
 rw [List.take_succ_eq_append_getElem h, List.map_append, ← List.append_assoc]; rfl
theorem nm_len {m : Mod} (q1 : m.sT.length ≤ 100) (q2 : m.fT.length ≤ 100) (q3 : m.rT.length ≤ 100) (q4 : m.mT.length ≤ 100) (q5 : m.iT.length ≤ 100) (k : Nat) : (nmR m k).length ≤ 600 ∧ (nmM m k).length ≤ 600 ∧ (nmI m k).length ≤ 600 := by
 simp [nmR, nmM, nmI]; omega
theorem names15_ref (h : MH) (m : Mod) (w : World) (d : MD w w.heap.size h m) (q1 : m.sT.length ≤ 100) (q2 : m.fT.length ≤ 100) (q3 : m.rT.length ≤ 100) (q4 : m.mT.length ≤ 100) (q5 : m.iT.length ≤ 100) :
    Calls Tryz.prog 90 #[.agg #[.slice h.s m.sT.length h.sc, .slice h.f m.fT.length h.fc, .slice h.r m.rT.length h.rc, .slice h.m m.mT.length h.mc, .slice h.l m.lT.length h.lc, .slice h.i m.iT.length h.ic, .int .i64 m.dT, .int .i64 m.oT, .int .i64 m.vT, .int .i64 m.aT, .slice h.u m.uT.length h.uc]] w fun e w' => ∃ A c, e = .returned (.slice A (nameList m).length c) ∧ (nameList m).length ≤ c ∧ Strs w' w'.heap.size A (nameList m) ∧ Below w.heap.size w w' := by
 have hO0 : OwnS (w.heap.size + 1) ((w.alloc (.cells #[.slice h.s m.sT.length h.sc, .slice h.f m.fT.length h.fc, .slice h.r m.rT.length h.rc, .slice h.m m.mT.length h.mc, .slice h.l m.lT.length h.lc, .slice h.i m.iT.length h.ic, .int .i64 m.dT, .int .i64 m.oT, .int .i64 m.vT, .int .i64 m.aT, .slice h.u m.uT.length h.uc] 32)).alloc (.cells #[] 9)) (.slice (some ⟨w.heap.size + 1, 0, none⟩) 0 0) [] := by
  have := OwnS.new (B := w.heap.size + 1) (w.alloc (.cells #[.slice h.s m.sT.length h.sc, .slice h.f m.fT.length h.fc, .slice h.r m.rT.length h.rc, .slice h.m m.mT.length h.mc, .slice h.l m.lT.length h.lc, .slice h.i m.iT.length h.ic, .int .i64 m.dT, .int .i64 m.oT, .int .i64 m.vT, .int .i64 m.aT, .slice h.u m.uT.length h.uc] 32)) [] (by simp) (by decide)
  simpa using this
 have hM0 := (MW.start w h m).grow ((Below.refl _ _).alloc (Nat.le_refl _) (.cells #[] 9))
 have hdS := (hM0.md d).dS
 have H0 := hide (And.intro hO0 (And.intro hM0 hdS))
 clear hO0 hM0 hdS
 have D := hide d; clear d
 go_enter Tryz.func90, Tryz.ntmps90
 go_wp2_with fail
 go_region_law
  ((first
    | (refine step_append_strs rfl _ _ rfl (w.heap.size + 1) (.slice (some ⟨w.heap.size + 1, 0, none⟩) 0 0) [] rfl (OwnS.drew H0.out.1) _ h.s h.sc m.sT rfl H0.out.2.2 (by simp; omega) (by simp) ?_; intro v1 w1 hO1 hg1 hv1; rw [List.nil_append] at hO1
       have hM1 := H0.out.2.1.drew.grown hg1 (fun k hk => ((OwnS.drew H0.out.1).lt k hk).1) (Nat.le_refl _)
       obtain ⟨a0, a1, a2, a3, a4, a5, a6, a7, a8, a9, a10⟩ := MB.cells hM1.blk
       have hF1 := (hM1.md D.out).dF
       have hL1 := hM1.lt
       clear a0 a2 a3 a4 a5 a6 a7 a8 a9 a10 hg1 hv1)
    | (refine step_append_strs rfl _ _ rfl (w.heap.size + 1) v1 m.sT rfl hO1 _ h.f h.fc m.fT rfl hF1 (by omega) (by omega) ?_; intro v2 w2 hO2 hg2 hv2
       have hM2 := hM1.grown hg2 (fun k hk => (hO1.lt k hk).1) (Nat.le_refl _)
       clear hv2 hg2)))
 all_goals
  have hN2 : NW w w2 h m v2 (nmR m 0) := ⟨hM2, by rw [← nmR_0]; exact hO2⟩
  have HN2 := hide hN2
  have HL := hide (nm_len q1 q2 q3 q4 q5)
  clear hM2 hO2 hM1 hO1 hF1 a1 hL1 hN2
  go_wp2_with fail
  go_loopw [3, 4] (fun v i wr => ∃ k : Nat, k ≤ m.rT.length ∧ i = .int .i64 k ∧ Hid (NW w wr h m v (nmR m k))) (fun _ i _ => m.rT.length - (intOf i).toNat)
  case atStart => exact ⟨0, Nat.zero_le _, rfl, HN2⟩
  case round =>
   obtain ⟨k, hk, rfl, hN⟩ := hrel
   obtain ⟨a0, a1, a2, a3, a4, a5, a6, a7, a8, a9, a10⟩ := MB.cells hN.out.mw.blk
   have hL1 := hN.out.mw.lt
   clear a0 a1 a4 a5 a6 a7 a8 a9 a10
   by_cases hlt : k < m.rT.length
   · obtain ⟨b, off, hA, hb, x0, x1, x2, _⟩ := (hN.out.mw.md D.out).dR.rack hlt
     rw [hA] at a2
     have E := hide (nmR_succ m hlt)
     clear hA x1 x2
     have hlen := (HL.out k).1
     go_wp2_with (at_builtin; refine append_strs rfl _ _ rfl (w.heap.size + 1) _ (nmR m k) rfl (hN.out.own.alloc _) _ _ 1 [m.rT[k].name] rfl (Strs.newRow2 wr 9 [m.rT[k].name] rfl) (by simp; omega) (by simp; omega) ?_; intro v3 x3 hO3 hg3 _; have hN3 := hN.out.step m.rT[k].name hO3 hg3; rw [E.out] at hN3; clear hO3 hg3)
     go_roundw
     case rel => exact ⟨k + 1, by omega, by go_num, hN3⟩
     case measure => simp [intOf]; omega
   · obtain rfl : k = m.rT.length := by omega
     go_wp2_with fail
     rw [nmM_0] at hN
     go_loopw [3, 5] (fun v i wr => ∃ k : Nat, k ≤ m.mT.length ∧ i = .int .i64 k ∧ Hid (NW w wr h m v (nmM m k))) (fun _ i _ => m.mT.length - (intOf i).toNat)
     case atStart => exact ⟨0, Nat.zero_le _, rfl, hN⟩
     case round =>
      clear hN a2 a3 hL1
      obtain ⟨k, hk, rfl, hN⟩ := hrel
      obtain ⟨a0, a1, a2, a3, a4, a5, a6, a7, a8, a9, a10⟩ := MB.cells hN.out.mw.blk
      have hL1 := hN.out.mw.lt
      clear a0 a1 a2 a4 a6 a7 a8 a9 a10
      by_cases hlt : k < m.mT.length
      · obtain ⟨b, off, hA, hb, x0, x1, x2, _⟩ := (hN.out.mw.md D.out).dM.mach hlt
        rw [hA] at a3
        have E := hide (nmM_succ m hlt)
        clear hA x1 x2
        have hlen := (HL.out k).2.1
        go_wp2_with (at_builtin; refine append_strs rfl _ _ rfl (w.heap.size + 1) _ (nmM m k) rfl (hN.out.own.alloc _) _ _ 1 [m.mT[k].name] rfl (Strs.newRow2 _ 9 [m.mT[k].name] rfl) (by simp; omega) (by simp; omega) ?_; intro v3 x3 hO3 hg3 _; have hN3 := hN.out.step m.mT[k].name hO3 hg3; rw [E.out] at hN3; clear hO3 hg3)
        go_roundw
        case rel => exact ⟨k + 1, by omega, by go_num, hN3⟩
        case measure => simp [intOf]; omega
      · obtain rfl : k = m.mT.length := by omega
        go_wp2_with fail
        rw [nmI_0] at hN
        go_loopw [3, 6] (fun v i wr => ∃ k : Nat, k ≤ m.iT.length ∧ i = .int .i64 k ∧ Hid (NW w wr h m v (nmI m k))) (fun _ i _ => m.iT.length - (intOf i).toNat)
        case atStart => exact ⟨0, Nat.zero_le _, rfl, hN⟩
        case round =>
         clear hN a3 a5 hL1
         obtain ⟨k, hk, rfl, hN⟩ := hrel
         obtain ⟨a0, a1, a2, a3, a4, a5, a6, a7, a8, a9, a10⟩ := MB.cells hN.out.mw.blk
         have hL1 := hN.out.mw.lt
         clear a0 a1 a2 a3 a4 a6 a7 a8 a9 a10
         by_cases hlt : k < m.iT.length
         · obtain ⟨b, off, A2, c2, hA, hb, x0, x1, x2, x3, x4, x5, x6, _⟩ := (hN.out.mw.md D.out).dI.item hlt
           rw [hA] at a5
           have E := hide (nmI_succ m hlt)
           clear hA x1 x2 x3 x4 x5 x6
           have hlen := (HL.out k).2.2
           go_wp2_with (at_builtin; refine append_strs rfl _ _ rfl (w.heap.size + 1) _ (nmI m k) rfl (hN.out.own.alloc _) _ _ 1 [m.iT[k].name] rfl (Strs.newRow2 _ 9 [m.iT[k].name] rfl) (by simp; omega) (by simp; omega) ?_; intro v3 x3 hO3 hg3 _; have hN3 := hN.out.step m.iT[k].name hO3 hg3; rw [E.out] at hN3; clear hO3 hg3)
           go_roundw
           case rel => exact ⟨k + 1, by omega, by go_num, hN3⟩
           case measure => simp [intOf]; omega
         · obtain rfl : k = m.iT.length := by omega
           obtain ⟨A, c, hv, hc, hS⟩ := hN.out.own.form3
           have HV := hide hv
           clear hv
           go_wp2_with fail
           go_ret
           exact ⟨A, c, ret_congr (by rw [← nmI_all]; exact HV.out), by rw [← nmI_all]; exact hc, by rw [← nmI_all]; exact hS, hN.out.mw.b⟩
theorem OwnS.lower {w : World} {B B' : Nat} {v : Value} {l : List ByteArray} (h : OwnS B' w v l) (hB : B ≤ B') : OwnS B w v l := by
 refine ⟨h.1, ?_⟩
 rcases h.2 with h0 | ⟨g, cap, cur, e1, e2, h3⟩
 · exact .inl h0
 · exact .inr ⟨g, cap, cur, e1, Nat.le_trans hB e2, h3⟩
def MachN (m : Mod) (l : List Int) (w : World) (e : Ending) (w' : World) : Prop := ∃ v, e = .returned v ∧ OwnS w.heap.size w' v (l.map (mchN m)) ∧ Below w.heap.size w w'
theorem machines19 (h : MH) (m : Mod) (A : Option Addr) (c : Nat) (l : List Int) (w : World) (d : MD w w.heap.size h m) (hl : Ints w w.heap.size A l) (hn : ∀ n ∈ l, 1 ≤ n ∧ n ≤ (m.mT.length : Int)) (hs : l.length ≤ 1000) :
    Calls Tryz.prog 37 #[.agg #[.slice h.s m.sT.length h.sc, .slice h.f m.fT.length h.fc, .slice h.r m.rT.length h.rc, .slice h.m m.mT.length h.mc, .slice h.l m.lT.length h.lc, .slice h.i m.iT.length h.ic, .int .i64 m.dT, .int .i64 m.oT, .int .i64 m.vT, .int .i64 m.aT, .slice h.u m.uT.length h.uc], .slice A l.length c] w (MachN m l w) := by
 have HN0 : Hid (NW w (w.alloc (.cells #[.slice h.s m.sT.length h.sc, .slice h.f m.fT.length h.fc, .slice h.r m.rT.length h.rc, .slice h.m m.mT.length h.mc, .slice h.l m.lT.length h.lc, .slice h.i m.iT.length h.ic, .int .i64 m.dT, .int .i64 m.oT, .int .i64 m.vT, .int .i64 m.aT, .slice h.u m.uT.length h.uc] 32)) h m (.slice none 0 0) ((l.take 0).map (mchN m))) := hide ⟨MW.start w h m, OwnS.nil_ _ _⟩
 have D := hide d; have HL := hide hl; have HA := hide hn
 clear d hl hn
 go_enter Tryz.func37, Tryz.ntmps37
 go_wp2_with fail
 go_loopw [5, 7, 10] (fun v j i wr => ∃ k : Nat, k ≤ l.length ∧ i = .int .i64 k ∧ Hid (NW w wr h m v ((l.take k).map (mchN m)))) (fun _ _ i _ => l.length - (intOf i).toNat)
 case atStart => exact ⟨0, Nat.zero_le _, rfl, HN0⟩
 case round =>
  clear HN0
  obtain ⟨k, hk, rfl, hN⟩ := hrel
  obtain ⟨a0, a1, a2, a3, a4, a5, a6, a7, a8, a9, a10⟩ := MB.cells hN.out.mw.blk
  have hL1 := hN.out.mw.lt
  clear a0 a1 a2 a4 a5 a6 a7 a8 a9 a10
  by_cases hlt : k < l.length
  · obtain ⟨b, off, hA, hb, x0⟩ := int_at (HL.out.grow hN.out.mw.b) hlt
    obtain ⟨hn1, hn2⟩ := HA.out l[k] (List.getElem_mem _)
    obtain ⟨q, hq⟩ : ∃ q : Nat, l[k] = (q : Int) + 1 := ⟨(l[k] - 1).toNat, by omega⟩
    have hqm : q < m.mT.length := by omega
    obtain ⟨b2, off2, hA2, hb2, y0, y1, y2, _⟩ := (hN.out.mw.md D.out).dM.mach hqm
    have ml := D.out.ml
    have E := hide (mchN_succ m l hlt hq hqm)
    rw [hq] at x0
    rw [hA2] at a3
    have hkI : (k : Int) < (l.length : Int) := by omega
    have hqI : (q : Int) < (m.mT.length : Int) := by omega
    have hlen : ((l.take k).map (mchN m)).length ≤ 1000 := by simp; omega
    have HLEN := hide hlen
    subst hA
    clear hA2 hq hn1 hn2 y1 y2 hlen
    go_wp2_with (at_builtin; refine append_strs rfl _ _ rfl (w.heap.size + 1) _ ((l.take k).map (mchN m)) rfl (hN.out.own.alloc _) _ _ 1 [m.mT[q].name] rfl (Strs.newRow2 wr 9 [m.mT[q].name] rfl) (by have := HLEN.out; simp at this ⊢; omega) (by simp; omega) ?_; intro v3 x3 hO3 hg3 _; have hN3 := hide (hN.out.step m.mT[q].name hO3 hg3); rw [E.out] at hN3; clear hO3 hg3)
    go_roundw
    case rel => exact ⟨k + 1, by omega, by go_num, hN3⟩
    case measure => simp [intOf]; omega
  · obtain rfl : k = l.length := by omega
    rw [List.take_length] at hN
    go_wp2_with fail
    go_ret
    exact ⟨_, rfl, OwnS.lower hN.out.own (Nat.le_succ _), hN.out.mw.b⟩
end Go.Proofs.YtcfogipaadhbeaaGreatDoor
