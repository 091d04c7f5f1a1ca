/- The walk of exodusref15.Machines: whether a list names machines. Conditions: lengths that fit memory. -/
import Derived.Test.YtpggamapmgpjcaaGreatDoorK06
import Derived.IntWalk

namespace Go.Proofs.YtpggamapmgpjcaaGreatDoor
open Go Go.RowKit Go.Proofs

theorem incB_false {nm : Int} {l : List Int} {k : Nat} (hk : k < l.length) (h : exI l[k] nm = false ∨ (0 < k ∧ l[k] ≤ l.getD (k - 1) 0)) : incB nm l = false := by
  unfold incB
  rw [Bool.and_eq_false_iff]
  refine .inr ?_
  rw [decide_eq_false_iff_not]
  intro hh
  obtain ⟨h1, h2⟩ := hh k hk
  rcases h with h | ⟨h3, h4⟩
  · rw [h] at h1; cases h1
  · have := h2 h3; omega
theorem incB_end {nm : Int} {l : List Int} (h : ∀ j (hj : j < l.length), j < l.length → exI l[j] nm = true ∧ (0 < j → l.getD (j - 1) 0 < l[j])) : incB nm l = decide (0 < l.length) := by
  unfold incB
  rw [decide_eq_true (p := ∀ i (h : i < l.length), exI l[i] nm = true ∧ (0 < i → l.getD (i - 1) 0 < l[i])) fun i hi => h i hi hi, Bool.and_true]
set_option maxRecDepth 100000 in
set_option maxHeartbeats 8000000 in
theorem machines15_ref (h : MH) (m : Mod) (A : Option Addr) (c : Nat) (l : List Int) (w : World) (hl : l.length ≤ 9223372036854775807) (hI : Ints w w.heap.size A l) :
    Calls Tryz.prog 168 #[.agg #[.slice h.s m.sites.length h.sc, .slice h.f m.feeds.length h.fc, .slice h.r m.racks.length h.rc, .slice h.m m.machs.length h.mc, .slice h.l m.links.length h.lc, .slice h.i m.items.length h.ic, .int .i64 m.dark, .int .i64 m.slots, .int .i64 m.reserve, .int .i64 m.failures, .slice h.u m.rules.length h.uc], .slice A l.length c] w fun e w' => e = .returned (.bool (incB m.machs.length l)) ∧ Below w.heap.size w w' := by
  go_enter Tryz.func168, Tryz.ntmps168
  go_wp2_with fail
  go_loopw [5] (fun i wr => ∃ k : Nat, k ≤ l.length ∧ i = .int .i64 k ∧ Hid (MW w w.heap.size wr h m) ∧ Hid (∀ j (hj : j < l.length), j < k → exI l[j] m.machs.length = true ∧ (0 < j → l.getD (j - 1) 0 < l[j]))) (fun i _ => l.length - (intOf i).toNat)
  case atStart => exact ⟨0, Nat.zero_le _, rfl, MW.start w h m, fun j hj h0 => absurd h0 (by omega)⟩
  case round =>
    obtain ⟨k, hk, rfl, hW, hs⟩ := hrel
    have hL1 := hW.out.lt
    by_cases hlt : k < l.length
    · have hltI : (k : Int) < (l.length : Int) := by omega
      obtain ⟨a0, a1, a2, a3, a4, a5, a6, a7, a8, a9, a10⟩ := MB.cells hW.out.blk
      clear a0 a1 a2 a4 a5 a6 a7 a8 a9 a10
      obtain ⟨b, off, hA, hb, x0⟩ := int_at (hI.grow hW.out.b) hlt
      subst hA
      cases e1 : exI l[k] m.machs.length
      · have HV := hide (incB_false (nm := m.machs.length) hlt (.inl e1))
        go_wp2_with fail
        go_quiet ((go_at_call 108; exact quiet_left (exists_ref _ _ _)))
        go_wp2_with fail
        go_ret
        exact ⟨ret_congr (by rw [HV.out]; rfl), (hW.out.drewN _).b⟩
      by_cases hk0 : k = 0
      · have hk0I : decide (0 < k) = false := by simp [hk0]
        have HK := hide (show exI l[k] m.machs.length = true ∧ (0 < k → l.getD (k - 1) 0 < l[k]) from ⟨e1, fun h => by omega⟩)
        have HK0 := hide hk0
        clear hk0
        go_wp2_with fail
        go_quiet ((go_at_call 108; exact quiet_left (exists_ref _ _ _)))
        go_wp2_with fail
        go_roundw
        case rel => exact ⟨k + 1, by omega, by go_num, hide (hW.out.drewN _), fun q hq' h1 => by
          rcases Nat.lt_or_ge q k with h2 | h2
          · exact hs q hq' h2
          · obtain rfl : q = k := by omega
            exact HK⟩
        case measure => simp [intOf]; omega
      · obtain ⟨j, rfl⟩ : ∃ j, k = j + 1 := ⟨k - 1, by omega⟩
        obtain ⟨b', off', hA', _, x1⟩ := int_at (hI.grow hW.out.b) (k := j) (by omega)
        injection hA' with hA'
        injection hA' with hA1 hA2
        subst hA1
        subst hA2
        have hw1 : IntKind.i64.wrap ((j + 1 : Nat) - 1 : Int) = (j : Int) := by rw [IntWalk.i64_in _ (by omega)]; omega
        have hjI : (j : Int) < (l.length : Int) := by omega
        have hg : l.getD (j + 1 - 1) 0 = l[j] := by simp [List.getD, show j < l.length by omega]
        by_cases e2 : l[j + 1] ≤ l[j]
        · have HV := hide (incB_false (nm := m.machs.length) hlt (.inr ⟨by omega, by rw [hg]; exact e2⟩))
          clear hg
          go_wp2_with fail
          go_quiet ((go_at_call 108; exact quiet_left (exists_ref _ _ _)))
          go_wp2_with fail
          go_ret
          exact ⟨ret_congr (by rw [HV.out]; rfl), (hW.out.drewN _).b⟩
        · have HK := hide (show exI l[j + 1] m.machs.length = true ∧ (0 < j + 1 → l.getD (j + 1 - 1) 0 < l[j + 1]) from ⟨e1, fun h => by rw [hg]; omega⟩)
          clear hg
          go_wp2_with fail
          go_quiet ((go_at_call 108; exact quiet_left (exists_ref _ _ _)))
          go_wp2_with fail
          go_roundw
          case rel => exact ⟨j + 1 + 1, by omega, by go_num, hide (hW.out.drewN _), fun q hq' h1 => by
            rcases Nat.lt_or_ge q (j + 1) with h2 | h2
            · exact hs q hq' h2
            · obtain rfl : q = j + 1 := by omega
              exact HK⟩
          case measure => simp [intOf]; omega
    · have HV := hide (incB_end (nm := m.machs.length) fun q hq _ => hs.out q hq (by omega))
      go_wp2_with fail
      go_ret
      exact ⟨ret_congr (by rw [HV.out]; rfl), hW.out.b⟩
end Go.Proofs.YtpggamapmgpjcaaGreatDoor
