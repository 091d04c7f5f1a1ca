/- The walks of exodusref15 and exodusref17: what their functions return. Conditions: lengths that fit memory. -/
import Derived.Test.YtanhkeeifnimgaaGreatDoorProg
import Derived.Test.YtanhkeeifnimgaaGreatDoorSpec17
import Derived.Deep.RegionHeld3
import Derived.BigQuiet
namespace Go.Proofs.YtanhkeeifnimgaaGreatDoor
open Go Go.RowKit

set_option maxHeartbeats 400000 in
theorem has_any (A : Option Addr) (c : Nat) (l : List ByteArray) (s : ByteArray) (w : World) (hl : l.length ≤ 9223372036854775807) (h : Strs w w.heap.size A l) :
    Calls Tryz.prog 49 #[.slice A l.length c, .string s] w fun e w' => e = .returned (.bool (hasS l s)) ∧ w = w' := by
  go_enter Tryz.func49, Tryz.ntmps49
  go_wp2
  go_loop [5] (fun i => ∃ k : Nat, k ≤ l.length ∧ i = .int .i64 k ∧ ∀ j (hj : j < l.length), j < k → l[j] ≠ s) (fun i => l.length - (intOf i).toNat)
  case atStart => exact ⟨0, Nat.zero_le _, rfl, fun j hj h0 => absurd h0 (by omega)⟩
  case round =>
    obtain ⟨k, hk, rfl, hs⟩ := hrel
    have HS := hide hs; clear hs
    by_cases hlt : k < l.length
    · obtain ⟨ad, rfl, hb, hc⟩ := h.at_ hlt
      by_cases he : l[k] = s
      · have hq := toList_beq_true he
        have hm : hasS l s = true := by rw [hasS_iff, ← he]; exact List.getElem_mem _
        have HE := hide he; clear he
        have HM := hide hm; clear hm
        go_wp2
        go_ret
        exact ⟨ret_congr (by rw [HM.out]; rfl), rfl⟩
      · have hq := toList_beq_false he
        have HE := hide he; clear he
        go_wp2
        go_round
        case rel => exact ⟨k + 1, by omega, by go_num, fun j hj h1 => by
          rcases Nat.lt_or_ge j k with h2 | h2
          · exact HS j hj h2
          · obtain rfl : j = k := by omega
            exact HE⟩
        case measure => simp [intOf]; omega
    · have hm : hasS l s = false := by
        rw [Bool.eq_false_iff, Ne, hasS_iff]
        intro hm; obtain ⟨j, hj, e⟩ := List.getElem_of_mem hm; exact HS j hj (by omega) e
      have HM := hide hm; clear hm
      go_wp2
      go_ret
      exact ⟨ret_congr (by rw [HM.out]; rfl), rfl⟩

set_option maxHeartbeats 400000 in
theorem letter_any (c : Int) (w : World) : Calls Tryz.prog 48 #[.int .u8 c] w fun e w' => e = .returned (.bool (letterI c)) ∧ w = w' := by
  by_cases h1 : 97 ≤ c <;> by_cases h2 : c ≤ 122
  all_goals
    have hL : letterI c = (decide (97 ≤ c) && decide (c ≤ 122)) := rfl
    have HL := hide hL; clear hL
    go_enter Tryz.func48, Tryz.ntmps48
    go_wp2
    go_ret
    exact ⟨ret_congr (by rw [HL.out]; simp [*]), rfl⟩

set_option maxHeartbeats 400000 in
theorem digit_any (c : Int) (w : World) : Calls Tryz.prog 51 #[.int .u8 c] w fun e w' => e = .returned (.bool (digitI c)) ∧ w = w' := by
  by_cases h1 : 48 ≤ c <;> by_cases h2 : c ≤ 57
  all_goals
    have hL : digitI c = (decide (48 ≤ c) && decide (c ≤ 57)) := rfl
    have HL := hide hL; clear hL
    go_enter Tryz.func51, Tryz.ntmps51
    go_wp2
    go_ret
    exact ⟨ret_congr (by rw [HL.out]; simp [*]), rfl⟩

set_option maxHeartbeats 400000 in
theorem keywords_any (w : World) : Calls Tryz.prog 50 #[] w fun e w' => ∃ A, e = .returned (.slice A keywords.length keywords.length) ∧ Strs w' w'.heap.size A keywords ∧ Below w.heap.size w w' := by
  go_enter Tryz.func50, Tryz.ntmps50
  go_wp2
  go_ret
  exact ⟨some ⟨w.heap.size, 0, none⟩, rfl, (Strs.newRow w 9 keywords).more (by simp), (Below.refl _ _).alloc (Nat.le_refl _) _⟩


set_option maxHeartbeats 1000000 in
theorem isName_ref (s : ByteArray) (w : World) (hs : s.size ≤ 9223372036854775807) :
    Calls Tryz.prog 26 #[.string s] w fun e w' => e = .returned (.bool (isName s)) ∧ Below w.heap.size w w' := by
  by_cases h1 : s.size < 1
  · have HN := hide (isName_short h1)
    go_enter Tryz.func26, Tryz.ntmps26
    go_wp2
    go_ret
    exact ⟨ret_congr (by rw [HN.out]; rfl), Below.refl _ _⟩
  by_cases h2 : 31 < s.size
  · have HN := hide (isName_long h2)
    go_enter Tryz.func26, Tryz.ntmps26
    go_wp2
    go_ret
    exact ⟨ret_congr (by rw [HN.out]; rfl), Below.refl _ _⟩
  cases h3 : letterI s[0].toNat
  · have HN := hide (isName_first (by omega) h3)
    go_enter Tryz.func26, Tryz.ntmps26
    go_wp2_with (go_at_call 48; refine (letter_any _ _).mono ?_; rintro e w' ⟨rfl, rfl⟩)
    go_ret
    exact ⟨ret_congr (by rw [HN.out]; rfl), Below.refl _ _⟩
  cases hb : hasS keywords s
  rotate_left
  · have HN := hide (isName_key hb)
    have HB := hide hb
    go_enter Tryz.func26, Tryz.ntmps26
    go_wp2_with (first
      | (go_at_call 48; refine (letter_any _ _).mono ?_; rintro e w' ⟨rfl, rfl⟩)
      | (go_at_call 50; refine (keywords_any _).mono ?_; rintro e w1 ⟨A, rfl, hA, hw1⟩)
      | (go_at_call 49; refine (has_any A _ keywords s _ (by decide) hA).mono ?_; rintro e w' ⟨rfl, rfl⟩))
    go_ret
    exact ⟨ret_congr (by rw [HN.out]; rfl), hw1⟩
  · go_enter Tryz.func26, Tryz.ntmps26
    go_wp2_with (first
      | (go_at_call 48; refine (letter_any _ _).mono ?_; rintro e w' ⟨rfl, rfl⟩)
      | (go_at_call 50; refine (keywords_any _).mono ?_; rintro e w1 ⟨A, rfl, hA, hw1⟩)
      | (go_at_call 49; refine (has_any A _ keywords s _ (by decide) hA).mono ?_; rintro e w' ⟨rfl, rfl⟩))
    have HW := hide hw1; clear hw1
    have H3 := hide h3; clear h3
    have HB := hide hb; clear hb
    clear hA
    go_loop [3] (fun i => ∃ k : Nat, k ≤ s.size ∧ i = .int .i64 k ∧ ∀ j (hj : j < s.size), j < k → nameI s[j].toNat = true) (fun i => s.size - (intOf i).toNat)
    case atStart => exact ⟨0, Nat.zero_le _, rfl, fun j hj h0 => absurd h0 (by omega)⟩
    case round =>
      obtain ⟨k, hk, rfl, hn⟩ := hrel
      have HN := hide hn; clear hn
      by_cases hlt : k < s.size
      · cases hx : nameI s[k].toNat
        · obtain ⟨e1, e2, e3⟩ := nameI_false hx
          have HX := hide hx; clear hx
          go_wp2_with (first
            | (go_at_call 48; refine (letter_any _ _).mono ?_; rintro e w' ⟨rfl, rfl⟩)
            | (go_at_call 51; refine (digit_any _ _).mono ?_; rintro e w' ⟨rfl, rfl⟩))
          go_ret
          exact ⟨ret_congr (by rw [isName_at hlt HX]; rfl), HW.out⟩
        · rcases nameI_true hx with e1 | ⟨e1, e2⟩ | ⟨e1, e2, e3⟩
          all_goals
            have HX := hide hx; clear hx
            go_wp2_with (first
              | (go_at_call 48; refine (letter_any _ _).mono ?_; rintro e w' ⟨rfl, rfl⟩)
              | (go_at_call 51; refine (digit_any _ _).mono ?_; rintro e w' ⟨rfl, rfl⟩))
            go_round
            case rel => exact ⟨k + 1, by omega, by go_num, fun j hj h1 => by
              rcases Nat.lt_or_ge j k with h2 | h2
              · exact HN j hj h2
              · obtain rfl : j = k := by omega
                exact HX⟩
            case measure => simp [intOf]; omega
      · go_wp2
        go_ret
        exact ⟨ret_congr (by rw [isName_true (by omega) (by omega) H3.out HB.out (fun j hj => HN.out j hj (by omega))]; rfl), HW.out⟩
end Go.Proofs.YtanhkeeifnimgaaGreatDoor
