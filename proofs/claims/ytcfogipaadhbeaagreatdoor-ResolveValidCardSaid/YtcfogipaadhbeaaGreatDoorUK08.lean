/- A part of the claim: see its last text. -/
import Derived.Test.YtcfogipaadhbeaaGreatDoorUK03
import Derived.Deep.QuietTactic
import Derived.Deep.RegionHeld3
import Derived.BigQuiet
import Derived.Laws.Rows
import Derived.Test.YtcfogipaadhbeaaGreatDoorProg
import Derived.Test.YtcfogipaadhbeaaGreatDoorUK01
import Derived.Test.YtcfogipaadhbeaaGreatDoorUK02

set_option maxRecDepth 100000
set_option maxHeartbeats 16000000
namespace Go.Proofs.YtcfogipaadhbeaaGreatDoor
open Go Go.RowKit Go.Proofs
theorem sect_five {k : Int} (h0 : 5 ≤ k) (h1 : k ≤ 7) : sectI k = 5 := by unfold sectI; rw [if_pos ⟨h0, h1⟩]
theorem sect_ten {k : Int} (h : 10 ≤ k) : sectI k = 10 := by unfold sectI; rw [if_neg (by omega), if_pos h]
theorem sect_self {k : Int} (h0 : k < 5 ∨ 7 < k) (h : k < 10) : sectI k = k := by unfold sectI; rw [if_neg (by omega), if_neg (by omega)]
theorem section_prog (k : Int) (w : World) : Calls Tryz.prog 50 #[.int .i64 k] w fun e w' => e = .returned (.int .i64 (sectI k)) ∧ w = w' := by
 by_cases h0 : 5 ≤ k
 · by_cases h1 : k ≤ 7
   · rw [sect_five h0 h1]
     go_enter Tryz.func50, Tryz.ntmps50
     go_wp2
     go_ret
     exact ⟨rfl, rfl⟩
   · by_cases h2 : 10 ≤ k
     · rw [sect_ten h2]
       go_enter Tryz.func50, Tryz.ntmps50
       go_wp2
       go_ret
       exact ⟨rfl, rfl⟩
     · rw [sect_self (by omega) (by omega)]
       go_enter Tryz.func50, Tryz.ntmps50
       go_wp2
       go_ret
       exact ⟨rfl, rfl⟩
 · have h2 : ¬ 10 ≤ k := by omega
   rw [sect_self (by omega) (by omega)]
   go_enter Tryz.func50, Tryz.ntmps50
   go_wp2
   go_ret
   exact ⟨rfl, rfl⟩
theorem cnt_succ {l : List Decl} {s : Int} {j : Nat} (hj : j < l.length) : (cntS (l.take (j + 1)) s : Int) = if sectI l[j].kind = s then (cntS (l.take j) s : Int) + 1 else (cntS (l.take j) s : Int) := by
 unfold cntS
 rw [List.take_succ_eq_append_getElem hj, List.filter_append, List.length_append]
 by_cases e : sectI l[j].kind = s
 · rw [if_pos e, List.filter_cons_of_pos (by simpa [secB] using e)]; simp
 · rw [if_neg e, List.filter_cons_of_neg (by simpa [secB] using e)]; simp
end Go.Proofs.YtcfogipaadhbeaaGreatDoor

namespace Go.Proofs.YtcfogipaadhbeaaGreatDoor
open Go Go.RowKit
theorem has_any (A : Option Addr) (c : Nat) (l : List ByteArray) (s : ByteArray) (w : World) (hl : l.length ≤ 9223372036854775807) (h : Strs w w.heap.size A l) :
    Calls Tryz.prog 21 #[.slice A l.length c, .string s] w fun e w' => e = .returned (.bool (hasS l s)) ∧ w = w' := by
 go_enter Tryz.func21, Tryz.ntmps21
 go_wp2
 go_loop [5] (fun i => ∃ k : Nat, k ≤ l.length ∧ i = .int .i64 k ∧ ∀ j (hj : j < l.length), j < k → l[j] ≠ s) (fun i => l.length - (intOf i).toNat)
 case atStart => exact ⟨0, Nat.zero_le _, rfl, fun j hj h0 => absurd h0 (by omega)⟩
 case round =>
  obtain ⟨k, hk, rfl, hs⟩ := hrel
  have HS := hide hs; clear hs
  by_cases hlt : k < l.length
  · obtain ⟨ad, rfl, hb, hc⟩ := h.at_ hlt
    by_cases he : l[k] = s
    · have hq := toList_beq_true he
      have hm : hasS l s = true := by rw [hasS_iff, ← he]; exact List.getElem_mem _
      have HE := hide he; clear he
      have HM := hide hm; clear hm
      go_wp2
      go_ret
      exact ⟨ret_congr (by rw [HM.out]; rfl), rfl⟩
    · have hq := toList_beq_false he
      have HE := hide he; clear he
      go_wp2
      go_round
      case rel => exact ⟨k + 1, by omega, by go_num, fun j hj h1 => by
       rcases Nat.lt_or_ge j k with h2 | h2
       · exact HS j hj h2
       · obtain rfl : j = k := by omega
         exact HE⟩
      case measure => simp [intOf]; omega
  · have hm : hasS l s = false := by
      rw [Bool.eq_false_iff, Ne, hasS_iff]
      intro hm; obtain ⟨j, hj, e⟩ := List.getElem_of_mem hm; exact HS j hj (by omega) e
    have HM := hide hm; clear hm
    go_wp2
    go_ret
    exact ⟨ret_congr (by rw [HM.out]; rfl), rfl⟩
theorem letter_any (c : Int) (w : World) : Calls Tryz.prog 93 #[.int .u8 c] w fun e w' => e = .returned (.bool (letterI c)) ∧ w = w' := by
 by_cases h1 : 97 ≤ c <;> by_cases h2 : c ≤ 122
 all_goals
  have hL : letterI c = (decide (97 ≤ c) && decide (c ≤ 122)) := rfl
  have HL := hide hL; clear hL
  go_enter Tryz.func93, Tryz.ntmps93
  go_wp2
  go_ret
  exact ⟨ret_congr (by rw [HL.out]; simp [*]), rfl⟩
theorem digit_any (c : Int) (w : World) : Calls Tryz.prog 95 #[.int .u8 c] w fun e w' => e = .returned (.bool (digitI c)) ∧ w = w' := by
 by_cases h1 : 48 ≤ c <;> by_cases h2 : c ≤ 57
 all_goals
  have hL : digitI c = (decide (48 ≤ c) && decide (c ≤ 57)) := rfl
  have HL := hide hL; clear hL
  go_enter Tryz.func95, Tryz.ntmps95
  go_wp2
  go_ret
  exact ⟨ret_congr (by rw [HL.out]; simp [*]), rfl⟩
theorem keywords_any (w : World) : Calls Tryz.prog 94 #[] w fun e w' => ∃ A, e = .returned (.slice A keywords.length keywords.length) ∧ Strs w' w'.heap.size A keywords ∧ Below w.heap.size w w' := by
 go_enter Tryz.func94, Tryz.ntmps94
 go_wp2
 go_ret
 exact ⟨some ⟨w.heap.size, 0, none⟩, rfl, (Strs.newRow w 9 keywords).more (by simp), (Below.refl _ _).alloc (Nat.le_refl _) _⟩
theorem isName_ref (s : ByteArray) (w : World) (hs : s.size ≤ 9223372036854775807) :
    Calls Tryz.prog 48 #[.string s] w fun e w' => e = .returned (.bool (isName s)) ∧ Below w.heap.size w w' := by
 by_cases h1 : s.size < 1
 · have HN := hide (isName_short h1)
   go_enter Tryz.func48, Tryz.ntmps48
   go_wp2
   go_ret
   exact ⟨ret_congr (by rw [HN.out]; rfl), Below.refl _ _⟩
 by_cases h2 : 31 < s.size
 · have HN := hide (isName_long h2)
   go_enter Tryz.func48, Tryz.ntmps48
   go_wp2
   go_ret
   exact ⟨ret_congr (by rw [HN.out]; rfl), Below.refl _ _⟩
 cases h3 : letterI s[0].toNat
 · have HN := hide (isName_first (by omega) h3)
   go_enter Tryz.func48, Tryz.ntmps48
   go_wp2_with (go_at_call 93; refine (letter_any _ _).mono ?_; rintro e w' ⟨rfl, rfl⟩)
   go_ret
   exact ⟨ret_congr (by rw [HN.out]; rfl), Below.refl _ _⟩
 cases hb : hasS keywords s
 rotate_left
 · have HN := hide (isName_key hb)
   have HB := hide hb
   go_enter Tryz.func48, Tryz.ntmps48
   go_wp2_with (first
    | (go_at_call 93; refine (letter_any _ _).mono ?_; rintro e w' ⟨rfl, rfl⟩)
    | (go_at_call 94; refine (keywords_any _).mono ?_; rintro e w1 ⟨A, rfl, hA, hw1⟩)
    | (go_at_call 21; refine (has_any A _ keywords s _ (by decide) hA).mono ?_; rintro e w' ⟨rfl, rfl⟩))
   go_ret
   exact ⟨ret_congr (by rw [HN.out]; rfl), hw1⟩
 · go_enter Tryz.func48, Tryz.ntmps48
   go_wp2_with (first
    | (go_at_call 93; refine (letter_any _ _).mono ?_; rintro e w' ⟨rfl, rfl⟩)
    | (go_at_call 94; refine (keywords_any _).mono ?_; rintro e w1 ⟨A, rfl, hA, hw1⟩)
    | (go_at_call 21; refine (has_any A _ keywords s _ (by decide) hA).mono ?_; rintro e w' ⟨rfl, rfl⟩))
   have HW := hide hw1; clear hw1
   have H3 := hide h3; clear h3
   have HB := hide hb; clear hb
   clear hA
   go_loop [3] (fun i => ∃ k : Nat, k ≤ s.size ∧ i = .int .i64 k ∧ ∀ j (hj : j < s.size), j < k → nameI s[j].toNat = true) (fun i => s.size - (intOf i).toNat)
   case atStart => exact ⟨0, Nat.zero_le _, rfl, fun j hj h0 => absurd h0 (by omega)⟩
   case round =>
    obtain ⟨k, hk, rfl, hn⟩ := hrel
    have HN := hide hn; clear hn
    by_cases hlt : k < s.size
    · cases hx : nameI s[k].toNat
      · obtain ⟨e1, e2, e3⟩ := nameI_false hx
        have HX := hide hx; clear hx
        go_wp2_with (first
         | (go_at_call 93; refine (letter_any _ _).mono ?_; rintro e w' ⟨rfl, rfl⟩)
         | (go_at_call 95; refine (digit_any _ _).mono ?_; rintro e w' ⟨rfl, rfl⟩))
        go_ret
        exact ⟨ret_congr (by rw [isName_at hlt HX]; rfl), HW.out⟩
      · rcases nameI_true hx with e1 | ⟨e1, e2⟩ | ⟨e1, e2, e3⟩
        all_goals
         have HX := hide hx; clear hx
         go_wp2_with (first
          | (go_at_call 93; refine (letter_any _ _).mono ?_; rintro e w' ⟨rfl, rfl⟩)
          | (go_at_call 95; refine (digit_any _ _).mono ?_; rintro e w' ⟨rfl, rfl⟩))
         go_round
         case rel => exact ⟨k + 1, by omega, by go_num, fun j hj h1 => by
          rcases Nat.lt_or_ge j k with h2 | h2
          · exact HN j hj h2
          · obtain rfl : j = k := by omega
            exact HX⟩
         case measure => simp [intOf]; omega
    · go_wp2
      go_ret
      exact ⟨ret_congr (by rw [isName_true (by omega) (by omega) H3.out HB.out (fun j hj => HN.out j hj (by omega))]; rfl), HW.out⟩
end Go.Proofs.YtcfogipaadhbeaaGreatDoor

namespace Go.Proofs.YtcfogipaadhbeaaGreatDoor
open Go Go.RowKit Go.Proofs
theorem exists_ref (n l : Int) (w : World) : Calls Tryz.prog 45 #[.int .i64 n, .int .i64 l] w fun e w' => e = .returned (.bool (exI n l)) ∧ w = w' := by
 by_cases h1 : 1 ≤ n <;> by_cases h2 : n ≤ l
 all_goals
  have hL : exI n l = (decide (1 ≤ n) && decide (n ≤ l)) := rfl
  have HL := hide hL; clear hL
  go_enter Tryz.func45, Tryz.ntmps45
  go_wp2
  go_ret
  exact ⟨ret_congr (by rw [HL.out]; simp [*]), rfl⟩
theorem number_ref (n : Int) (w : World) : Calls Tryz.prog 87 #[.int .i64 n] w fun e w' => e = .returned (.bool (wiI n 0 1048576)) ∧ w = w' := by
 by_cases h1 : 0 ≤ n <;> by_cases h2 : n ≤ 1048576
 all_goals
  have hL : wiI n 0 1048576 = (decide (0 ≤ n) && decide (n ≤ 1048576)) := rfl
  have HL := hide hL; clear hL
  go_enter Tryz.func87, Tryz.ntmps87
  go_wp2
  go_ret
  exact ⟨ret_congr (by rw [HL.out]; simp [*]), rfl⟩
theorem within_ref (n a b : Int) (w : World) : Calls Tryz.prog 46 #[.int .i64 n, .int .i64 a, .int .i64 b] w fun e w' => e = .returned (.bool (wiI n a b)) ∧ w = w' := by
 by_cases h1 : a ≤ n <;> by_cases h2 : n ≤ b
 all_goals
  have hL : wiI n a b = (decide (a ≤ n) && decide (n ≤ b)) := rfl
  have HL := hide hL; clear hL
  go_enter Tryz.func46, Tryz.ntmps46
  go_wp2
  go_ret
  exact ⟨ret_congr (by rw [HL.out]; simp [*]), rfl⟩
theorem quiet_left {P : Program} {f : FuncId} {args : Array Value} {w : World} {n : Nat} {v : Value}
    (h : Calls P f args (w.drewN n) fun e w' => e = .returned v ∧ w.drewN n = w') : Calls P f args (w.drewN n) fun e w'' => e = .returned v ∧ ∃ m, w'' = w.drewN m :=
 h.mono fun _ _ ⟨he, hm⟩ => ⟨he, n, hm.symm⟩
end Go.Proofs.YtcfogipaadhbeaaGreatDoor
