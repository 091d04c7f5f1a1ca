/- The walks of exodusref17.Decimal, List, KindName. Conditions: lengths that fit memory; numbers that are not negative. -/
import Derived.Test.YtanhkeeifnimgaaDoorSyn17o
import Derived.Lib.ItoaLen
import Derived.Test.YtanhkeeifnimgaaDoorRef17
namespace Go.Proofs.YtanhkeeifnimgaaDoor
open Go Go.RowKit Go.Proofs

theorem itoa_digits (m : Nat) : Lib.itoa (m : Int) = Lib.decDigits m := Lib.itoa_nonneg m
theorem digits_len (m : Nat) (h : m ≤ 9223372036854775807) : (Lib.decDigits m).length ≤ 21 := by
  rw [← itoa_digits]; exact Lib.itoa_length_le _ (by omega) (by omega)
theorem digits_step {m : Nat} (h : ¬ m < 10) : Lib.decDigits m = Lib.decDigits (m / 10) ++ [UInt8.ofNat (48 + m % 10)] := by
  rw [Lib.decDigits, dif_neg h]
theorem digits_last {m : Nat} (h : m < 10) : Lib.decDigits m = [UInt8.ofNat (48 + m)] := by
  rw [Lib.decDigits, dif_pos h]

/-- the string of one byte -/
def dgB (c : Int) : ByteArray := S [UInt8.ofNat c.toNat]
theorem dgB_size (c : Int) : (dgB c).size ≤ 1 := Nat.le_refl _
/-- 'string([]byte{c})' -/
theorem run_byte_string (W : World) (c : Int) (h0 : 0 ≤ c) (h1 : c < 256) :
    (convert 68 9 (.slice (some ⟨W.heap.size, 0, none⟩) 1 1)).run Tryd.prog (W.alloc (.cells #[.int .u8 c] 5)) = .ok (.string (dgB c)) (W.alloc (.cells #[.int .u8 c] 5)) := by
  have e : ((UInt8.ofNat c.toNat).toNat : Int) = c := by rw [UInt8.toNat_ofNat']; omega
  exact run_convert_bytes_back (P := Tryd.prog) _ 68 9 5 ⟨W.heap.size, 0, none⟩ 1 [UInt8.ofNat c.toNat] Tryd.underlying68 Tryd.underlying5 Tryd.underlying9 (fun j hj => by
    obtain rfl : j = 0 := by simp at hj; omega
    rw [add_none, cell?_new]
    simp only [List.getElem_cons_zero]
    rw [e]; rfl)
theorem dgB_digit {m : Nat} : dgB (48 + (m : Int) % 10) = S [UInt8.ofNat (48 + m % 10)] := rfl
theorem dgB_last {m : Nat} : dgB (48 + (m : Int)) = S [UInt8.ofNat (48 + m)] := rfl

set_option maxRecDepth 100000 in
set_option maxHeartbeats 1000000 in
theorem decimal_ref (n : Int) (w : World) (h0 : 0 ≤ n) (h1 : n ≤ 9223372036854775807) :
    Calls Tryd.prog 97 #[.int .i64 n] w fun e w' => e = .returned (.string (itoaS n)) ∧ Below w.heap.size w w' := by
  obtain ⟨N, rfl⟩ := Int.eq_ofNat_of_zero_le h0
  have hlen := digits_len N (by omega)
  have HI := hide (show itoaS (N : Int) = S (Lib.decDigits N) by rw [itoaS, itoa_digits])
  go_enter Tryd.func97, Tryd.ntmps97
  go_wp2_with fail
  go_loopw [0, 3] (fun n s wr => ∃ (m : Nat) (t : List UInt8), n = .int .i64 m ∧ s = .string (S t) ∧ m ≤ N ∧ t.length ≤ 21 ∧ Below w.heap.size w wr ∧ Hid (Lib.decDigits m ++ t = Lib.decDigits N)) (fun n _ _ => (intOf n).toNat)
  case atStart => exact ⟨N, [], rfl, rfl, Nat.le_refl _, by simp, Below.refl _ _, hide (by simp)⟩
  case round =>
    obtain ⟨m, t, rfl, rfl, hm, ht, hbr, HD⟩ := hrel
    have hts : (S t).size ≤ 21 := ht
    by_cases hlt : (10 : Int) ≤ (m : Int)
    · have hc := run_byte_string wr (48 + (m : Int) % 10) (by omega) (by omega)
      have hz := dgB_size (48 + (m : Int) % 10)
      have hl2 : (Lib.decDigits (m / 10)).length + 1 + t.length = (Lib.decDigits N).length := by rw [← HD.out, digits_step (m := m) (by omega)]; simp; omega
      have HL2 := hide hl2
      clear hl2
      go_wp2_with fail
      go_roundw
      case rel => exact ⟨m / 10, [UInt8.ofNat (48 + m % 10)] ++ t, by congr 1, by rw [dgB_digit, ← S_append], by omega, by have := HL2.out; simp; omega, hbr.alloc hbr.size _, hide (by rw [← HD.out, digits_step (m := m) (by omega)]; simp)⟩
      case measure => simp [intOf]; omega
    · have hc := run_byte_string wr (48 + (m : Int)) (by omega) (by omega)
      have hz := dgB_size (48 + (m : Int))
      go_wp2_with fail
      go_ret
      exact ⟨ret_congr (by rw [HI.out, ← HD.out, digits_last (m := m) (by omega), dgB_last, ← S_append]; rfl), hbr.alloc hbr.size _⟩

/-- the references of a list that are joined by a comma and a blank -/
theorem join_snoc {l : List (List UInt8)} (x sep : List UInt8) (h : l ≠ []) : Lib.join (l ++ [x]) sep = Lib.join l sep ++ sep ++ x := by
  cases l with
  | nil => exact absurd rfl h
  | cons a r => rw [List.cons_append, Lib.join_cons, Lib.join_cons]; simp [Lib.joinTail]
theorem joinS_snoc {l : List ByteArray} (x sep : ByteArray) (h : l ≠ []) : joinS (l ++ [x]) sep = joinS l sep ++ sep ++ x := by
  unfold joinS
  rw [List.map_append, List.map_cons, List.map_nil, join_snoc _ _ (by simpa using h), S_append, S_append, data_S, data_S]

set_option maxRecDepth 100000 in
set_option maxHeartbeats 1000000 in
theorem list_ref (A : Option Addr) (c : Nat) (l : List ByteArray) (w : World) (h : Strs w w.heap.size A l) (hl : l.length ≤ 1000) (hs : ∀ s ∈ l, s.size ≤ 1000) :
    Calls Tryd.prog 98 #[.slice A l.length c] w fun e w' => e = .returned (.string (joinS l (⟨#[44, 32]⟩ : ByteArray))) ∧ w = w' := by
  go_enter Tryd.func98, Tryd.ntmps98
  go_wp2_with fail
  go_loop [3, 4] (fun s i => ∃ k : Nat, k ≤ l.length ∧ i = .int .i64 k ∧ s = .string (joinS (l.take k) (⟨#[44, 32]⟩ : ByteArray))) (fun _ i => l.length - (intOf i).toNat)
  case atStart => exact ⟨0, Nat.zero_le _, rfl, rfl⟩
  case round =>
    obtain ⟨k, hk, rfl, rfl⟩ := hrel
    by_cases hlt : k < l.length
    · have hltI : (k : Int) < (l.length : Int) := by omega
      obtain ⟨ad, rfl, hab, hc⟩ := h.at_ hlt
      have hsz : (joinS (l.take k) (⟨#[44, 32]⟩ : ByteArray)).size ≤ 1000 * 1002 := by
        have := join_len [44, 32] ((l.take k).map (·.data.toList)) 1000 (by
          intro x hx
          obtain ⟨s, hs', rfl⟩ := List.mem_map.1 hx
          have := hs s (List.mem_of_mem_take hs')
          simpa using this)
        have h2 : ((l.take k).map (·.data.toList)).length * (1000 + 2) ≤ 1000 * 1002 := Nat.mul_le_mul (by simp; omega) (by omega)
        show (Lib.join ((l.take k).map (·.data.toList)) [44, 32]).toArray.size ≤ _
        simp at this h2 ⊢; omega
      have hs1 := hs _ (List.getElem_mem hlt)
      have htk : l.take (k + 1) = l.take k ++ [l[k]] := by rw [List.take_succ_eq_append_getElem hlt]
      have HT := hide htk
      clear htk
      generalize hj : joinS (l.take k) (⟨#[44, 32]⟩ : ByteArray) = j at hsz ⊢
      have HJ := hide hj
      clear hj
      have h2 : ((⟨#[44, 32]⟩ : ByteArray) : ByteArray).size ≤ 2 := Nat.le_refl _
      have q1 : ∀ W, (Op.stringOp .add j (⟨#[44, 32]⟩ : ByteArray)).run Tryd.prog W = .ok (.string (j ++ (⟨#[44, 32]⟩ : ByteArray))) W := fun W => run_string_add_sum W _ _ (by omega)
      have q2 : ∀ W, (Op.stringOp .add (j ++ (⟨#[44, 32]⟩ : ByteArray)) l[k]).run Tryd.prog W = .ok (.string (j ++ (⟨#[44, 32]⟩ : ByteArray) ++ l[k])) W := fun W => run_string_add_sum W _ _ (by have := ByteArray.size_append (a := j) (b := (⟨#[44, 32]⟩ : ByteArray)); omega)
      have q3 : ∀ W, (Op.stringOp .add j l[k]).run Tryd.prog W = .ok (.string (j ++ l[k])) W := fun W => run_string_add_sum W _ _ (by omega)
      by_cases hk0 : (0 : Int) < (k : Int)
      · go_wp2_with fail
        go_round
        case rel => exact ⟨k + 1, by omega, by go_num, by rw [HT.out, joinS_snoc _ _ (by intro h0; have := congrArg List.length h0; simp only [List.length_take, List.length_nil] at this; omega), HJ.out]⟩
        case measure => simp [intOf]; omega
      · go_wp2_with fail
        go_round
        case rel => exact ⟨k + 1, by omega, by go_num, by
          obtain rfl : k = 0 := by omega
          rw [HT.out, ← HJ.out]
          simp only [List.take_zero, List.nil_append]
          congr 1
          unfold joinS
          rw [← data_S l[0]]
          simp only [List.map_cons, List.map_nil, Lib.join_one]
          rfl⟩
        case measure => simp [intOf]; omega
    · go_wp2_with fail
      go_ret
      exact ⟨ret_congr (by first | rfl | (rw [List.take_of_length_le (by omega)]; rfl)), rfl⟩
end Go.Proofs.YtanhkeeifnimgaaDoor
