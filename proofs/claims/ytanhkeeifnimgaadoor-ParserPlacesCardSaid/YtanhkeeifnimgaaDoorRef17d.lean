/- The walks of exodusref15.Texts, exodusref14.Ints: whether two lists are equal. Conditions: lengths that fit memory. -/
import Derived.Test.YtanhkeeifnimgaaDoorSyn17t
import Derived.Test.YtanhkeeifnimgaaDoorRef17c
import Derived.Deep.QuietTactic
import Derived.BigQuiet
namespace Go.Proofs.YtanhkeeifnimgaaDoor
open Go Go.RowKit Go.Proofs

theorem below_drawn {B : Nat} {w w' : World} (h : Below B w w') (n : Nat) : Below B w (w'.drewN n) := by
  induction n with
  | zero => exact h
  | succ n ih => exact ih.drew

set_option maxHeartbeats 1000000 in
theorem texts_ref (A1 A2 : Option Addr) (c1 c2 : Nat) (l m : List ByteArray) (w : World) (h1 : Strs w w.heap.size A1 l) (h2 : Strs w w.heap.size A2 m) (hl : l.length ≤ 9223372036854775807) (_hm : m.length ≤ 9223372036854775807) :
    Calls Tryd.prog 58 #[.slice A1 l.length c1, .slice A2 m.length c2] w fun e w' => e = .returned (.bool (decide (l = m))) ∧ Below w.heap.size w w' := by
  by_cases hlen : l.length = m.length
  rotate_left
  · have HS := hide (show decide (l = m) = false by simp; intro h; exact hlen (by rw [h]))
    have hne : ((l.length : Int) == (m.length : Int)) = false := by simp; omega
    have hne2 : ((l.length : Int) != (m.length : Int)) = true := by simp [bne, hne]
    go_enter Tryd.func58, Tryd.ntmps58
    go_wp2
    go_ret
    exact ⟨ret_congr (by rw [HS.out]; rfl), Below.refl _ _⟩
  · have HL := hide hlen
    have hne2 : ((l.length : Int) != (m.length : Int)) = false := by simp [bne, hlen]
    clear hlen
    go_enter Tryd.func58, Tryd.ntmps58
    go_wp2_with fail
    go_loopw [5] (fun i wr => ∃ k : Nat, k ≤ l.length ∧ i = .int .i64 k ∧ Below w.heap.size w wr ∧ Hid (∀ j (q1 : j < l.length) (q2 : j < m.length), j < k → l[j] = m[j])) (fun i _ => l.length - (intOf i).toNat)
    case atStart => exact ⟨0, Nat.zero_le _, rfl, Below.refl _ _, fun j _ _ h0 => absurd h0 (by omega)⟩
    case round =>
      obtain ⟨k, hk, rfl, hbr, hs⟩ := hrel
      by_cases hlt : k < l.length
      · have hlt2 : k < m.length := by rw [← HL.out]; exact hlt
        have hltI : (k : Int) < (l.length : Int) := by omega
        have hlt2I : (k : Int) < (m.length : Int) := by omega
        obtain ⟨ad1, rfl, hb1, x0⟩ := (h1.below hbr).at_ hlt
        obtain ⟨ad2, rfl, hb2, y0⟩ := (h2.below hbr).at_ hlt2
        by_cases he : l[k] = m[k]
        · have hq := toList_beq_true he
          have HE := hide he; clear he
          go_wp2_with fail
          go_quiet (fail)
          go_wp2_with fail
          go_roundw
          case rel => exact ⟨k + 1, by omega, by go_num, below_drawn hbr _, fun j q1 q2 h1 => by
            rcases Nat.lt_or_ge j k with h2 | h2
            · exact hs j q1 q2 h2
            · obtain rfl : j = k := by omega
              exact HE.out⟩
          case measure => simp [intOf]; omega
        · have HS := hide (show decide (l = m) = false by simp; intro h; exact he (by simp [h]))
          have hq := toList_beq_false he
          clear he
          go_wp2_with fail
          go_quiet (fail)
          go_wp2_with fail
          go_ret
          exact ⟨ret_congr (by rw [HS.out]; rfl), below_drawn hbr _⟩
      · go_wp2_with fail
        go_ret
        have : l = m := List.ext_getElem HL.out fun j q1 q2 => hs.out j q1 q2 (by omega)
        exact ⟨ret_congr (by simp [this]), hbr⟩

set_option maxHeartbeats 1000000 in
theorem ints_ref (A1 A2 : Option Addr) (c1 c2 : Nat) (l m : List Int) (w : World) (h1 : Ints w w.heap.size A1 l) (h2 : Ints w w.heap.size A2 m) (hl : l.length ≤ 9223372036854775807) (_hm : m.length ≤ 9223372036854775807) :
    Calls Tryd.prog 59 #[.slice A1 l.length c1, .slice A2 m.length c2] w fun e w' => e = .returned (.bool (decide (l = m))) ∧ Below w.heap.size w w' := by
  by_cases hlen : l.length = m.length
  rotate_left
  · have HS := hide (show decide (l = m) = false by simp; intro h; exact hlen (by rw [h]))
    have hne : ((l.length : Int) == (m.length : Int)) = false := by simp; omega
    have hne2 : ((l.length : Int) != (m.length : Int)) = true := by simp [bne, hne]
    go_enter Tryd.func59, Tryd.ntmps59
    go_wp2
    go_ret
    exact ⟨ret_congr (by rw [HS.out]; rfl), Below.refl _ _⟩
  · have HL := hide hlen
    have hne2 : ((l.length : Int) != (m.length : Int)) = false := by simp [bne, hlen]
    clear hlen
    go_enter Tryd.func59, Tryd.ntmps59
    go_wp2_with fail
    go_loopw [5] (fun i wr => ∃ k : Nat, k ≤ l.length ∧ i = .int .i64 k ∧ Below w.heap.size w wr ∧ Hid (∀ j (q1 : j < l.length) (q2 : j < m.length), j < k → l[j] = m[j])) (fun i _ => l.length - (intOf i).toNat)
    case atStart => exact ⟨0, Nat.zero_le _, rfl, Below.refl _ _, fun j _ _ h0 => absurd h0 (by omega)⟩
    case round =>
      obtain ⟨k, hk, rfl, hbr, hs⟩ := hrel
      by_cases hlt : k < l.length
      · have hlt2 : k < m.length := by rw [← HL.out]; exact hlt
        have hltI : (k : Int) < (l.length : Int) := by omega
        have hlt2I : (k : Int) < (m.length : Int) := by omega
        obtain ⟨ad1, rfl, hb1, x0⟩ := (h1.below hbr).at_ hlt
        obtain ⟨ad2, rfl, hb2, y0⟩ := (h2.below hbr).at_ hlt2
        by_cases he : l[k] = m[k]
        · have hq : (l[k] == m[k]) = true := by simp [he]
          have hq2 : (l[k] != m[k]) = false := by simp [he]
          have HE := hide he; clear he
          go_wp2_with fail
          go_quiet (fail)
          go_wp2_with fail
          go_roundw
          case rel => exact ⟨k + 1, by omega, by go_num, below_drawn hbr _, fun j q1 q2 h1 => by
            rcases Nat.lt_or_ge j k with h2 | h2
            · exact hs j q1 q2 h2
            · obtain rfl : j = k := by omega
              exact HE.out⟩
          case measure => simp [intOf]; omega
        · have HS := hide (show decide (l = m) = false by simp; intro h; exact he (by simp [h]))
          have hq : (l[k] == m[k]) = false := by simpa using he
          have hq2 : (l[k] != m[k]) = true := by simpa using he
          clear he
          go_wp2_with fail
          go_quiet (fail)
          go_wp2_with fail
          go_ret
          exact ⟨ret_congr (by rw [HS.out]; rfl), below_drawn hbr _⟩
      · go_wp2_with fail
        go_ret
        have : l = m := List.ext_getElem HL.out fun j q1 q2 => hs.out j q1 q2 (by omega)
        exact ⟨ret_congr (by simp [this]), hbr⟩
end Go.Proofs.YtanhkeeifnimgaaDoor
