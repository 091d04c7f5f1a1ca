/- The walk of exodusref17.Few: it answers. Conditions: lengths that fit memory. -/
import Derived.Test.YtanhkeeifnimgaaGreatDoorRef17e
import Derived.Test.YtanhkeeifnimgaaGreatDoorRef17c
namespace Go.Proofs.YtanhkeeifnimgaaGreatDoor
open Go Go.RowKit Go.Proofs

/-- few and small -/
def smallS (s : ByteArray) : Bool := decide (s.size ≤ 100)
def fewD (d : Decl) : Bool := decide (d.name.size ≤ 100) && decide (d.refs.length ≤ 30) && decide (d.nums.length ≤ 30) && d.refs.all smallS
def fewB (l : List Decl) : Bool := l.all fewD && decide (l.length ≤ 120)
theorem fewB_no {l : List Decl} {k : Nat} (hk : k < l.length) (h : fewD l[k] = false) : fewB l = false := by
  unfold fewB; rw [all_false_at hk h]; rfl
theorem fewB_end {l : List Decl} (h : l.all fewD = true) : fewB l = decide ((l.length : Int) ≤ 120) := by
  unfold fewB; rw [h, Bool.true_and, Bool.eq_iff_iff]; simp; omega

set_option maxRecDepth 100000 in
set_option maxHeartbeats 4000000 in
theorem few_ref (A : Option Addr) (c : Nat) (l : List Decl) (w : World) (h : Decls w w.heap.size A l) (hl : l.length ≤ 9223372036854775807) :
    Calls Tryz.prog 19 #[.slice A l.length c] w fun e w' => e = .returned (.bool (fewB l)) ∧ w = w' := by
  go_enter Tryz.func19, Tryz.ntmps19
  go_wp2_with fail
  go_loop [3, 4] (fun i _ => ∃ k : Nat, k ≤ l.length ∧ i = .int .i64 k ∧ Hid (∀ j (q : j < l.length), j < k → fewD l[j] = true)) (fun i _ => l.length - (intOf i).toNat)
  case atStart => exact ⟨0, Nat.zero_le _, rfl, fun j _ h0 => absurd h0 (by omega)⟩
  case round =>
    obtain ⟨k, hk, rfl, hd⟩ := hrel
    by_cases hlt : k < l.length
    · have hltI : (k : Int) < (l.length : Int) := by omega
      obtain ⟨b1, o1, ra, rc, na, nc, rfl, hb1, x0, x1, x2, x3, x4, x5, _, hr, hn, hf⟩ := h.at_ hlt
      have f1 := hf.1
      have f2 := hf.2.1
      have f3 := hf.2.2.1
      have f4 := hf.2.2.2
      clear hf
      by_cases q1 : l[k].name.size > 100
      · have HS := hide (fewB_no hlt (by simp only [fewD]; rw [show decide (l[k].name.size ≤ 100) = false by simp; omega]; rfl))
        go_wp2_with fail
        go_ret
        exact ⟨ret_congr (by rw [HS.out]; rfl), rfl⟩
      by_cases q2 : l[k].refs.length > 30
      · have HS := hide (fewB_no hlt (by simp only [fewD]; rw [show decide (l[k].refs.length ≤ 30) = false by simp; omega]; simp))
        go_wp2_with fail
        go_ret
        exact ⟨ret_congr (by rw [HS.out]; rfl), rfl⟩
      by_cases q3 : l[k].nums.length > 30
      · have HS := hide (fewB_no hlt (by simp only [fewD]; rw [show decide (l[k].nums.length ≤ 30) = false by simp; omega]; simp))
        go_wp2_with fail
        go_ret
        exact ⟨ret_congr (by rw [HS.out]; rfl), rfl⟩
      go_wp2_with fail
      go_loop [4] (fun i => ∃ j : Nat, j ≤ l[k].refs.length ∧ i = .int .i64 j ∧ Hid (∀ x (q : x < l[k].refs.length), x < j → smallS l[k].refs[x] = true)) (fun i => l[k].refs.length - (intOf i).toNat)
      case atStart => exact ⟨0, Nat.zero_le _, rfl, fun j _ h0 => absurd h0 (by omega)⟩
      case round =>
        obtain ⟨j, hj, rfl, hs⟩ := hrel
        by_cases hlt2 : j < l[k].refs.length
        · obtain ⟨ad2, e2, hb2, y0⟩ := hr.at_ hlt2
          subst e2
          have f5 := f2 _ (List.getElem_mem hlt2)
          have hjI : (j : Int) < (l[k].refs.length : Int) := by omega
          by_cases q4 : l[k].refs[j].size > 100
          · have HS := hide (fewB_no hlt (by simp only [fewD]; rw [all_false_at hlt2 (show smallS l[k].refs[j] = false by simp [smallS]; omega)]; simp))
            go_wp2_with fail
            go_ret
            exact ⟨ret_congr (by rw [HS.out]; rfl), rfl⟩
          · have HQ := hide (show smallS l[k].refs[j] = true by simp [smallS]; omega)
            go_wp2_with fail
            go_round
            case rel => exact ⟨j + 1, by omega, by go_num, fun x q h1 => by
              rcases Nat.lt_or_ge x j with h2 | h2
              · exact hs x q h2
              · obtain rfl : x = j := by omega
                exact HQ⟩
            case measure => simp [intOf]; omega
        · have HQ := hide (show fewD l[k] = true by
            unfold fewD
            rw [all_true_of (p := smallS) (fun x hx => hs x hx (by omega))]
            simp; omega)
          go_wp2_with fail
          go_round
          case rel => exact ⟨k + 1, by omega, by go_num, fun x q h1 => by
              rcases Nat.lt_or_ge x k with h2 | h2
              · exact hd x q h2
              · obtain rfl : x = k := by omega
                exact HQ⟩
          case measure => simp [intOf]; omega
    · have HS := hide (fewB_end (all_true_of (p := fewD) (fun x hx => hd x hx (by omega))))
      go_wp2_with fail
      go_ret
      exact ⟨ret_congr (by rw [HS.out]; rfl), rfl⟩
end Go.Proofs.YtanhkeeifnimgaaGreatDoor
