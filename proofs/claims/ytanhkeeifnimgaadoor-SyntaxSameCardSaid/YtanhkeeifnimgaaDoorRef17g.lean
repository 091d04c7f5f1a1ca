/- The walk of exodusref17.Few: it answers. Conditions: lengths that fit memory. -/
import Derived.Test.YtanhkeeifnimgaaDoorRef17e
namespace Go.Proofs.YtanhkeeifnimgaaDoor
open Go Go.RowKit Go.Proofs

set_option maxRecDepth 100000 in
set_option maxHeartbeats 4000000 in
theorem few_ref (A : Option Addr) (c : Nat) (l : List Decl) (w : World) (h : Decls w w.heap.size A l) (hl : l.length ≤ 9223372036854775807) :
    Calls Tryd.prog 15 #[.slice A l.length c] w fun e w' => ∃ b, e = .returned (.bool b) ∧ w = w' := by
  go_enter Tryd.func15, Tryd.ntmps15
  go_wp2_with fail
  go_loop [3, 4] (fun i _ => ∃ k : Nat, k ≤ l.length ∧ i = .int .i64 k) (fun i _ => l.length - (intOf i).toNat)
  case atStart => exact ⟨0, Nat.zero_le _, rfl⟩
  case round =>
    obtain ⟨k, hk, rfl⟩ := hrel
    by_cases hlt : k < l.length
    · have hltI : (k : Int) < (l.length : Int) := by omega
      obtain ⟨b1, o1, ra, rc, na, nc, rfl, hb1, x0, x1, x2, x3, x4, x5, _, hr, hn, hf⟩ := h.at_ hlt
      have f1 := hf.1
      have f2 := hf.2.1
      have f3 := hf.2.2.1
      have f4 := hf.2.2.2
      clear hf
      by_cases q1 : l[k].name.size > 100
      · go_wp2_with fail
        go_ret
        first | exact ⟨_, rfl, rfl⟩ | exact ⟨Or.inl rfl, rfl⟩ | exact ⟨Or.inr rfl, rfl⟩
      by_cases q2 : l[k].refs.length > 30
      · go_wp2_with fail
        go_ret
        first | exact ⟨_, rfl, rfl⟩ | exact ⟨Or.inl rfl, rfl⟩ | exact ⟨Or.inr rfl, rfl⟩
      by_cases q3 : l[k].nums.length > 30
      · go_wp2_with fail
        go_ret
        first | exact ⟨_, rfl, rfl⟩ | exact ⟨Or.inl rfl, rfl⟩ | exact ⟨Or.inr rfl, rfl⟩
      go_wp2_with fail
      go_loop [4] (fun i => ∃ j : Nat, j ≤ l[k].refs.length ∧ i = .int .i64 j) (fun i => l[k].refs.length - (intOf i).toNat)
      case atStart => exact ⟨0, Nat.zero_le _, rfl⟩
      case round =>
        obtain ⟨j, hj, rfl⟩ := hrel
        by_cases hlt2 : j < l[k].refs.length
        · obtain ⟨ad2, e2, hb2, y0⟩ := hr.at_ hlt2
          subst e2
          have f5 := f2 _ (List.getElem_mem hlt2)
          have hjI : (j : Int) < (l[k].refs.length : Int) := by omega
          by_cases q4 : l[k].refs[j].size > 100
          · go_wp2_with fail
            go_ret
            first | exact ⟨_, rfl, rfl⟩ | exact ⟨Or.inl rfl, rfl⟩ | exact ⟨Or.inr rfl, rfl⟩
          · go_wp2_with fail
            go_round
            case rel => exact ⟨j + 1, by omega, by go_num⟩
            case measure => simp [intOf]; omega
        · go_wp2_with fail
          go_round
          case rel => exact ⟨k + 1, by omega, by go_num⟩
          case measure => simp [intOf]; omega
    · rcases (show 120 < (l.length : Int) ∨ ¬ 120 < (l.length : Int) by omega) with q5 | q5
      all_goals
        go_wp2_with fail
        go_ret
        first | exact ⟨Or.inl (by simpa using q5), rfl⟩ | exact ⟨Or.inr (by simp <;> omega), rfl⟩
end Go.Proofs.YtanhkeeifnimgaaDoor
