/- The walk of syntax.KindName. Conditions: none. -/
import Derived.Test.YtanhkeeifnimgaaGreatDoorSyn17q
namespace Go.Proofs.YtanhkeeifnimgaaGreatDoor
open Go Go.RowKit Go.Proofs

set_option maxRecDepth 100000 in
set_option maxHeartbeats 1000000 in
theorem field_form (v0 v1 v2 v3 v4 v5 v6 v7 : Value) (W : World) (h : v0.cells.size = 1 ∧ (match v0 with | .agg _ => False | .tuple _ => False | _ => True)) : (Instr.field 55 (.agg #[v0, v1, v2, v3, v4, v5, v6, v7]) 0).run Tryz.prog W = .ok v0 W := by
  cases v0 <;> first | (exact h.2.elim) | kernel_rfl
theorem kindName_prog (k : Int) (w : World) : Calls Tryz.prog 15 #[.int .i64 k] w fun e w' => e = .returned (.string (kindName k)) ∧ Below w.heap.size w w' := by
  have hfd := fun (s : ByteArray) v1 v2 v3 v4 v5 v6 v7 W => field_form (.string s) v1 v2 v3 v4 v5 v6 v7 W ⟨rfl, trivial⟩
  cases hfm : form? k with
  | none =>
    have HK := hide (show kindName k = ⟨#[]⟩ by simp [kindName, hfm])
    go_enter Tryz.func15, Tryz.ntmps15
    go_wp2_with (go_at_call 29; go_must (refine (forms_any _).mono ?_; rintro e w2 ⟨rfl, hF, hb⟩); have hlk := forms_lookup1 hF k; rw [formVal_none hfm] at hlk)
    go_ret
    exact ⟨ret_congr (by rw [HK.out]; rfl), hb⟩
  | some f =>
    have HK := hide (show kindName k = f.word by simp [kindName, hfm])
    go_enter Tryz.func15, Tryz.ntmps15
    go_wp2_with (go_at_call 29; go_must (refine (forms_any _).mono ?_; rintro e w2 ⟨rfl, hF, hb⟩); have hlk := lookup1_some hF hfm)
    go_ret
    exact ⟨ret_congr (by rw [HK.out]; rfl), hb⟩
end Go.Proofs.YtanhkeeifnimgaaGreatDoor
