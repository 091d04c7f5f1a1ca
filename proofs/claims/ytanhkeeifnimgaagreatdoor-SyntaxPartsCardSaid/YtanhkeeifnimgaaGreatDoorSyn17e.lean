/- The look-up of a form. Conditions: none. -/
import Derived.Test.YtanhkeeifnimgaaGreatDoorSyn17d
namespace Go.Proofs.YtanhkeeifnimgaaGreatDoor
open Go Go.RowKit Go.Proofs

theorem form_none {k : Int} (h : ¬ (0 ≤ k ∧ k < 17)) : form? k = none := by
  unfold form?
  repeat rw [if_neg (by omega)]
theorem zero_form (w : World) : (zeroValue 55).run Tryz.prog w = .ok (formVal 0 (-1)) w := by kernel_rfl
/-- looking up the form of a kind -/
theorem forms_lookup {w : World} {r B : Nat} (h : FormsAt w r B) (k : Int) :
    (Instr.lookup 56 (.map (some r)) (.int .i64 k) true).run Tryz.prog w = .ok (.tuple #[formVal B k, .bool (form? k).isSome]) w := by
  refine run_lookup_int Tryz.underlying56 Tryz.underlying3 (zero_form w) h.1 (find_ents _ _ k) ?_
  by_cases hk : 0 ≤ k ∧ k < ((17 : Nat) : Int)
  · rw [if_pos hk]; unfold pickO
    have hk2 : ((k.toNat : Nat) : Int) = k := by omega
    have : (form? k).isSome = true := by
      have : k = 0 ∨ k = 1 ∨ k = 2 ∨ k = 3 ∨ k = 4 ∨ k = 5 ∨ k = 6 ∨ k = 7 ∨ k = 8 ∨ k = 9 ∨ k = 10 ∨ k = 11 ∨ k = 12 ∨ k = 13 ∨ k = 14 ∨ k = 15 ∨ k = 16 := by omega
      rcases this with rfl | rfl | rfl | rfl | rfl | rfl | rfl | rfl | rfl | rfl | rfl | rfl | rfl | rfl | rfl | rfl | rfl <;> rfl
    simp only [entF, hk2, this]
  · rw [if_neg hk]; unfold pickO
    have hf : form? k = none := form_none (by omega)
    have h0 : form? (-1) = none := form_none (by omega)
    simp only [formVal, hf, h0, Option.isSome_none]
end Go.Proofs.YtanhkeeifnimgaaGreatDoor
