/- The look-up of a form. Conditions: none. The walks of the closures 'by' of the forms. Conditions: none. -/
import Derived.Test.YtanhkeeifnimgaaDoorSyn17d

namespace Go.Proofs.YtanhkeeifnimgaaDoor
open Go Go.RowKit Go.Proofs

theorem form_none {k : Int} (h : ¬ (0 ≤ k ∧ k < 17)) : form? k = none := by
  unfold form?
  repeat rw [if_neg (by omega)]
theorem zero_form (w : World) : (zeroValue 60).run Tryd.prog w = .ok (formVal 0 (-1)) w := by kernel_rfl
/-- looking up the form of a kind -/
theorem forms_lookup {w : World} {r B : Nat} (h : FormsAt w r B) (k : Int) :
    (Instr.lookup 62 (.map (some r)) (.int .i64 k) true).run Tryd.prog w = .ok (.tuple #[formVal B k, .bool (form? k).isSome]) w := by
  refine run_lookup_int Tryd.underlying62 Tryd.underlying3 (zero_form w) h.1 (find_ents _ _ k) ?_
  by_cases hk : 0 ≤ k ∧ k < ((17 : Nat) : Int)
  · rw [if_pos hk]; unfold pickO
    have hk2 : ((k.toNat : Nat) : Int) = k := by omega
    have : (form? k).isSome = true := by
      have : k = 0 ∨ k = 1 ∨ k = 2 ∨ k = 3 ∨ k = 4 ∨ k = 5 ∨ k = 6 ∨ k = 7 ∨ k = 8 ∨ k = 9 ∨ k = 10 ∨ k = 11 ∨ k = 12 ∨ k = 13 ∨ k = 14 ∨ k = 15 ∨ k = 16 := by omega
      rcases this with rfl | rfl | rfl | rfl | rfl | rfl | rfl | rfl | rfl | rfl | rfl | rfl | rfl | rfl | rfl | rfl | rfl <;> rfl
    simp only [entF, hk2, this]
  · rw [if_neg hk]; unfold pickO
    have hf : form? k = none := form_none (by omega)
    have h0 : form? (-1) = none := form_none (by omega)
    simp only [formVal, hf, h0, Option.isSome_none]
end Go.Proofs.YtanhkeeifnimgaaDoor

namespace Go.Proofs.YtanhkeeifnimgaaDoor
open Go Go.RowKit Go.Proofs

def domW (n : Int) : ByteArray := if n = 2 then (⟨#[114, 97, 99, 107]⟩ : ByteArray) else if n = 3 then (⟨#[102, 101, 101, 100]⟩ : ByteArray) else if n = 4 then (⟨#[115, 105, 116, 101]⟩ : ByteArray) else ⟨#[]⟩
def domEnts : Array MapEntry := #[{ key := .int .i64 2, val := .string (⟨#[114, 97, 99, 107]⟩ : ByteArray), born := 0 }, { key := .int .i64 3, val := .string (⟨#[102, 101, 101, 100]⟩ : ByteArray), born := 1 }, { key := .int .i64 4, val := .string (⟨#[115, 105, 116, 101]⟩ : ByteArray), born := 2 }]
theorem domEnts_find (n : Int) : ∃ o, Instr.findNow (.int .i64) (.int .i64 n) domEnts.toList 0 = some o ∧ ∃ b, pickO o (.string ⟨#[]⟩) = (.string (domW n), b) := by
  by_cases h2 : n = 2
  · subst h2; exact ⟨_, rfl, _, rfl⟩
  by_cases h3 : n = 3
  · subst h3; exact ⟨_, rfl, _, rfl⟩
  by_cases h4 : n = 4
  · subst h4; exact ⟨_, rfl, _, rfl⟩
  refine ⟨none, findNow_none _ _ fun e he => ?_, false, by simp [pickO, domW, h2, h3, h4]⟩
  simp [domEnts] at he
  rcases he with rfl | rfl | rfl
  · exact ⟨2, rfl, h2⟩
  · exact ⟨3, rfl, h3⟩
  · exact ⟨4, rfl, h4⟩

set_option maxHeartbeats 1000000 in
theorem domain_any (n : Int) (w : World) : Calls Tryd.prog 85 #[.int .i64 n] w fun e w' => e = .returned (.string (domW n)) ∧ Below w.heap.size w w' := by
  have hmm := @run_makeMap Tryd.prog
  have hz : ∀ w : World, (zeroValue 9).run Tryd.prog w = .ok (.string ⟨#[]⟩) w := fun _ => by kernel_rfl
  obtain ⟨o, ho, b, hb⟩ := domEnts_find n
  have hlk := run_lookup_int1 (P := Tryd.prog) (w := w.alloc (.map domEnts 3)) (r := w.heap.size) (c := 3) (k := n) Tryd.underlying111 Tryd.underlying3 (hz _) (heap_alloc_new w _) ho hb
  clear hz ho hb
  have HL := hide hlk; clear hlk
  go_enter Tryd.func85, Tryd.ntmps85
  go_wp2_with (first
    | (refine wpList_insert_new (es := #[]) (c := 0) (vv := .string (⟨#[114, 97, 99, 107]⟩ : ByteArray)) rfl rfl _ _ _ _ rfl Tryd.underlying111 Tryd.underlying3 rfl rfl rfl rfl rfl rfl ?_)
    | (refine wpList_insert_new (c := 1) (vv := .string (⟨#[102, 101, 101, 100]⟩ : ByteArray)) rfl rfl _ _ _ _ rfl Tryd.underlying111 Tryd.underlying3 rfl rfl rfl rfl rfl rfl ?_)
    | (refine wpList_insert_new (c := 2) (vv := .string (⟨#[115, 105, 116, 101]⟩ : ByteArray)) rfl rfl _ _ _ _ rfl Tryd.underlying111 Tryd.underlying3 rfl rfl rfl rfl rfl rfl ?_
       have HK : (Instr.lookup 111 (.map (some w.heap.size)) (.int .i64 n) false).run Tryd.prog (w.alloc (.map domEnts 3)) = .ok (.string (domW n)) (w.alloc (.map domEnts 3)) := HL.out
       show wpList _ _ _ _ _ (w.alloc (.map domEnts 3))))
  go_ret
  exact ⟨rfl, (Below.refl _ _).alloc (Nat.le_refl _) _⟩

set_option maxHeartbeats 400000 in
theorem zero_any (n : Int) (w : World) : Calls Tryd.prog 67 #[.int .i64 n] w fun e w' => e = .returned (.bool (zeroI n)) ∧ Below w.heap.size w w' := by
  go_enter Tryd.func67, Tryd.ntmps67
  go_wp2
  go_ret
  exact ⟨ret_congr (by simp [zeroI]; rfl), Below.refl _ _⟩
set_option maxHeartbeats 400000 in
theorem byFailures_any (n : Int) (w : World) : Calls Tryd.prog 80 #[.int .i64 n] w fun e w' => e = .returned (.bool (decide (1 ≤ n) && decide (n ≤ 7))) ∧ Below w.heap.size w w' := by
  by_cases h : 1 ≤ n <;> by_cases h2 : n ≤ 7
  all_goals
    go_enter Tryd.func80, Tryd.ntmps80
    go_wp2
    go_ret
    exact ⟨ret_congr (by simp [h, h2]), Below.refl _ _⟩
set_option maxHeartbeats 400000 in
theorem bySpread_any (n : Int) (w : World) : Calls Tryd.prog 84 #[.int .i64 n] w fun e w' => e = .returned (.bool (decide (2 ≤ n) && decide (n ≤ 4))) ∧ Below w.heap.size w w' := by
  have hd : ((domW n).toList.isEmpty = false ∧ (decide (2 ≤ n) && decide (n ≤ 4)) = true) ∨ ((domW n).toList.isEmpty = true ∧ (decide (2 ≤ n) && decide (n ≤ 4)) = false) := by
    by_cases h2 : n = 2
    · subst h2; left; exact ⟨by rw [ByteArray.toList_eq]; rfl, rfl⟩
    by_cases h3 : n = 3
    · subst h3; left; exact ⟨by rw [ByteArray.toList_eq]; rfl, rfl⟩
    by_cases h4 : n = 4
    · subst h4; left; exact ⟨by rw [ByteArray.toList_eq]; rfl, rfl⟩
    right
    constructor
    · simp [domW, h2, h3, h4]
    · simp; omega
  rcases hd with ⟨h1, h2⟩ | ⟨h1, h2⟩
  all_goals
    have H2 := hide h2; clear h2
    go_enter Tryd.func84, Tryd.ntmps84
    go_wp2_with (go_at_call 85; refine (domain_any n _).mono ?_; rintro e w1 ⟨rfl, hb⟩)
    go_ret
    exact ⟨ret_congr (by rw [H2.out]; rfl), hb⟩

/-- the closure 'by' of a form -/
theorem by_any {k : Int} {f : Form} (h : form? k = some f) :
    (∀ args w, (callFunc (byF k) args).run Tryd.prog w = .ok (.enter (byF k) args) w) ∧ ∀ n w, Calls Tryd.prog (byF k) #[.int .i64 n] w fun e w' => e = .returned (.bool (f.by_ n)) ∧ Below w.heap.size w w' := by
  have e1 : ∀ args w, (callFunc 67 args).run Tryd.prog w = .ok (.enter 67 args) w := fun _ _ => by kernel_rfl
  have e2 : ∀ args w, (callFunc 80 args).run Tryd.prog w = .ok (.enter 80 args) w := fun _ _ => by kernel_rfl
  have e3 : ∀ args w, (callFunc 84 args).run Tryd.prog w = .ok (.enter 84 args) w := fun _ _ => by kernel_rfl
  have hk : k = 9 ∨ k = 12 ∨ (k ≠ 9 ∧ k ≠ 12) := by omega
  rcases hk with rfl | rfl | ⟨h9, h12⟩
  · obtain rfl : _ = f := Option.some.inj h
    exact ⟨e2, byFailures_any⟩
  · obtain rfl : _ = f := Option.some.inj h
    exact ⟨e3, bySpread_any⟩
  · have hb : byF k = 67 := by simp [byF, h9, h12]
    have hf : f.by_ = zeroI := by
      have hr : 0 ≤ k ∧ k < 17 := Classical.byContradiction fun hn => by rw [form_none hn] at h; cases h
      have : k = 0 ∨ k = 1 ∨ k = 2 ∨ k = 3 ∨ k = 4 ∨ k = 5 ∨ k = 6 ∨ k = 7 ∨ k = 8 ∨ k = 10 ∨ k = 11 ∨ k = 13 ∨ k = 14 ∨ k = 15 ∨ k = 16 := by omega
      rcases this with rfl | rfl | rfl | rfl | rfl | rfl | rfl | rfl | rfl | rfl | rfl | rfl | rfl | rfl | rfl
      all_goals
        obtain rfl : _ = f := Option.some.inj h
        rfl
    rw [hb, hf]
    exact ⟨e1, zero_any⟩
end Go.Proofs.YtanhkeeifnimgaaDoor
