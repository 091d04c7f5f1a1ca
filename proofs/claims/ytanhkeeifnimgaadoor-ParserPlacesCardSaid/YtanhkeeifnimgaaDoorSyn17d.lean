/- The walk of syntax.forms: the map of the forms. Conditions: none. -/
import Derived.Test.YtanhkeeifnimgaaDoorMapI
import Derived.Test.YtanhkeeifnimgaaDoorSyn17c
import Derived.Laws.EntriesVeiled
namespace Go.Proofs.YtanhkeeifnimgaaDoor
open Go Go.RowKit Go.Proofs

/-- the closures of a kind's form -/
def byF (k : Int) : Nat := if k = 9 then 80 else if k = 12 then 84 else 67
def textF (k : Int) : Nat :=
  if k = 0 ∨ k = 1 then 68 else if k = 2 then 72 else if k = 3 then 73
  else if k = 5 then 74 else if k = 6 then 77 else if k = 7 then 78
  else if k = 8 then 79 else if k = 9 then 81 else if k = 11 then 83
  else if k = 12 then 86 else if k = 13 then 87 else if k = 14 then 88 else 69
def capF (B : Nat) (k : Int) : Array Value := if k = 11 then #[.pointer (some ⟨B, 0, none⟩)] else #[]
def formVal (B : Nat) (k : Int) : Value :=
  match form? k with
  | some f => .agg #[.string f.word, .bool f.name, .int .i64 f.least, .int .i64 f.most, .int .i64 f.numbers, .func (.func (byF k)) #[] #[], .bool f.always, .func (.func (textF k)) #[] (capF B k)]
  | none => .agg #[.string ⟨#[]⟩, .bool false, .int .i64 0, .int .i64 0, .int .i64 0, .nilFunc, .bool false, .nilFunc]
def entF (B : Nat) (k : Nat) : Value := formVal B (k : Int)
def FormsAt (w : World) (r B : Nat) : Prop := w.heap[r]? = some (.map (ents (entF B) 17) 17) ∧ w.cell? ⟨B, 0, none⟩ = some (.func (.func 69) #[] #[])

set_option maxRecDepth 100000 in
set_option maxHeartbeats 4000000 in
theorem forms_any (w : World) : Calls Tryd.prog 34 #[] w fun e w' => e = .returned (.map (some (w.heap.size + 1))) ∧ FormsAt w' (w.heap.size + 1) w.heap.size ∧ Below w.heap.size w w' := by
  have hmm := @run_makeMap Tryd.prog
  go_enter Tryd.func34, Tryd.ntmps34
  go_wp2_with (refine wpList_insert_next rfl rfl _ _ _ _ rfl Tryd.underlying62 Tryd.underlying3 (entF w.heap.size) rfl (by simp) rfl rfl rfl rfl ?_)
  go_ret
  refine ⟨rfl, ⟨?_, ?_⟩, ((Below.refl _ _).alloc (Nat.le_refl _) _).alloc (by simp) _⟩
  · simpa using heap_alloc_new (w.alloc (.cells #[.func (.func 69) #[] #[]] 58)) _
  · rw [World.cell?_alloc_lt _ _ _ (by simp)]
    exact cell?_new _ _ _ 0

end Go.Proofs.YtanhkeeifnimgaaDoor
