/- The walk of syntax.Valid. Conditions: lengths that fit memory; the table strings.asciiSpace is laid. -/
import Derived.Test.YtanhkeeifnimgaaDoorSyn17f
import Derived.Test.YtanhkeeifnimgaaDoorLaw17a
import Derived.Deep.DeepCutAuto
namespace Go.Proofs.YtanhkeeifnimgaaDoor
open Go Go.RowKit Go.Proofs

theorem formVal_some {B : Nat} {k : Int} {f : Form} (h : form? k = some f) : formVal B k = .agg #[.string f.word, .bool f.name, .int .i64 f.least, .int .i64 f.most, .int .i64 f.numbers, .func (.func (byF k)) #[] #[], .bool f.always, .func (.func (textF k)) #[] (capF B k)] := by
  unfold formVal; rw [h]
theorem formVal_none {B : Nat} {k : Int} (h : form? k = none) : formVal B k = .agg #[.string ⟨#[]⟩, .bool false, .int .i64 0, .int .i64 0, .int .i64 0, .nilFunc, .bool false, .nilFunc] := by
  unfold formVal; rw [h]
theorem FormsAt.alloc {w : World} {r B : Nat} (h : FormsAt w r B) (o : Obj) : FormsAt (w.alloc o) r B := by
  obtain ⟨h1, h2⟩ := h
  refine ⟨?_, ?_⟩
  · have hlt : r < w.heap.size := (Array.getElem?_eq_some_iff.1 h1).1
    rw [← h1]; exact Below.heap_alloc w o r hlt
  · rw [World.cell?_alloc_lt _ _ _ (World.block_lt_of_cell? w _ h2)]; exact h2
theorem lookup_some {w : World} {r B : Nat} (h : FormsAt w r B) {k : Int} {f : Form} (hf : form? k = some f) :
    (Instr.lookup 62 (.map (some r)) (.int .i64 k) true).run Tryd.prog w = .ok (.tuple #[.agg #[.string f.word, .bool f.name, .int .i64 f.least, .int .i64 f.most, .int .i64 f.numbers, .func (.func (byF k)) #[] #[], .bool f.always, .func (.func (textF k)) #[] (capF B k)], .bool true]) w := by
  rw [forms_lookup h k, formVal_some hf, hf]; rfl
theorem lookup_none {w : World} {r B : Nat} (h : FormsAt w r B) {k : Int} (hf : form? k = none) :
    (Instr.lookup 62 (.map (some r)) (.int .i64 k) true).run Tryd.prog w = .ok (.tuple #[.agg #[.string ⟨#[]⟩, .bool false, .int .i64 0, .int .i64 0, .int .i64 0, .nilFunc, .bool false, .nilFunc], .bool false]) w := by
  rw [forms_lookup h k, formVal_none hf, hf]; rfl


set_option maxHeartbeats 400000 in
theorem notName_any (s : ByteArray) (w : World) (ha : Asc w) (hs : s.size ≤ 9223372036854775807) :
    Calls Tryd.prog 38 #[.string s] w fun e w' => e = .returned (.bool (!isName s)) ∧ Below w.heap.size w w' := by
  go_enter Tryd.func38, Tryd.ntmps38
  go_wp2_with (go_at_call 35; refine (isName_prog s _ ha hs).mono ?_; rintro e w1 ⟨rfl, hb⟩)
  go_ret
  exact ⟨rfl, hb⟩
set_option maxHeartbeats 400000 in
theorem oddNum_any (a : Int) (w : World) : Calls Tryd.prog 36 #[.int .i64 a] w fun e w' => e = .returned (.bool (!numOk a)) ∧ Below w.heap.size w w' := by
  have HO := hide (show (!numOk a) = (decide (a < 0) || decide (1048576 < a)) by simp [numOk]; grind)
  by_cases h : a < 0
  · go_enter Tryd.func36, Tryd.ntmps36
    go_wp2
    go_ret
    exact ⟨ret_congr (by rw [HO.out]; simp [h]), Below.refl _ _⟩
  · go_enter Tryd.func36, Tryd.ntmps36
    go_wp2
    go_ret
    exact ⟨ret_congr (by rw [HO.out]; simp; omega), Below.refl _ _⟩
theorem notName_pred {refs : List ByteArray} {w : World} (ha : Asc w) (hf : Fit refs) : PredS 38 #[] refs (fun s => !isName s) w :=
  fun _ hk W hb => notName_any _ W (ha.below (Nat.le_refl _) hb) (hf.at_ hk)
theorem oddNum_pred {nums : List Int} {w : World} : PredI 36 #[] nums (fun n => !numOk n) w :=
  fun _ _ W _ => oddNum_any _ W
theorem any_not {α : Type} (l : List α) (p : α → Bool) : l.any (fun x => !p x) = !l.all p := List.not_all_eq_any_not.symm
end Go.Proofs.YtanhkeeifnimgaaDoor
