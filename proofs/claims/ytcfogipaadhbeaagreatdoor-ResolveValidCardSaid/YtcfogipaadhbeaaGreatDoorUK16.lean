/- A part of the claim: see its last text. -/
import Derived.Test.YtcfogipaadhbeaaGreatDoorUK11
import Derived.Test.YtcfogipaadhbeaaGreatDoorUK15
import Derived.Test.YtcfogipaadhbeaaGreatDoorUK05
import Derived.Test.YtcfogipaadhbeaaGreatDoorUK02
import Derived.Laws.EntriesVeiled
import Derived.Test.YtcfogipaadhbeaaGreatDoorProg
import Derived.Test.YtcfogipaadhbeaaGreatDoorUK08
import Derived.Deep.RegionHeld3
import Derived.BigQuiet

set_option maxRecDepth 100000
set_option maxHeartbeats 16000000
namespace Go.Proofs.YtcfogipaadhbeaaGreatDoor
open Go Go.RowKit Go.Proofs
def shapesW (k : Int) (n : Nat) : List (Option Int) := fixedK k ++ List.replicate (n - (fixedK k).length) (some 3)
def pW (o : Option Int) (k : Int) : Bool := match o with | none => decide (sectI k = 5) | some c => decide (k = c)
theorem shapesW_len {k : Int} {n : Nat} (h : (fixedK k).length ≤ n) : (shapesW k n).length = n := by
 unfold shapesW
 rw [List.length_append, List.length_replicate]; omega
theorem fixed_lo : ∀ n : Nat, n < 17 → (fixedK (n : Int)).length ≤ refsLo (n : Int) := by decide
theorem fixed_le {d : Decl} (h : validD d = true) : (fixedK d.kind).length ≤ d.refs.length := by
 obtain ⟨k0, k1⟩ := vd_kind h
 obtain ⟨h1, _, _⟩ := vd_counts h
 obtain ⟨n, hn⟩ : ∃ n : Nat, d.kind = n := ⟨d.kind.toNat, by omega⟩
 rw [hn] at h1 ⊢
 exact Nat.le_trans (fixed_lo n (by omega)) h1
theorem want_at {d : Decl} (hv : validD d = true) {i : Nat} (hi : i < d.refs.length) : ∃ o, (shapesW d.kind d.refs.length)[i]? = some o ∧ ∀ k, pW o k = wantB d.kind i k := by
 obtain ⟨k0, k1⟩ := vd_kind hv
 obtain ⟨h1, h2, _⟩ := vd_counts hv
 have hk : d.kind = 0 ∨ d.kind = 1 ∨ d.kind = 2 ∨ d.kind = 3 ∨ d.kind = 4 ∨ d.kind = 5 ∨ d.kind = 6 ∨ d.kind = 7 ∨ d.kind = 8 ∨ d.kind = 9 ∨ d.kind = 10 ∨ d.kind = 11 ∨ d.kind = 12 ∨ d.kind = 13 ∨ d.kind = 14 ∨ d.kind = 15 ∨ d.kind = 16 := by omega
 obtain ⟨n, hn⟩ : ∃ n, n = d.refs.length := ⟨_, rfl⟩
 rw [← hn] at hi h1 h2 ⊢
 have rep : ∀ (k : Int), fixedK k = [] → (shapesW k n)[i]? = some (some 3) := fun k h => by
  unfold shapesW; rw [h]; simp [hi]
 rcases hk with e | e | e | e | e | e | e | e | e | e | e | e | e | e | e | e | e <;> rw [e] at h1 h2 ⊢
 · exact absurd h2 (by rw [show refsHi 0 = 0 from by decide]; omega)
 · exact absurd h2 (by rw [show refsHi 1 = 0 from by decide]; omega)
 · have : n = 2 := by rw [show refsHi 2 = 2 from by decide] at h2; rw [show refsLo 2 = 2 from by decide] at h1; omega
   subst this
   have : i = 0 ∨ i = 1 := by omega
   rcases this with e | e <;> subst e
   · exact ⟨some 0, by decide, fun k => by simp [pW, wantB]⟩
   · exact ⟨some 1, by decide, fun k => by simp [pW, wantB]⟩
 · have : n = 1 := by rw [show refsHi 3 = 1 from by decide] at h2; omega
   subst this
   obtain rfl : i = 0 := by omega
   exact ⟨some 2, by decide, fun k => by simp [pW, wantB]⟩
 · have : n = 2 := by rw [show refsHi 4 = 2 from by decide] at h2; rw [show refsLo 4 = 2 from by decide] at h1; omega
   subst this
   have : i = 0 ∨ i = 1 := by omega
   rcases this with e | e <;> subst e <;> exact ⟨some 0, by decide, fun k => by simp [pW, wantB]⟩
 · exact ⟨some 3, rep 5 (by decide), fun k => by simp [pW, wantB]⟩
 · exact ⟨some 3, rep 6 (by decide), fun k => by simp [pW, wantB]⟩
 · exact ⟨some 3, rep 7 (by decide), fun k => by simp [pW, wantB]⟩
 · have : n = 1 := by rw [show refsHi 8 = 1 from by decide] at h2; omega
   subst this
   obtain rfl : i = 0 := by omega
   exact ⟨some 0, by decide, fun k => by simp [pW, wantB]⟩
 · exact absurd h2 (by rw [show refsHi 9 = 0 from by decide]; omega)
 · have : n = 1 := by rw [show refsHi 10 = 1 from by decide] at h2; omega
   subst this
   obtain rfl : i = 0 := by omega
   exact ⟨some 5, by decide, fun k => by simp [pW, wantB]⟩
 · have : n = 1 := by rw [show refsHi 11 = 1 from by decide] at h2; omega
   subst this
   obtain rfl : i = 0 := by omega
   exact ⟨none, by decide, fun k => by simp [pW, wantB]⟩
 · have : n = 1 := by rw [show refsHi 12 = 1 from by decide] at h2; omega
   subst this
   obtain rfl : i = 0 := by omega
   exact ⟨none, by decide, fun k => by simp [pW, wantB]⟩
 · by_cases e0 : i = 0
   · subst e0
     exact ⟨none, by unfold shapesW; rw [show fixedK 13 = [none] from by decide]; rfl, fun k => by simp [pW, wantB]⟩
   · refine ⟨some 3, ?_, fun k => by simp [pW, wantB, e0]⟩
     unfold shapesW
     rw [show fixedK 13 = [none] from by decide, List.getElem?_append_right (by simp; omega), List.getElem?_replicate, if_pos (by simp; omega)]
 · have : n = 2 := by rw [show refsHi 14 = 2 from by decide] at h2; rw [show refsLo 14 = 2 from by decide] at h1; omega
   subst this
   have : i = 0 ∨ i = 1 := by omega
   rcases this with e | e <;> subst e <;> exact ⟨none, by decide, fun k => by simp [pW, wantB]⟩
 · exact absurd h2 (by rw [show refsHi 15 = 0 from by decide]; omega)
 · have : n = 1 := by rw [show refsHi 16 = 1 from by decide] at h2; omega
   subst this
   obtain rfl : i = 0 := by omega
   exact ⟨none, by decide, fun k => by simp [pW, wantB]⟩
/-! the references one by one -/
theorem refs_none {l : List Decl} {dk : Int} {rs : List ByteArray} {k : Nat} (h : k < rs.length) (hf : findD l rs[k] = none) : refsE l dk k (rs.drop k) = 4 := by
 rw [List.drop_eq_getElem_cons h, refsE, hf]
theorem refs_bad {l : List Decl} {dk : Int} {rs : List ByteArray} {k : Nat} {x : Int × Int} (h : k < rs.length) (hf : findD l rs[k] = some x) (hw : wantB dk k x.1 = false) : refsE l dk k (rs.drop k) = 7 := by
 rw [List.drop_eq_getElem_cons h, refsE, hf]
 simp [hw]
theorem refs_step {l : List Decl} {dk : Int} {rs : List ByteArray} {k : Nat} {x : Int × Int} (h : k < rs.length) (hf : findD l rs[k] = some x) (hw : wantB dk k x.1 = true) : refsE l dk k (rs.drop k) = refsE l dk (k + 1) (rs.drop (k + 1)) := by
 rw [List.drop_eq_getElem_cons h, refsE, hf]
 simp [hw]
def listD (d : Decl) : List ByteArray := if d.kind = 5 ∨ d.kind = 6 then d.refs else if d.kind = 13 then d.refs.drop 1 else []
theorem listD_nodup {d : Decl} (h : validD d = true) : (listD d).Nodup ↔ (machsD d).Nodup := by
 unfold listD machsD
 by_cases e7 : d.kind = 7
 · obtain ⟨_, h2, _⟩ := vd_counts h
   rw [e7, show refsHi 7 = 1 from by decide] at h2
   rw [if_neg (by omega), if_neg (by omega), if_pos (by omega)]
   have : d.refs.length = 0 ∨ d.refs.length = 1 := by omega
   rcases this with e | e
   · rw [List.eq_nil_of_length_eq_zero e]
   · obtain ⟨a, ha⟩ := List.length_eq_one_iff.1 e
     rw [ha]; simp
 · by_cases e : d.kind = 5 ∨ d.kind = 6
   · rw [if_pos e, if_pos (by omega)]
   · rw [if_neg e]
     by_cases e13 : d.kind = 13
     · rw [if_pos e13, if_neg (by omega)]
     · rw [if_neg e13, if_neg (by omega)]
theorem check_refs {l : List Decl} {d : Decl} {e : Int} (h : refsE l d.kind 0 d.refs = e) (he : e ≠ 0) : checkE l d = e := by
 unfold checkE; rw [h, if_pos he]
theorem check_dup {l : List Decl} {d : Decl} (hv : validD d = true) (h : refsE l d.kind 0 d.refs = 0) (hn : ¬ (listD d).Nodup) : checkE l d = 5 := by
 unfold checkE; rw [h, if_neg (by simp), if_pos (by rw [← listD_nodup hv]; exact hn)]
theorem check_same {l : List Decl} {d : Decl} (hv : validD d = true) (h : refsE l d.kind 0 d.refs = 0) (hn : (listD d).Nodup) (hk : d.kind = 4 ∨ d.kind = 14) (hs : d.refs[0]? = d.refs[1]?) : checkE l d = 2 := by
 unfold checkE; rw [h, if_neg (by simp), if_neg (by rw [← listD_nodup hv]; exact fun h => h hn), if_pos ⟨hk, hs⟩]
theorem check_fine {l : List Decl} {d : Decl} (hv : validD d = true) (h : refsE l d.kind 0 d.refs = 0) (hn : (listD d).Nodup) (hs : ¬ (d.kind = 4 ∨ d.kind = 14) ∨ d.refs[0]? ≠ d.refs[1]?) : checkE l d = 0 := by
 unfold checkE; rw [h, if_neg (by simp), if_neg (by rw [← listD_nodup hv]; exact fun h => h hn), if_neg (fun h => by rcases hs with h2 | h2; exact h2 h.1; exact h2 h.2)]
def byF (k : Int) : Nat := if k = 9 then 150 else if k = 12 then 154 else 137
def textF (k : Int) : Nat :=
 if k = 0 ∨ k = 1 then 138 else if k = 2 then 142 else if k = 3 then 143
 else if k = 5 then 144 else if k = 6 then 147 else if k = 7 then 148
 else if k = 8 then 149 else if k = 9 then 151 else if k = 11 then 153
 else if k = 12 then 156 else if k = 13 then 157 else if k = 14 then 158 else 139
def capF (B : Nat) (k : Int) : Array Value := if k = 11 then #[.pointer (some ⟨B, 0, none⟩)] else #[]
def formVal (B : Nat) (k : Int) : Value :=
 match form? k with
 | some f => .agg #[.string f.word, .bool f.name, .int .i64 f.least, .int .i64 f.most, .int .i64 f.numbers, .func (.func (byF k)) #[] #[], .bool f.always, .func (.func (textF k)) #[] (capF B k)]
 | none => .agg #[.string ⟨#[]⟩, .bool false, .int .i64 0, .int .i64 0, .int .i64 0, .nilFunc, .bool false, .nilFunc]
def entF (B : Nat) (k : Nat) : Value := formVal B (k : Int)
def FormsAt (w : World) (r B : Nat) : Prop := w.heap[r]? = some (.map (ents (entF B) 17) 17) ∧ w.cell? ⟨B, 0, none⟩ = some (.func (.func 139) #[] #[])
theorem forms_any (w : World) : Calls Tryz.prog 96 #[] w fun e w' => e = .returned (.map (some (w.heap.size + 1))) ∧ FormsAt w' (w.heap.size + 1) w.heap.size ∧ Below w.heap.size w w' := by
 have hmm := @run_makeMap Tryz.prog
 go_enter Tryz.func96, Tryz.ntmps96
 go_wp2_with (refine wpList_insert_next rfl rfl _ _ _ _ rfl Tryz.underlying129 Tryz.underlying3 (entF w.heap.size) rfl (by simp) rfl rfl rfl rfl ?_)
 go_ret
 refine ⟨rfl, ⟨?_, ?_⟩, ((Below.refl _ _).alloc (Nat.le_refl _) _).alloc (by simp) _⟩
 · simpa using heap_alloc_new (w.alloc (.cells #[.func (.func 139) #[] #[]] 117)) _
 · rw [World.cell?_alloc_lt _ _ _ (by simp)]
   exact cell?_new _ _ _ 0
theorem form_none {k : Int} (h : ¬ (0 ≤ k ∧ k < 17)) : form? k = none := by
 unfold form?
 repeat rw [if_neg (by omega)]
theorem zero_form (w : World) : (zeroValue 127).run Tryz.prog w = .ok (formVal 0 (-1)) w := by kernel_rfl
theorem forms_lookup {w : World} {r B : Nat} (h : FormsAt w r B) (k : Int) :
    (Instr.lookup 129 (.map (some r)) (.int .i64 k) true).run Tryz.prog w = .ok (.tuple #[formVal B k, .bool (form? k).isSome]) w := by
 refine run_lookup_int Tryz.underlying129 Tryz.underlying3 (zero_form w) h.1 (find_ents _ _ k) ?_
 by_cases hk : 0 ≤ k ∧ k < ((17 : Nat) : Int)
 · rw [if_pos hk]; unfold pickO
   have hk2 : ((k.toNat : Nat) : Int) = k := by omega
   have : (form? k).isSome = true := by
    have : k = 0 ∨ k = 1 ∨ k = 2 ∨ k = 3 ∨ k = 4 ∨ k = 5 ∨ k = 6 ∨ k = 7 ∨ k = 8 ∨ k = 9 ∨ k = 10 ∨ k = 11 ∨ k = 12 ∨ k = 13 ∨ k = 14 ∨ k = 15 ∨ k = 16 := by omega
    rcases this with rfl | rfl | rfl | rfl | rfl | rfl | rfl | rfl | rfl | rfl | rfl | rfl | rfl | rfl | rfl | rfl | rfl <;> rfl
   simp only [entF, hk2, this]
 · rw [if_neg hk]; unfold pickO
   have hf : form? k = none := form_none (by omega)
   have h0 : form? (-1) = none := form_none (by omega)
   simp only [formVal, hf, h0, Option.isSome_none]
end Go.Proofs.YtcfogipaadhbeaaGreatDoor
namespace Go.Proofs.YtcfogipaadhbeaaGreatDoor
open Go Go.RowKit Go.Proofs
def domW (n : Int) : ByteArray := if n = 2 then (⟨#[114, 97, 99, 107]⟩ : ByteArray) else if n = 3 then (⟨#[102, 101, 101, 100]⟩ : ByteArray) else if n = 4 then (⟨#[115, 105, 116, 101]⟩ : ByteArray) else ⟨#[]⟩
def domEnts : Array MapEntry := #[{ key := .int .i64 2, val := .string (⟨#[114, 97, 99, 107]⟩ : ByteArray), born := 0 }, { key := .int .i64 3, val := .string (⟨#[102, 101, 101, 100]⟩ : ByteArray), born := 1 }, { key := .int .i64 4, val := .string (⟨#[115, 105, 116, 101]⟩ : ByteArray), born := 2 }]
theorem domEnts_find (n : Int) : ∃ o, Instr.findNow (.int .i64) (.int .i64 n) domEnts.toList 0 = some o ∧ ∃ b, pickO o (.string ⟨#[]⟩) = (.string (domW n), b) := by
 by_cases h2 : n = 2
 · subst h2; exact ⟨_, rfl, _, rfl⟩
 by_cases h3 : n = 3
 · subst h3; exact ⟨_, rfl, _, rfl⟩
 by_cases h4 : n = 4
 · subst h4; exact ⟨_, rfl, _, rfl⟩
 refine ⟨none, findNow_none _ _ fun e he => ?_, false, by simp [pickO, domW, h2, h3, h4]⟩
 simp [domEnts] at he
 rcases he with rfl | rfl | rfl
 · exact ⟨2, rfl, h2⟩
 · exact ⟨3, rfl, h3⟩
 · exact ⟨4, rfl, h4⟩
theorem domain_any (n : Int) (w : World) : Calls Tryz.prog 155 #[.int .i64 n] w fun e w' => e = .returned (.string (domW n)) ∧ Below w.heap.size w w' := by
 have hmm := @run_makeMap Tryz.prog
 have hz : ∀ w : World, (zeroValue 9).run Tryz.prog w = .ok (.string ⟨#[]⟩) w := fun _ => by kernel_rfl
 obtain ⟨o, ho, b, hb⟩ := domEnts_find n
 have hlk := run_lookup_int1 (P := Tryz.prog) (w := w.alloc (.map domEnts 3)) (r := w.heap.size) (c := 3) (k := n) Tryz.underlying183 Tryz.underlying3 (hz _) (heap_alloc_new w _) ho hb
 clear hz ho hb
 have HL := hide hlk; clear hlk
 go_enter Tryz.func155, Tryz.ntmps155
 go_wp2_with (first
  | (refine wpList_insert_new (es := #[]) (c := 0) (vv := .string (⟨#[114, 97, 99, 107]⟩ : ByteArray)) rfl rfl _ _ _ _ rfl Tryz.underlying183 Tryz.underlying3 rfl rfl rfl rfl rfl rfl ?_)
  | (refine wpList_insert_new (c := 1) (vv := .string (⟨#[102, 101, 101, 100]⟩ : ByteArray)) rfl rfl _ _ _ _ rfl Tryz.underlying183 Tryz.underlying3 rfl rfl rfl rfl rfl rfl ?_)
  | (refine wpList_insert_new (c := 2) (vv := .string (⟨#[115, 105, 116, 101]⟩ : ByteArray)) rfl rfl _ _ _ _ rfl Tryz.underlying183 Tryz.underlying3 rfl rfl rfl rfl rfl rfl ?_
     have HK : (Instr.lookup 183 (.map (some w.heap.size)) (.int .i64 n) false).run Tryz.prog (w.alloc (.map domEnts 3)) = .ok (.string (domW n)) (w.alloc (.map domEnts 3)) := HL.out
     show wpList _ _ _ _ _ (w.alloc (.map domEnts 3))))
 go_ret
 exact ⟨rfl, (Below.refl _ _).alloc (Nat.le_refl _) _⟩
theorem zero_any (n : Int) (w : World) : Calls Tryz.prog 137 #[.int .i64 n] w fun e w' => e = .returned (.bool (zeroI n)) ∧ Below w.heap.size w w' := by
 go_enter Tryz.func137, Tryz.ntmps137
 go_wp2
 go_ret
 exact ⟨ret_congr (by simp [zeroI]; rfl), Below.refl _ _⟩
theorem byFailures_any (n : Int) (w : World) : Calls Tryz.prog 150 #[.int .i64 n] w fun e w' => e = .returned (.bool (decide (1 ≤ n) && decide (n ≤ 7))) ∧ Below w.heap.size w w' := by
 by_cases h : 1 ≤ n <;> by_cases h2 : n ≤ 7
 all_goals
  go_enter Tryz.func150, Tryz.ntmps150
  go_wp2
  go_ret
  exact ⟨ret_congr (by simp [h, h2]), Below.refl _ _⟩
theorem bySpread_any (n : Int) (w : World) : Calls Tryz.prog 154 #[.int .i64 n] w fun e w' => e = .returned (.bool (decide (2 ≤ n) && decide (n ≤ 4))) ∧ Below w.heap.size w w' := by
 have hd : ((domW n).toList.isEmpty = false ∧ (decide (2 ≤ n) && decide (n ≤ 4)) = true) ∨ ((domW n).toList.isEmpty = true ∧ (decide (2 ≤ n) && decide (n ≤ 4)) = false) := by
  by_cases h2 : n = 2
  · subst h2; left; exact ⟨by rw [ByteArray.toList_eq]; rfl, rfl⟩
  by_cases h3 : n = 3
  · subst h3; left; exact ⟨by rw [ByteArray.toList_eq]; rfl, rfl⟩
  by_cases h4 : n = 4
  · subst h4; left; exact ⟨by rw [ByteArray.toList_eq]; rfl, rfl⟩
  right
  constructor
  · simp [domW, h2, h3, h4]
  · simp; omega
 rcases hd with ⟨h1, h2⟩ | ⟨h1, h2⟩
 all_goals
  have H2 := hide h2; clear h2
  go_enter Tryz.func154, Tryz.ntmps154
  go_wp2_with (go_at_call 155; refine (domain_any n _).mono ?_; rintro e w1 ⟨rfl, hb⟩)
  go_ret
  exact ⟨ret_congr (by rw [H2.out]; rfl), hb⟩
theorem by_any {k : Int} {f : Form} (h : form? k = some f) :
    (∀ args w, (callFunc (byF k) args).run Tryz.prog w = .ok (.enter (byF k) args) w) ∧ ∀ n w, Calls Tryz.prog (byF k) #[.int .i64 n] w fun e w' => e = .returned (.bool (f.by_ n)) ∧ Below w.heap.size w w' := by
 have e1 : ∀ args w, (callFunc 137 args).run Tryz.prog w = .ok (.enter 137 args) w := fun _ _ => by kernel_rfl
 have e2 : ∀ args w, (callFunc 150 args).run Tryz.prog w = .ok (.enter 150 args) w := fun _ _ => by kernel_rfl
 have e3 : ∀ args w, (callFunc 154 args).run Tryz.prog w = .ok (.enter 154 args) w := fun _ _ => by kernel_rfl
 have hk : k = 9 ∨ k = 12 ∨ (k ≠ 9 ∧ k ≠ 12) := by omega
 rcases hk with rfl | rfl | ⟨h9, h12⟩
 · obtain rfl : _ = f := Option.some.inj h
   exact ⟨e2, byFailures_any⟩
 · obtain rfl : _ = f := Option.some.inj h
   exact ⟨e3, bySpread_any⟩
 · have hb : byF k = 137 := by simp [byF, h9, h12]
   have hf : f.by_ = zeroI := by
    have hr : 0 ≤ k ∧ k < 17 := Classical.byContradiction fun hn => by rw [form_none hn] at h; cases h
    have : k = 0 ∨ k = 1 ∨ k = 2 ∨ k = 3 ∨ k = 4 ∨ k = 5 ∨ k = 6 ∨ k = 7 ∨ k = 8 ∨ k = 10 ∨ k = 11 ∨ k = 13 ∨ k = 14 ∨ k = 15 ∨ k = 16 := by omega
    rcases this with rfl | rfl | rfl | rfl | rfl | rfl | rfl | rfl | rfl | rfl | rfl | rfl | rfl | rfl | rfl
    all_goals
     obtain rfl : _ = f := Option.some.inj h
     rfl
   rw [hb, hf]
   exact ⟨e1, zero_any⟩
end Go.Proofs.YtcfogipaadhbeaaGreatDoor

namespace Go.Proofs.YtcfogipaadhbeaaGreatDoor
open Go Go.RowKit
def formB (nm : ByteArray) (rn nn : Nat) (bY : Int) (al : Bool) (name : Bool) (least most numbers : Int) (by_ always : Bool) : Bool :=
 (name == !nm.toList.isEmpty) && decide (least ≤ (rn : Int)) && decide ((rn : Int) ≤ most) && ((nn : Int) == numbers) && (by_ || decide (bY = 0)) && (always || !al)
theorem form_any (k : Int) (nm : ByteArray) (ra : Option Addr) (rn rc : Nat) (na : Option Addr) (nn nc : Nat) (bY : Int) (al : Bool) (name : Bool) (least most numbers : Int) (by_ always : Bool) (w : World) :
    Calls Tryz.prog 92 #[.agg #[.int .i64 k, .string nm, .slice ra rn rc, .slice na nn nc, .int .i64 bY, .bool al], .bool name, .int .i64 least, .int .i64 most, .int .i64 numbers, .bool by_, .bool always] w
     fun e w' => e = .returned (.bool (formB nm rn nn bY al name least most numbers by_ always)) ∧ Below w.heap.size w w' := by
 go_enter Tryz.func92, Tryz.ntmps92
 go_wp2
 all_goals
  go_ret
  refine ⟨ret_congr (congrArg Value.bool ?_), (Below.refl _ _).alloc (Nat.le_refl _) _⟩
  simp_all [formB]
  try (intros; omega)
def shapeB (k : Int) (nm : ByteArray) (rn nn : Nat) (bY : Int) (al : Bool) : Bool :=
 if k = 0 ∨ k = 1 then formB nm rn nn bY al true 0 0 0 false false
 else if k = 2 then formB nm rn nn bY al true 2 2 0 false false
 else if k = 3 then formB nm rn nn bY al true 1 1 1 false false
 else if k = 4 then formB nm rn nn bY al false 2 2 1 false false
 else if k = 5 then formB nm rn nn bY al true 1 16 3 false false
 else if k = 6 then formB nm rn nn bY al true 1 16 4 false false
 else if k = 7 then formB nm rn nn bY al true 1 1 3 false false
 else if k = 8 then formB nm rn nn bY al false 1 1 2 false false
 else if k = 9 then formB nm rn nn bY al false 0 0 0 true false && decide (1 ≤ bY) && decide (bY ≤ 7)
 else if k = 10 then formB nm rn nn bY al false 1 1 0 false false
 else if k = 11 then formB nm rn nn bY al false 1 1 1 false true
 else if k = 12 then formB nm rn nn bY al false 1 1 1 true false && decide (2 ≤ bY) && decide (bY ≤ 4)
 else if k = 13 then formB nm rn nn bY al false 2 17 0 false false
 else if k = 14 then formB nm rn nn bY al false 2 2 0 false false
 else if k = 15 then formB nm rn nn bY al false 0 0 1 false false
 else if k = 16 then formB nm rn nn bY al false 1 1 1 false false
 else false
theorem shape_any (k : Int) (nm : ByteArray) (ra : Option Addr) (rn rc : Nat) (na : Option Addr) (nn nc : Nat) (bY : Int) (al : Bool) (w : World) :
    Calls Tryz.prog 47 #[.agg #[.int .i64 k, .string nm, .slice ra rn rc, .slice na nn nc, .int .i64 bY, .bool al]] w
     fun e w' => e = .returned (.bool (shapeB k nm rn nn bY al)) ∧ Below w.heap.size w w' := by
 go_enter Tryz.func47, Tryz.ntmps47
 go_wp2_with ((go_at_call 92; refine (form_any k nm ra rn rc na nn nc bY al _ _ _ _ _ _ _).mono ?_; rintro e w1 ⟨rfl, hb⟩; obtain ⟨hc1, _⟩ := bcell hb))
 all_goals
  go_ret
  refine ⟨ret_congr (congrArg Value.bool ?_), ?_⟩
  · simp_all [shapeB]
    try (intros; omega)
  · first | exact ((Below.refl _ _).alloc (Nat.le_refl _) _).trans (hb.mono (by simp)) | exact (Below.refl _ _).alloc (Nat.le_refl _) _
end Go.Proofs.YtcfogipaadhbeaaGreatDoor
namespace Go.Proofs.YtcfogipaadhbeaaGreatDoor
open Go Go.RowKit
def Fit (l : List ByteArray) : Prop := ∀ s ∈ l, s.size ≤ 9223372036854775807
theorem Fit.at_ {l : List ByteArray} (h : Fit l) {k : Nat} (hk : k < l.length) : l[k].size ≤ 9223372036854775807 := h _ (List.getElem_mem _)
def validB (k : Int) (nm : ByteArray) (refs : List ByteArray) (nums : List Int) (bY : Int) (al : Bool) : Bool :=
 shapeB k nm refs.length nums.length bY al && (nm.toList.isEmpty || isName nm) && refs.all isName && nums.all numOk
theorem all_false_at {α : Type} {l : List α} {p : α → Bool} {k : Nat} (hk : k < l.length) (h : p l[k] = false) : l.all p = false := by
 rw [List.all_eq_false]; exact ⟨l[k], List.getElem_mem _, by simp [h]⟩
theorem all_true_of {α : Type} {l : List α} {p : α → Bool} (h : ∀ j (hj : j < l.length), p l[j] = true) : l.all p = true := by
 rw [List.all_eq_true]; intro x hx; obtain ⟨j, hj, rfl⟩ := List.getElem_of_mem hx; exact h j hj
theorem valid_ref (k : Int) (nm : ByteArray) (ra : Option Addr) (refs : List ByteArray) (rc : Nat) (na : Option Addr) (nums : List Int) (nc : Nat) (bY : Int) (al : Bool) (w : World)
    (hs : nm.size ≤ 9223372036854775807) (hf : Fit refs) (hl1 : refs.length ≤ 9223372036854775807) (hl2 : nums.length ≤ 9223372036854775807) (hr : Strs w w.heap.size ra refs) (hn : Ints w w.heap.size na nums) :
    Calls Tryz.prog 19 #[.agg #[.int .i64 k, .string nm, .slice ra refs.length rc, .slice na nums.length nc, .int .i64 bY, .bool al]] w
     fun e w' => e = .returned (.bool (validB k nm refs nums bY al)) ∧ Below w.heap.size w w' := by
 cases h1 : shapeB k nm refs.length nums.length bY al
 · have HV := hide (show validB k nm refs nums bY al = false by simp [validB, h1])
   go_enter Tryz.func19, Tryz.ntmps19
   go_wp2_with ((go_at_call 47; refine (shape_any k nm ra refs.length rc na nums.length nc bY al _).mono ?_; rintro e w1 ⟨rfl, hb⟩; obtain ⟨hc1, _⟩ := bcell hb))
   go_ret
   exact ⟨ret_congr (by rw [HV.out]; rfl), ((Below.refl _ _).alloc (Nat.le_refl _) _).trans (hb.mono (by simp))⟩
 cases h2 : (nm.toList.isEmpty || isName nm)
 · have HV := hide (show validB k nm refs nums bY al = false by simp [validB, h1, h2])
   simp only [Bool.or_eq_false_iff] at h2
   obtain ⟨h2, h3⟩ := h2
   have h2' : (!nm.toList.isEmpty) = true := by simp [h2]
   go_enter Tryz.func19, Tryz.ntmps19
   go_wp2_with (first
    | (go_at_call 47; refine (shape_any k nm ra refs.length rc na nums.length nc bY al _).mono ?_; rintro e w1 ⟨rfl, hb⟩; obtain ⟨hc1, _⟩ := bcell hb)
    | (go_at_call 48; refine (isName_ref nm _ hs).mono ?_; rintro e w2 ⟨rfl, hb2⟩))
   go_ret
   exact ⟨ret_congr (by rw [HV.out]; rfl), ((Below.refl _ _).alloc (Nat.le_refl _) _).trans ((hb.mono (by simp)).trans (hb2.mono (by have := hb.size; simp at this; omega)))⟩
 have hnm : (nm.toList.isEmpty = true) ∨ (nm.toList.isEmpty = false ∧ (!nm.toList.isEmpty) = true ∧ isName nm = true) := by
  cases h3 : nm.toList.isEmpty <;> simp_all
 have H2 := hide h2; clear h2
 rcases hnm with h2 | ⟨h2, h2', h3⟩
 all_goals
  go_enter Tryz.func19, Tryz.ntmps19
  go_wp2_with (first
   | (go_at_call 47; refine (shape_any k nm ra refs.length rc na nums.length nc bY al _).mono ?_; rintro e w1 ⟨rfl, hb⟩; obtain ⟨hc1, _⟩ := bcell hb)
   | (go_at_call 48; refine (isName_ref nm _ hs).mono ?_; rintro e w2 ⟨rfl, hb2⟩))
  first
   | (have hq : ∃ W, W = w2 := ⟨_, rfl⟩
      obtain ⟨W, rfl⟩ := hq
      have hsz : w.heap.size < W.heap.size := by have := hb.size; have := hb2.size; simp at *; omega
      have hbW : Below w.heap.size w W := ((Below.refl _ _).alloc (Nat.le_refl _) _).trans ((hb.mono (by simp)).trans (hb2.mono (by have := hb.size; simp at this; omega)))
      have hc2 : W.cell? ⟨w.heap.size, 2, none⟩ = some (.slice ra refs.length rc) := by
       rw [(bcell hb2).1 _ _ (by have := hb.size; simp at this; omega), hc1 _ _ (by simp)]; exact cell?_new _ _ _ _
      have hc3 : W.cell? ⟨w.heap.size, 3, none⟩ = some (.slice na nums.length nc) := by
       rw [(bcell hb2).1 _ _ (by have := hb.size; simp at this; omega), hc1 _ _ (by simp)]; exact cell?_new _ _ _ _
      clear hb2)
   | (have hq : ∃ W, W = w1 := ⟨_, rfl⟩
      obtain ⟨W, rfl⟩ := hq
      have hsz : w.heap.size < W.heap.size := by have := hb.size; simp at *; omega
      have hbW : Below w.heap.size w W := ((Below.refl _ _).alloc (Nat.le_refl _) _).trans (hb.mono (by simp))
      have hc2 : W.cell? ⟨w.heap.size, 2, none⟩ = some (.slice ra refs.length rc) := by rw [hc1 _ _ (by simp)]; exact cell?_new _ _ _ _
      have hc3 : W.cell? ⟨w.heap.size, 3, none⟩ = some (.slice na nums.length nc) := by rw [hc1 _ _ (by simp)]; exact cell?_new _ _ _ _)
  clear hc1 hb
  have H1 := hide h1; clear h1
  go_loopw [3] (fun i wr => ∃ j : Nat, j ≤ refs.length ∧ i = .int .i64 j ∧ Below w.heap.size w wr ∧ w.heap.size < wr.heap.size ∧ wr.cell? ⟨w.heap.size, 2, none⟩ = some (.slice ra refs.length rc) ∧ wr.cell? ⟨w.heap.size, 3, none⟩ = some (.slice na nums.length nc) ∧ Hid (∀ x (hx : x < refs.length), x < j → isName refs[x] = true)) (fun i _ => refs.length - (intOf i).toNat)
  case atStart => exact ⟨0, Nat.zero_le _, rfl, hbW, hsz, hc2, hc3, fun j hj h0 => absurd h0 (by omega)⟩
  case round =>
   clear hbW hsz hc2 hc3
   obtain ⟨j, hj, rfl, hbr, hsz, hc2, hc3, hnr⟩ := hrel
   by_cases hlt : j < refs.length
   · obtain ⟨ad, rfl, hab, hc⟩ := (hr.below hbr).at_ hlt
     cases hN : isName refs[j]
     · have HV := hide (show validB k nm refs nums bY al = false by simp [validB, all_false_at hlt hN])
       go_wp2_with (go_at_call 48; refine (isName_ref refs[j] _ (hf.at_ hlt)).mono ?_; rintro e w3 ⟨rfl, hb3⟩)
       go_ret
       exact ⟨ret_congr (by rw [HV.out]; rfl), hbr.trans (hb3.mono (by omega))⟩
     · go_wp2_with (go_at_call 48; refine (isName_ref refs[j] _ (hf.at_ hlt)).mono ?_; rintro e w3 ⟨rfl, hb3⟩)
       go_roundw
       case rel => exact ⟨j + 1, by omega, by go_num, hbr.trans (hb3.mono (by omega)), by have := hb3.size; omega, by rw [(bcell hb3).1 _ _ hsz, hc2], by rw [(bcell hb3).1 _ _ hsz, hc3], fun x hx h1 => by
        rcases Nat.lt_or_ge x j with h2 | h2
        · exact hnr x hx h2
        · obtain rfl : x = j := by omega
          exact hN⟩
       case measure => simp [intOf]; omega
   · have hall : refs.all isName = true := all_true_of fun x hx => hnr x hx (by omega)
     have HA := hide hall; clear hall
     go_wp2_with fail
     go_loop [4] (fun i => ∃ j : Nat, j ≤ nums.length ∧ i = .int .i64 j ∧ Hid (∀ x (hx : x < nums.length), x < j → numOk nums[x] = true)) (fun i => nums.length - (intOf i).toNat)
     case atStart => exact ⟨0, Nat.zero_le _, rfl, fun j hj h0 => absurd h0 (by omega)⟩
     case round =>
      obtain ⟨j, hj, rfl, hnr⟩ := hrel
      by_cases hlt : j < nums.length
      · obtain ⟨ad, rfl, hab, hc⟩ := (hn.below hbr).at_ hlt
        by_cases hN : 0 ≤ nums[j] ∧ nums[j] ≤ 1048576
        · obtain ⟨hN1, hN2⟩ := hN
          go_wp2
          go_round
          case rel => exact ⟨j + 1, by omega, by go_num, fun x hx h1 => by
           rcases Nat.lt_or_ge x j with h2 | h2
           · exact hnr x hx h2
           · obtain rfl : x = j := by omega
             simp [numOk, hN1, hN2]⟩
          case measure => simp [intOf]; omega
        · have hN' : numOk nums[j] = false := by simp [numOk]; omega
          have HV := hide (show validB k nm refs nums bY al = false by simp [validB, all_false_at hlt hN'])
          clear hN'
          by_cases hN1 : nums[j] < 0
          · go_wp2
            go_ret
            exact ⟨ret_congr (by rw [HV.out]; rfl), hbr⟩
          · have hN2 : 1048576 < nums[j] := by omega
            go_wp2
            go_ret
            exact ⟨ret_congr (by rw [HV.out]; rfl), hbr⟩
      · have hall2 : nums.all numOk = true := all_true_of fun x hx => hnr x hx (by omega)
        have HV := hide (show validB k nm refs nums bY al = true by unfold validB; rw [H1.out, H2.out, HA.out, hall2]; rfl)
        clear hall2
        go_wp2
        go_ret
        exact ⟨ret_congr (by rw [HV.out]; rfl), hbr⟩
end Go.Proofs.YtcfogipaadhbeaaGreatDoor
