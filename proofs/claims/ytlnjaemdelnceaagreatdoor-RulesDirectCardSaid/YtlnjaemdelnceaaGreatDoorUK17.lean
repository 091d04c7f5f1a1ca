/- A part of the claim: see its last text. -/
import Derived.Test.YtlnjaemdelnceaaGreatDoorUK01
import Derived.Test.YtlnjaemdelnceaaGreatDoorUK13
import Derived.Lib.AppendIntMem
import Derived.IntWalk
import Derived.Deep.RegionHeld3
import Derived.Deep.DeepCutAuto
import Derived.BigQuiet
import Derived.Test.YtlnjaemdelnceaaGreatDoorUK09
import Derived.Laws.EntriesVeiled

set_option maxRecDepth 100000
set_option maxHeartbeats 16000000
namespace Go.Proofs.YtlnjaemdelnceaaGreatDoor
open Go Go.RowKit Go.Proofs
def Pow (w : World) : Prop := Lib.TabIs Tryz.prog w "internal/strconv.uint64pow10" .u64 Lib.pow10Tab
theorem Pow.below {w w' : World} {B : Nat} (h : Pow w) (hB : w.heap.size ≤ B) (hb : Below B w w') : Pow w' :=
 have hg : Tryz.prog.globalNamed "internal/strconv.uint64pow10" = some 3 := by kernel_rfl
 tabIs_below hg h (Nat.lt_of_lt_of_le (tabIs_lt hg h) hB) hb
def itoaS (n : Int) : ByteArray := S (Lib.itoa n)
theorem itoa_any (n : Int) (w : World) (hp : Pow w) (hn : numOk n = true) :
    Calls Tryz.prog 215 #[.int .i64 n] w fun e w' => e = .returned (.string (itoaS n)) ∧ Below w.heap.size w w' := by
 simp only [numOk, Bool.and_eq_true, decide_eq_true_eq] at hn
 exact (Tryz.strconv_Itoa n (by omega) (by omega) w hp).mono fun e w' ⟨he, k, os, hw⟩ => ⟨he, hw ▸ Lib.below_grow _ w (Nat.le_refl _) k os⟩
theorem number_any (k : Int) (nm : ByteArray) (ra : Option Addr) (rn rc : Nat) (na : Option Addr) (nums : List Int) (nc : Nat) (bY : Int) (al : Bool) (i : Int) (w : World) (hp : Pow w)
    (hi : 0 ≤ i) (hl : i.toNat < nums.length) (hall : nums.all numOk = true) (hn : Ints w w.heap.size na nums) :
    Calls Tryz.prog 154 #[.agg #[.int .i64 k, .string nm, .slice ra rn rc, .slice na nums.length nc, .int .i64 bY, .bool al], .int .i64 i] w
     fun e w' => e = .returned (.string (itoaS (nums.getD i.toNat 0))) ∧ Below w.heap.size w w' := by
 obtain ⟨j, rfl⟩ : ∃ j : Nat, i = j := ⟨i.toNat, by omega⟩
 simp only [Int.toNat_natCast] at hl ⊢
 have hlt : j < nums.length := hl
 have hok : numOk nums[j] = true := List.all_eq_true.1 hall _ (List.getElem_mem _)
 have he : nums.getD j 0 = nums[j] := by simp [hlt]
 rw [he]
 clear he hall
 have hrow := hn.alloc (Nat.le_refl _) (.cells #[.int .i64 k, .string nm, .slice ra rn rc, .slice na nums.length nc, .int .i64 bY, .bool al] 102)
 have hpw : Pow (w.alloc (.cells #[.int .i64 k, .string nm, .slice ra rn rc, .slice na nums.length nc, .int .i64 bY, .bool al] 102)) := hp.below (Nat.le_refl _) ((Below.refl _ _).alloc (Nat.le_refl _) _)
 obtain ⟨ad, rfl, hab, hc⟩ := Ints.at_ hrow hlt
 clear hrow
 go_enter Tryz.func154, Tryz.ntmps154
 go_wp2_with (go_at_call 215; refine (itoa_any nums[j] _ hpw hok).mono ?_; rintro e w1 ⟨rfl, hb⟩)
 go_ret
 exact ⟨rfl, ((Below.refl _ _).alloc (Nat.le_refl _) _).trans (hb.mono (by simp))⟩
def joinS (l : List ByteArray) (sep : ByteArray) : ByteArray := S (Lib.join (l.map (·.data.toList)) sep.data.toList)
theorem join_any (A : Option Addr) (c : Nat) (l : List ByteArray) (sep : ByteArray) (w : World) (h : Strs w w.heap.size A l) (hlc : l.length ≤ c) (hl : l.length ≤ 140737488355328) (hlen : (Lib.join (l.map (·.data.toList)) sep.data.toList).length ≤ 140737488355328) :
    Calls Tryz.prog 107 #[.slice A l.length c, .string sep] w fun e w' => e = .returned (.string (joinS l sep)) ∧ Below w.heap.size w w' := by
 by_cases hn : l = []
 · subst hn
   exact (Tryz.strings_Join_none A c sep w).mono fun e w' ⟨he, hw⟩ => ⟨he, hw ▸ Below.refl _ _⟩
 · obtain ⟨b, off, rfl, hb, hc⟩ := h.form hn
   exact Tryz.strings_Join b off c l sep w (fun j x hx => by
    have hj : j < l.length := (List.getElem?_eq_some_iff.1 hx).1
    have e : l[j] = x := (List.getElem?_eq_some_iff.1 hx).2
    rw [hc j hj]; simp [hj, e]) hb hl hlc hlen
theorem list_any (A : Option Addr) (c : Nat) (l : List ByteArray) (w : World) (h : Strs w w.heap.size A l) (hlc : l.length ≤ c) (hl : l.length ≤ 140737488355328) (hlen : (Lib.join (l.map (·.data.toList)) [44, 32]).length ≤ 140737488355328) :
    Calls Tryz.prog 158 #[.slice A l.length c] w fun e w' => e = .returned (.string (joinS l (⟨#[44, 32]⟩ : ByteArray))) ∧ Below w.heap.size w w' := by
 go_enter Tryz.func158, Tryz.ntmps158
 go_wp2_with (go_at_call 107; refine (join_any A c l (⟨#[44, 32]⟩ : ByteArray) w h hlc hl hlen).mono ?_; rintro e w1 ⟨rfl, hb⟩)
 go_ret
 exact ⟨rfl, hb⟩
theorem numAt {nums : List Int} (hall : nums.all numOk = true) {j : Nat} (h : j < nums.length) : numOk (nums.getD j 0) = true := by
 have he : nums.getD j 0 = nums[j] := by simp [h]
 rw [he]; exact List.all_eq_true.1 hall _ (List.getElem_mem _)
def loadW (nums : List Int) (j : Nat) : List ByteArray := [(⟨#[108, 111, 97, 100]⟩ : ByteArray), itoaS (nums.getD j 0), (⟨#[115, 105, 122, 101]⟩ : ByteArray), itoaS (nums.getD (j + 1) 0), (⟨#[115, 104, 97, 114, 101]⟩ : ByteArray), itoaS (nums.getD (j + 2) 0)]
theorem load_any (k : Int) (nm : ByteArray) (ra : Option Addr) (rn rc : Nat) (na : Option Addr) (nums : List Int) (nc : Nat) (bY : Int) (al : Bool) (i : Nat) (w : World) (hp : Pow w)
    (hi : i + 2 < nums.length) (hl2 : nums.length ≤ 9223372036854775807) (hall : nums.all numOk = true) (hn : Ints w w.heap.size na nums) :
    Calls Tryz.prog 159 #[.agg #[.int .i64 k, .string nm, .slice ra rn rc, .slice na nums.length nc, .int .i64 bY, .bool al], .int .i64 i] w
     fun e w' => ∃ v, e = .returned v ∧ OwnS w.heap.size w' v (loadW nums i) ∧ Below w.heap.size w w' := by
 have e1 : IntKind.i64.wrap ((i : Int) + 1) = (i : Int) + 1 := IntWalk.i64_in _ (by omega)
 have e2 : IntKind.i64.wrap ((i : Int) + 2) = (i : Int) + 2 := IntWalk.i64_in _ (by omega)
 go_enter Tryz.func159, Tryz.ntmps159
 go_wp2_with fail
 go_region_held3 (fun W => W.cell? ⟨w.heap.size, 0, none⟩ = some (.int .i64 k) ∧ W.cell? ⟨w.heap.size, 1, none⟩ = some (.string nm) ∧ W.cell? ⟨w.heap.size, 2, none⟩ = some (.slice ra rn rc) ∧ W.cell? ⟨w.heap.size, 3, none⟩ = some (.slice na nums.length nc) ∧ W.cell? ⟨w.heap.size, 4, none⟩ = some (.int .i64 bY) ∧ W.cell? ⟨w.heap.size, 5, none⟩ = some (.bool al) ∧ w.heap.size < W.heap.size ∧ Below w.heap.size w W)
  (refine ⟨?_, ?_, ?_, ?_, ?_, ?_, ?_, ?_⟩ <;> (first | assumption | exact cell?_new _ _ _ _ | exact (World.cell?_alloc_lt _ _ _ cz).trans (by assumption) | (simp; done) | (simp; omega) | exact ((Below.refl _ _).alloc (Nat.le_refl _) _).drew | exact hS1.alloc hS1.size _))
  ((go_at_call 154; have hH := (by assumption : _ ∧ _ ∧ _ ∧ _ ∧ _ ∧ _ ∧ w.heap.size < _ ∧ Below w.heap.size w _); refine (number_any k nm ra rn rc na nums nc bY al _ _ (Pow.below hp (Nat.le_refl _) hH.2.2.2.2.2.2.2) (by omega) (by omega) hall ((hn.below hH.2.2.2.2.2.2.2).more hH.2.2.2.2.2.2.2.size)).mono ?_; rintro e w1 ⟨rfl, hb⟩; obtain ⟨a0, a1, a2, a3, a4, a5, az, hS⟩ := hH; have c0 := (hb.cell (p := ⟨w.heap.size, 0, none⟩) az).trans a0; have c1 := (hb.cell (p := ⟨w.heap.size, 1, none⟩) az).trans a1; have c2 := (hb.cell (p := ⟨w.heap.size, 2, none⟩) az).trans a2; have c3 := (hb.cell (p := ⟨w.heap.size, 3, none⟩) az).trans a3; have c4 := (hb.cell (p := ⟨w.heap.size, 4, none⟩) az).trans a4; have c5 := (hb.cell (p := ⟨w.heap.size, 5, none⟩) az).trans a5; have cz := Nat.lt_of_lt_of_le az hb.size; have hS1 := hS.trans (hb.mono hS.size); clear a0 a1 a2 a3 a4 a5 az hS hb))
 clear e1 e2
 go_wp2_with fail
 go_ret
 exact ⟨_, rfl, OwnS.new w1 (loadW nums i) hS1.size (by unfold maxLen; simp [loadW]), hS1.alloc hS1.size _⟩
def byF (k : Int) : Nat := if k = 9 then 163 else if k = 12 then 167 else 150
def textF (k : Int) : Nat :=
 if k = 0 ∨ k = 1 then 151 else if k = 2 then 155 else if k = 3 then 156
 else if k = 5 then 157 else if k = 6 then 160 else if k = 7 then 161
 else if k = 8 then 162 else if k = 9 then 164 else if k = 11 then 166
 else if k = 12 then 169 else if k = 13 then 170 else if k = 14 then 171 else 152
def capF (B : Nat) (k : Int) : Array Value := if k = 11 then #[.pointer (some ⟨B, 0, none⟩)] else #[]
def formVal (B : Nat) (k : Int) : Value :=
 match form? k with
 | some f => .agg #[.string f.word, .bool f.name, .int .i64 f.least, .int .i64 f.most, .int .i64 f.numbers, .func (.func (byF k)) #[] #[], .bool f.always, .func (.func (textF k)) #[] (capF B k)]
 | none => .agg #[.string ⟨#[]⟩, .bool false, .int .i64 0, .int .i64 0, .int .i64 0, .nilFunc, .bool false, .nilFunc]
def entF (B : Nat) (k : Nat) : Value := formVal B (k : Int)
def FormsAt (w : World) (r B : Nat) : Prop := w.heap[r]? = some (.map (ents (entF B) 17) 17) ∧ w.cell? ⟨B, 0, none⟩ = some (.func (.func 152) #[] #[])
theorem forms_any (w : World) : Calls Tryz.prog 106 #[] w fun e w' => e = .returned (.map (some (w.heap.size + 1))) ∧ FormsAt w' (w.heap.size + 1) w.heap.size ∧ Below w.heap.size w w' := by
 have hmm := @run_makeMap Tryz.prog
 go_enter Tryz.func106, Tryz.ntmps106
 go_wp2_with (refine wpList_insert_next rfl rfl _ _ _ _ rfl Tryz.underlying137 Tryz.underlying3 (entF w.heap.size) rfl (by simp) rfl rfl rfl rfl ?_)
 go_ret
 refine ⟨rfl, ⟨?_, ?_⟩, ((Below.refl _ _).alloc (Nat.le_refl _) _).alloc (by simp) _⟩
 · simpa using heap_alloc_new (w.alloc (.cells #[.func (.func 152) #[] #[]] 134)) _
 · rw [World.cell?_alloc_lt _ _ _ (by simp)]
   exact cell?_new _ _ _ 0
theorem form_none {k : Int} (h : ¬ (0 ≤ k ∧ k < 17)) : form? k = none := by
 unfold form?
 repeat rw [if_neg (by omega)]
theorem zero_form (w : World) : (zeroValue 136).run Tryz.prog w = .ok (formVal 0 (-1)) w := by kernel_rfl
theorem forms_lookup {w : World} {r B : Nat} (h : FormsAt w r B) (k : Int) :
    (Instr.lookup 137 (.map (some r)) (.int .i64 k) true).run Tryz.prog w = .ok (.tuple #[formVal B k, .bool (form? k).isSome]) w := by
 refine run_lookup_int Tryz.underlying137 Tryz.underlying3 (zero_form w) h.1 (find_ents _ _ k) ?_
 by_cases hk : 0 ≤ k ∧ k < ((17 : Nat) : Int)
 · rw [if_pos hk]; unfold pickO
   have hk2 : ((k.toNat : Nat) : Int) = k := by omega
   have : (form? k).isSome = true := by
    have : k = 0 ∨ k = 1 ∨ k = 2 ∨ k = 3 ∨ k = 4 ∨ k = 5 ∨ k = 6 ∨ k = 7 ∨ k = 8 ∨ k = 9 ∨ k = 10 ∨ k = 11 ∨ k = 12 ∨ k = 13 ∨ k = 14 ∨ k = 15 ∨ k = 16 := by omega
    rcases this with rfl | rfl | rfl | rfl | rfl | rfl | rfl | rfl | rfl | rfl | rfl | rfl | rfl | rfl | rfl | rfl | rfl <;> rfl
   simp only [entF, hk2, this]
 · rw [if_neg hk]; unfold pickO
   have hf : form? k = none := form_none (by omega)
   have h0 : form? (-1) = none := form_none (by omega)
   simp only [formVal, hf, h0, Option.isSome_none]
end Go.Proofs.YtlnjaemdelnceaaGreatDoor
namespace Go.Proofs.YtlnjaemdelnceaaGreatDoor
open Go Go.RowKit Go.Proofs
def domW (n : Int) : ByteArray := if n = 2 then (⟨#[114, 97, 99, 107]⟩ : ByteArray) else if n = 3 then (⟨#[102, 101, 101, 100]⟩ : ByteArray) else if n = 4 then (⟨#[115, 105, 116, 101]⟩ : ByteArray) else ⟨#[]⟩
def domEnts : Array MapEntry := #[{ key := .int .i64 2, val := .string (⟨#[114, 97, 99, 107]⟩ : ByteArray), born := 0 }, { key := .int .i64 3, val := .string (⟨#[102, 101, 101, 100]⟩ : ByteArray), born := 1 }, { key := .int .i64 4, val := .string (⟨#[115, 105, 116, 101]⟩ : ByteArray), born := 2 }]
theorem domEnts_find (n : Int) : ∃ o, Instr.findNow (.int .i64) (.int .i64 n) domEnts.toList 0 = some o ∧ ∃ b, pickO o (.string ⟨#[]⟩) = (.string (domW n), b) := by
 by_cases h2 : n = 2
 · subst h2; exact ⟨_, rfl, _, rfl⟩
 by_cases h3 : n = 3
 · subst h3; exact ⟨_, rfl, _, rfl⟩
 by_cases h4 : n = 4
 · subst h4; exact ⟨_, rfl, _, rfl⟩
 refine ⟨none, findNow_none _ _ fun e he => ?_, false, by simp [pickO, domW, h2, h3, h4]⟩
 simp [domEnts] at he
 rcases he with rfl | rfl | rfl
 · exact ⟨2, rfl, h2⟩
 · exact ⟨3, rfl, h3⟩
 · exact ⟨4, rfl, h4⟩
theorem domain_any (n : Int) (w : World) : Calls Tryz.prog 168 #[.int .i64 n] w fun e w' => e = .returned (.string (domW n)) ∧ Below w.heap.size w w' := by
 have hmm := @run_makeMap Tryz.prog
 have hz : ∀ w : World, (zeroValue 9).run Tryz.prog w = .ok (.string ⟨#[]⟩) w := fun _ => by kernel_rfl
 obtain ⟨o, ho, b, hb⟩ := domEnts_find n
 have hlk := run_lookup_int1 (P := Tryz.prog) (w := w.alloc (.map domEnts 3)) (r := w.heap.size) (c := 3) (k := n) Tryz.underlying204 Tryz.underlying3 (hz _) (heap_alloc_new w _) ho hb
 clear hz ho hb
 have HL := hide hlk; clear hlk
 go_enter Tryz.func168, Tryz.ntmps168
 go_wp2_with (first
  | (refine wpList_insert_new (es := #[]) (c := 0) (vv := .string (⟨#[114, 97, 99, 107]⟩ : ByteArray)) rfl rfl _ _ _ _ rfl Tryz.underlying204 Tryz.underlying3 rfl rfl rfl rfl rfl rfl ?_)
  | (refine wpList_insert_new (c := 1) (vv := .string (⟨#[102, 101, 101, 100]⟩ : ByteArray)) rfl rfl _ _ _ _ rfl Tryz.underlying204 Tryz.underlying3 rfl rfl rfl rfl rfl rfl ?_)
  | (refine wpList_insert_new (c := 2) (vv := .string (⟨#[115, 105, 116, 101]⟩ : ByteArray)) rfl rfl _ _ _ _ rfl Tryz.underlying204 Tryz.underlying3 rfl rfl rfl rfl rfl rfl ?_
     have HK : (Instr.lookup 204 (.map (some w.heap.size)) (.int .i64 n) false).run Tryz.prog (w.alloc (.map domEnts 3)) = .ok (.string (domW n)) (w.alloc (.map domEnts 3)) := HL.out
     show wpList _ _ _ _ _ (w.alloc (.map domEnts 3))))
 go_ret
 exact ⟨rfl, (Below.refl _ _).alloc (Nat.le_refl _) _⟩
theorem zero_any (n : Int) (w : World) : Calls Tryz.prog 150 #[.int .i64 n] w fun e w' => e = .returned (.bool (zeroI n)) ∧ Below w.heap.size w w' := by
 go_enter Tryz.func150, Tryz.ntmps150
 go_wp2
 go_ret
 exact ⟨ret_congr (by simp [zeroI]; rfl), Below.refl _ _⟩
theorem byFailures_any (n : Int) (w : World) : Calls Tryz.prog 163 #[.int .i64 n] w fun e w' => e = .returned (.bool (decide (1 ≤ n) && decide (n ≤ 7))) ∧ Below w.heap.size w w' := by
 by_cases h : 1 ≤ n <;> by_cases h2 : n ≤ 7
 all_goals
  go_enter Tryz.func163, Tryz.ntmps163
  go_wp2
  go_ret
  exact ⟨ret_congr (by simp [h, h2]), Below.refl _ _⟩
theorem bySpread_any (n : Int) (w : World) : Calls Tryz.prog 167 #[.int .i64 n] w fun e w' => e = .returned (.bool (decide (2 ≤ n) && decide (n ≤ 4))) ∧ Below w.heap.size w w' := by
 have hd : ((domW n).toList.isEmpty = false ∧ (decide (2 ≤ n) && decide (n ≤ 4)) = true) ∨ ((domW n).toList.isEmpty = true ∧ (decide (2 ≤ n) && decide (n ≤ 4)) = false) := by
  by_cases h2 : n = 2
  · subst h2; left; exact ⟨by rw [ByteArray.toList_eq]; rfl, rfl⟩
  by_cases h3 : n = 3
  · subst h3; left; exact ⟨by rw [ByteArray.toList_eq]; rfl, rfl⟩
  by_cases h4 : n = 4
  · subst h4; left; exact ⟨by rw [ByteArray.toList_eq]; rfl, rfl⟩
  right
  constructor
  · simp [domW, h2, h3, h4]
  · simp; omega
 rcases hd with ⟨h1, h2⟩ | ⟨h1, h2⟩
 all_goals
  have H2 := hide h2; clear h2
  go_enter Tryz.func167, Tryz.ntmps167
  go_wp2_with (go_at_call 168; refine (domain_any n _).mono ?_; rintro e w1 ⟨rfl, hb⟩)
  go_ret
  exact ⟨ret_congr (by rw [H2.out]; rfl), hb⟩
theorem by_any {k : Int} {f : Form} (h : form? k = some f) :
    (∀ args w, (callFunc (byF k) args).run Tryz.prog w = .ok (.enter (byF k) args) w) ∧ ∀ n w, Calls Tryz.prog (byF k) #[.int .i64 n] w fun e w' => e = .returned (.bool (f.by_ n)) ∧ Below w.heap.size w w' := by
 have e1 : ∀ args w, (callFunc 150 args).run Tryz.prog w = .ok (.enter 150 args) w := fun _ _ => by kernel_rfl
 have e2 : ∀ args w, (callFunc 163 args).run Tryz.prog w = .ok (.enter 163 args) w := fun _ _ => by kernel_rfl
 have e3 : ∀ args w, (callFunc 167 args).run Tryz.prog w = .ok (.enter 167 args) w := fun _ _ => by kernel_rfl
 have hk : k = 9 ∨ k = 12 ∨ (k ≠ 9 ∧ k ≠ 12) := by omega
 rcases hk with rfl | rfl | ⟨h9, h12⟩
 · obtain rfl : _ = f := Option.some.inj h
   exact ⟨e2, byFailures_any⟩
 · obtain rfl : _ = f := Option.some.inj h
   exact ⟨e3, bySpread_any⟩
 · have hb : byF k = 150 := by simp [byF, h9, h12]
   have hf : f.by_ = zeroI := by
    have hr : 0 ≤ k ∧ k < 17 := Classical.byContradiction fun hn => by rw [form_none hn] at h; cases h
    have : k = 0 ∨ k = 1 ∨ k = 2 ∨ k = 3 ∨ k = 4 ∨ k = 5 ∨ k = 6 ∨ k = 7 ∨ k = 8 ∨ k = 10 ∨ k = 11 ∨ k = 13 ∨ k = 14 ∨ k = 15 ∨ k = 16 := by omega
    rcases this with rfl | rfl | rfl | rfl | rfl | rfl | rfl | rfl | rfl | rfl | rfl | rfl | rfl | rfl | rfl
    all_goals
     obtain rfl : _ = f := Option.some.inj h
     rfl
   rw [hb, hf]
   exact ⟨e1, zero_any⟩
end Go.Proofs.YtlnjaemdelnceaaGreatDoor
