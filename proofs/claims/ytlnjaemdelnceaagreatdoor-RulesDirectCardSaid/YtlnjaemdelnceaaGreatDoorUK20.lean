/- A part of the claim: see its last text. -/
import Derived.Test.YtlnjaemdelnceaaGreatDoorProg
import Derived.Test.YtlnjaemdelnceaaGreatDoorUK01
import Derived.Deep.RegionHeld3
import Derived.BigQuiet
import Derived.Test.YtlnjaemdelnceaaGreatDoorUK17
import Derived.Test.YtlnjaemdelnceaaGreatDoorUK19
import Derived.Deep.DeepCutAuto

set_option maxRecDepth 100000
set_option maxHeartbeats 16000000
namespace Go.Proofs.YtlnjaemdelnceaaGreatDoor
open Go Go.RowKit
end Go.Proofs.YtlnjaemdelnceaaGreatDoor
namespace Go.Proofs.YtlnjaemdelnceaaGreatDoor
open Go Go.RowKit
def formB (nm : ByteArray) (rn nn : Nat) (bY : Int) (al : Bool) (name : Bool) (least most numbers : Int) (by_ always : Bool) : Bool :=
 (name == !nm.toList.isEmpty) && decide (least ≤ (rn : Int)) && decide ((rn : Int) ≤ most) && ((nn : Int) == numbers) && (by_ || decide (bY = 0)) && (always || !al)
def shapeB (k : Int) (nm : ByteArray) (rn nn : Nat) (bY : Int) (al : Bool) : Bool :=
 if k = 0 ∨ k = 1 then formB nm rn nn bY al true 0 0 0 false false
 else if k = 2 then formB nm rn nn bY al true 2 2 0 false false
 else if k = 3 then formB nm rn nn bY al true 1 1 1 false false
 else if k = 4 then formB nm rn nn bY al false 2 2 1 false false
 else if k = 5 then formB nm rn nn bY al true 1 16 3 false false
 else if k = 6 then formB nm rn nn bY al true 1 16 4 false false
 else if k = 7 then formB nm rn nn bY al true 1 1 3 false false
 else if k = 8 then formB nm rn nn bY al false 1 1 2 false false
 else if k = 9 then formB nm rn nn bY al false 0 0 0 true false && decide (1 ≤ bY) && decide (bY ≤ 7)
 else if k = 10 then formB nm rn nn bY al false 1 1 0 false false
 else if k = 11 then formB nm rn nn bY al false 1 1 1 false true
 else if k = 12 then formB nm rn nn bY al false 1 1 1 true false && decide (2 ≤ bY) && decide (bY ≤ 4)
 else if k = 13 then formB nm rn nn bY al false 2 17 0 false false
 else if k = 14 then formB nm rn nn bY al false 2 2 0 false false
 else if k = 15 then formB nm rn nn bY al false 0 0 1 false false
 else if k = 16 then formB nm rn nn bY al false 1 1 1 false false
 else false
end Go.Proofs.YtlnjaemdelnceaaGreatDoor
namespace Go.Proofs.YtlnjaemdelnceaaGreatDoor
open Go Go.RowKit
def Fit (l : List ByteArray) : Prop := ∀ s ∈ l, s.size ≤ 9223372036854775807
theorem Fit.at_ {l : List ByteArray} (h : Fit l) {k : Nat} (hk : k < l.length) : l[k].size ≤ 9223372036854775807 := h _ (List.getElem_mem _)
def validB (k : Int) (nm : ByteArray) (refs : List ByteArray) (nums : List Int) (bY : Int) (al : Bool) : Bool :=
 shapeB k nm refs.length nums.length bY al && (nm.toList.isEmpty || isName nm) && refs.all isName && nums.all numOk
end Go.Proofs.YtlnjaemdelnceaaGreatDoor

namespace Go.Proofs.YtlnjaemdelnceaaGreatDoor
open Go Go.RowKit Go.Proofs
theorem isEmpty_iff (s : ByteArray) : s.toList.isEmpty = true ↔ s.size = 0 := by
 rw [ByteArray.toList_eq, List.isEmpty_iff_length_eq_zero, Array.length_toList]; rfl
theorem validB_none {k : Int} (h : form? k = none) (nm : ByteArray) (refs : List ByteArray) (nums : List Int) (bY : Int) (al : Bool) : validB k nm refs nums bY al = false := by
 have hk : ¬ (0 ≤ k ∧ k < 17) := by
  intro hk
  have : k = 0 ∨ k = 1 ∨ k = 2 ∨ k = 3 ∨ k = 4 ∨ k = 5 ∨ k = 6 ∨ k = 7 ∨ k = 8 ∨ k = 9 ∨ k = 10 ∨ k = 11 ∨ k = 12 ∨ k = 13 ∨ k = 14 ∨ k = 15 ∨ k = 16 := by omega
  rcases this with rfl | rfl | rfl | rfl | rfl | rfl | rfl | rfl | rfl | rfl | rfl | rfl | rfl | rfl | rfl | rfl | rfl <;> cases h
 have : shapeB k nm refs.length nums.length bY al = false := by
  unfold shapeB
  rw [if_neg (by omega)]
  repeat rw [if_neg (by omega)]
 simp [validB, this]
theorem nameOk_eq (b : Bool) (nm : ByteArray) : ((b == !nm.toList.isEmpty) && (nm.toList.isEmpty || isName nm)) = if b then isName nm else nm.toList.isEmpty := by
 cases b
 · cases nm.toList.isEmpty <;> simp
 · cases h : nm.toList.isEmpty
   · simp
   · have := (isEmpty_iff nm).1 h
     simp [isName_short (s := nm) (by omega)]
theorem shapeB_form {k : Int} {f : Form} (h : form? k = some f) (nm : ByteArray) (rn nn : Nat) (bY : Int) (al : Bool) :
    shapeB k nm rn nn bY al = ((f.name == !nm.toList.isEmpty) && decide ((f.least : Int) ≤ (rn : Int)) && decide ((rn : Int) ≤ (f.most : Int)) && decide ((nn : Int) = (f.numbers : Int)) && f.by_ bY && (f.always || !al)) := by
 have hr : 0 ≤ k ∧ k < 17 := Classical.byContradiction fun hn => by rw [form_none hn] at h; cases h
 have : k = 0 ∨ k = 1 ∨ k = 2 ∨ k = 3 ∨ k = 4 ∨ k = 5 ∨ k = 6 ∨ k = 7 ∨ k = 8 ∨ k = 9 ∨ k = 10 ∨ k = 11 ∨ k = 12 ∨ k = 13 ∨ k = 14 ∨ k = 15 ∨ k = 16 := by omega
 rcases this with rfl | rfl | rfl | rfl | rfl | rfl | rfl | rfl | rfl | rfl | rfl | rfl | rfl | rfl | rfl | rfl | rfl
 all_goals
  obtain rfl : _ = f := Option.some.inj h
  rw [Bool.eq_iff_iff]
  simp [shapeB, formB, zeroI]
  try grind
theorem validB_form {k : Int} {f : Form} (h : form? k = some f) (nm : ByteArray) (refs : List ByteArray) (nums : List Int) (bY : Int) (al : Bool) :
    validB k nm refs nums bY al = (decide ((f.least : Int) ≤ (refs.length : Int)) && decide ((refs.length : Int) ≤ (f.most : Int)) && decide ((nums.length : Int) = (f.numbers : Int)) && f.by_ bY && (f.always || !al) && (if f.name then isName nm else nm.toList.isEmpty) && refs.all isName && nums.all numOk) := by
 have := nameOk_eq f.name nm
 rw [validB, shapeB_form h, ← this]
 generalize (f.name == !nm.toList.isEmpty) = a
 generalize (nm.toList.isEmpty || isName nm) = b
 generalize (f.always || !al) = c
 cases a <;> cases b <;> cases c <;> simp
theorem text_failures (k : Int) (nm : ByteArray) (ra : Option Addr) (rn rc : Nat) (na : Option Addr) (nn nc : Nat) (bY : Int) (al : Bool) (w : World) (h1 : 1 ≤ bY) (h7 : bY ≤ 7) :
    Calls Tryz.prog 164 #[.agg #[.int .i64 k, .string nm, .slice ra rn rc, .slice na nn nc, .int .i64 bY, .bool al]] w
     fun e w' => ∃ v, e = .returned v ∧ OwnS w.heap.size w' v [joinS (clsW bY.toNat) (⟨#[44, 32]⟩ : ByteArray)] ∧ Below w.heap.size w w' := by
 have hc : ∀ W, Calls Tryz.prog 165 #[.int .i64 bY] W fun e w' => e = .returned (.string (joinS (clsW bY.toNat) (⟨#[44, 32]⟩ : ByteArray))) ∧ Below W.heap.size W w' := by
  have hn : bY = 1 ∨ bY = 2 ∨ bY = 3 ∨ bY = 4 ∨ bY = 5 ∨ bY = 6 ∨ bY = 7 := by omega
  intro W
  rcases hn with rfl | rfl | rfl | rfl | rfl | rfl | rfl
  · exact classes_prog1 W
  · exact classes_prog2 W
  · exact classes_prog3 W
  · exact classes_prog4 W
  · exact classes_prog5 W
  · exact classes_prog6 W
  · exact classes_prog7 W
 have HC := hide hc
 clear hc
 go_enter Tryz.func164, Tryz.ntmps164
 go_wp2_with (go_at_call 165; refine (HC.out _).mono ?_; rintro e w1 ⟨rfl, hb⟩)
 go_ret
 have hb1 : Below w.heap.size w w1 := ((Below.refl _ _).alloc (Nat.le_refl _) _).trans (hb.mono (by simp))
 exact ⟨_, rfl, OwnS.new w1 [joinS (clsW bY.toNat) (⟨#[44, 32]⟩ : ByteArray)] hb1.size (by unfold maxLen; simp), hb1.alloc hb1.size _⟩
def wordsD (k : Int) (nm : ByteArray) (refs : List ByteArray) (nums : List Int) (bY : Int) (al : Bool) : List ByteArray :=
 if k = 0 ∨ k = 1 then [nm]
 else if k = 2 then [nm, (⟨#[105, 110]⟩ : ByteArray), refs.getD 0 ByteArray.empty, (⟨#[111, 110]⟩ : ByteArray), refs.getD 1 ByteArray.empty]
 else if k = 3 then [nm, (⟨#[105, 110]⟩ : ByteArray), refs.getD 0 ByteArray.empty, (⟨#[99, 97, 112, 97, 99, 105, 116, 121]⟩ : ByteArray), itoaS (nums.getD 0 0)]
 else if k = 5 then [nm, (⟨#[111, 110]⟩ : ByteArray), joinS refs (⟨#[44, 32]⟩ : ByteArray)] ++ loadW nums 0
 else if k = 6 then [nm, itoaS (nums.getD 0 0), (⟨#[111, 110]⟩ : ByteArray), joinS refs (⟨#[44, 32]⟩ : ByteArray)] ++ loadW nums 1
 else if k = 7 then [nm, (⟨#[111, 110]⟩ : ByteArray), refs.getD 0 ByteArray.empty] ++ loadW nums 0
 else if k = 8 then [refs.getD 0 ByteArray.empty, (⟨#[115, 108, 111, 116, 115]⟩ : ByteArray), itoaS (nums.getD 0 0), (⟨#[114, 101, 115, 101, 114, 118, 101]⟩ : ByteArray), itoaS (nums.getD 1 0)]
 else if k = 9 then [joinS (clsW bY.toNat) (⟨#[44, 32]⟩ : ByteArray)]
 else if k = 11 then keepW refs nums al
 else if k = 12 then [refs.getD 0 ByteArray.empty, (⟨#[98, 121]⟩ : ByteArray), domW bY, itoaS (nums.getD 0 0)]
 else if k = 13 then [refs.getD 0 ByteArray.empty, (⟨#[111, 110]⟩ : ByteArray), joinS refs.tail (⟨#[44, 32]⟩ : ByteArray)]
 else if k = 14 then [refs.getD 0 ByteArray.empty, (⟨#[98, 101, 102, 111, 114, 101]⟩ : ByteArray), refs.getD 1 ByteArray.empty]
 else refs ++ nums.map itoaS
theorem join_len (sep : List UInt8) : ∀ (l : List (List UInt8)) (n : Nat), (∀ x ∈ l, x.length ≤ n) → (Lib.join l sep).length ≤ l.length * (n + sep.length)
 | [], _, _ => by simp [Lib.join]
 | [x], n, h => by have := h x (by simp); simp [Lib.join]; omega
 | x :: y :: l, n, h => by
   have h1 := h x (by simp)
   have h2 := join_len sep (y :: l) n (fun z hz => h z (by simp [hz]))
   have e : Lib.join (x :: y :: l) sep = x ++ sep ++ Lib.join (y :: l) sep := by simp [Lib.join]
   rw [e, List.length_append, List.length_append]
   have e2 : (x :: y :: l).length * (n + sep.length) = (y :: l).length * (n + sep.length) + (n + sep.length) := by simp [Nat.add_mul]
   omega
theorem isName_size {s : ByteArray} (h : isName s = true) : s.size ≤ 31 := by
 simp [isName] at h; omega
theorem names_join {refs : List ByteArray} (h : refs.all isName = true) (hl : refs.length ≤ 17) (sep : List UInt8) (hs : sep.length ≤ 2) : (Lib.join (refs.map (·.data.toList)) sep).length ≤ 140737488355328 := by
 have := join_len sep (refs.map (·.data.toList)) 31 (by
  intro x hx
  obtain ⟨s, hs, rfl⟩ := List.mem_map.1 hx
  have := isName_size (List.all_eq_true.1 h s hs)
  simpa using this)
 have h2 : (refs.map (·.data.toList)).length * (31 + sep.length) ≤ 17 * 33 := Nat.mul_le_mul (by simpa using hl) (by omega)
 omega
theorem names_tail {refs : List ByteArray} (h : refs.all isName = true) : refs.tail.all isName = true := by
 cases refs with
 | nil => rfl
 | cons a l => simp at h ⊢; exact h.2
theorem text_any {k : Int} {f : Form} (hfm : form? k = some f) (nm : ByteArray) (ra : Option Addr) (refs : List ByteArray) (rc : Nat) (na : Option Addr) (nums : List Int) (nc : Nat) (bY : Int) (al : Bool)
    (hv : validB k nm refs nums bY al = true) (hrc : refs.length ≤ rc) :
    (∀ args w, (callFunc (textF k) args).run Tryz.prog w = .ok (.enter (textF k) args) w) ∧
    ∀ (B : Nat) (w : World), Pow w → B < w.heap.size → w.cell? ⟨B, 0, none⟩ = some (.func (.func 152) #[] #[]) → Strs w w.heap.size ra refs → Ints w w.heap.size na nums →
     Calls Tryz.prog (textF k) (#[.agg #[.int .i64 k, .string nm, .slice ra refs.length rc, .slice na nums.length nc, .int .i64 bY, .bool al]] ++ capF B k) w
      fun e w' => ∃ v, e = .returned v ∧ OwnS w.heap.size w' v (wordsD k nm refs nums bY al) ∧ Below w.heap.size w w' := by
 have hr : 0 ≤ k ∧ k < 17 := Classical.byContradiction fun hn => by rw [form_none hn] at hfm; cases hfm
 have hk : k = 0 ∨ k = 1 ∨ k = 2 ∨ k = 3 ∨ k = 4 ∨ k = 5 ∨ k = 6 ∨ k = 7 ∨ k = 8 ∨ k = 9 ∨ k = 10 ∨ k = 11 ∨ k = 12 ∨ k = 13 ∨ k = 14 ∨ k = 15 ∨ k = 16 := by omega
 rw [validB_form hfm] at hv
 simp only [Bool.and_eq_true, decide_eq_true_eq] at hv
 obtain ⟨⟨⟨⟨⟨⟨⟨v1, v2⟩, v3⟩, v4⟩, v5⟩, v6⟩, v7⟩, v8⟩ := hv
 clear v6 v5
 rcases hk with rfl | rfl | rfl | rfl | rfl | rfl | rfl | rfl | rfl | rfl | rfl | rfl | rfl | rfl | rfl | rfl | rfl
 all_goals
  obtain rfl : _ = f := Option.some.inj hfm
  clear hfm
  simp only [] at v1 v2 v3
  have hj := names_join v7 (by omega) [44, 32] (by decide)
  have hj2 := names_join (names_tail v7) (by simp; omega) [44, 32] (by decide)
  refine ⟨fun _ _ => by kernel_rfl, fun B w hp hB hc hrs hn => ?_⟩
 · exact text_named 0 nm ra refs.length rc na nums.length nc bY al w
 · exact text_named 1 nm ra refs.length rc na nums.length nc bY al w
 · exact text_rack 2 nm ra refs rc na nums nc bY al w hp hrs hrc (by omega) (by omega) v8 hn (by omega)
 · exact text_machine 3 nm ra refs rc na nums nc bY al w hp hrs hrc (by omega) (by omega) v8 hn (by omega) (by omega)
 · exact text_plain 4 nm ra refs rc na nums nc bY al w hp hrs (by omega) (by omega) v8 hn
 · exact text_group 5 nm ra refs rc na nums nc bY al w hp hrs hrc (by omega) (by omega) v8 hn hj (by omega)
 · exact text_pool 6 nm ra refs rc na nums nc bY al w hp hrs hrc (by omega) (by omega) v8 hn hj (by omega)
 · exact text_job 7 nm ra refs rc na nums nc bY al w hp hrs hrc (by omega) (by omega) v8 hn (by omega) (by omega)
 · exact text_dark 8 nm ra refs rc na nums nc bY al w hp hrs hrc (by omega) (by omega) v8 hn (by omega) (by omega)
 · simp only [Bool.and_eq_true, decide_eq_true_eq] at v4
   exact text_failures 9 nm ra refs.length rc na nums.length nc bY al w v4.1 v4.2
 · exact text_plain 10 nm ra refs rc na nums nc bY al w hp hrs (by omega) (by omega) v8 hn
 · exact text_keep 11 nm ra refs rc na nums nc bY al w B hp hB hc hrs (by omega) (by omega) v8 hn
 · exact text_spread 12 nm ra refs rc na nums nc bY al w hp hrs hrc (by omega) (by omega) v8 hn (by omega) (by omega)
 · exact text_only 13 nm ra refs rc na nums nc bY al w hp hrs hrc (by omega) (by omega) v8 hn hj2 (by omega)
 · exact text_order 14 nm ra refs rc na nums nc bY al w hp hrs hrc (by omega) (by omega) v8 hn (by omega)
 · exact text_plain 15 nm ra refs rc na nums nc bY al w hp hrs (by omega) (by omega) v8 hn
 · exact text_plain 16 nm ra refs rc na nums nc bY al w hp hrs (by omega) (by omega) v8 hn
theorem formVal_some {B : Nat} {k : Int} {f : Form} (h : form? k = some f) : formVal B k = .agg #[.string f.word, .bool f.name, .int .i64 f.least, .int .i64 f.most, .int .i64 f.numbers, .func (.func (byF k)) #[] #[], .bool f.always, .func (.func (textF k)) #[] (capF B k)] := by
 unfold formVal; rw [h]
theorem formVal_none {B : Nat} {k : Int} (h : form? k = none) : formVal B k = .agg #[.string ⟨#[]⟩, .bool false, .int .i64 0, .int .i64 0, .int .i64 0, .nilFunc, .bool false, .nilFunc] := by
 unfold formVal; rw [h]
theorem FormsAt.alloc {w : World} {r B : Nat} (h : FormsAt w r B) (o : Obj) : FormsAt (w.alloc o) r B := by
 obtain ⟨h1, h2⟩ := h
 refine ⟨?_, ?_⟩
 · have hlt : r < w.heap.size := (Array.getElem?_eq_some_iff.1 h1).1
   rw [← h1]; exact Below.heap_alloc w o r hlt
 · rw [World.cell?_alloc_lt _ _ _ (World.block_lt_of_cell? w _ h2)]; exact h2
theorem lookup_some {w : World} {r B : Nat} (h : FormsAt w r B) {k : Int} {f : Form} (hf : form? k = some f) :
    (Instr.lookup 137 (.map (some r)) (.int .i64 k) true).run Tryz.prog w = .ok (.tuple #[.agg #[.string f.word, .bool f.name, .int .i64 f.least, .int .i64 f.most, .int .i64 f.numbers, .func (.func (byF k)) #[] #[], .bool f.always, .func (.func (textF k)) #[] (capF B k)], .bool true]) w := by
 rw [forms_lookup h k, formVal_some hf, hf]; rfl
theorem lookup_none {w : World} {r B : Nat} (h : FormsAt w r B) {k : Int} (hf : form? k = none) :
    (Instr.lookup 137 (.map (some r)) (.int .i64 k) true).run Tryz.prog w = .ok (.tuple #[.agg #[.string ⟨#[]⟩, .bool false, .int .i64 0, .int .i64 0, .int .i64 0, .nilFunc, .bool false, .nilFunc], .bool false]) w := by
 rw [forms_lookup h k, formVal_none hf, hf]; rfl
theorem notName_any (s : ByteArray) (w : World) (ha : Asc w) (hs : s.size ≤ 9223372036854775807) :
    Calls Tryz.prog 149 #[.string s] w fun e w' => e = .returned (.bool (!isName s)) ∧ Below w.heap.size w w' := by
 go_enter Tryz.func149, Tryz.ntmps149
 go_wp2_with (go_at_call 94; refine (isName_prog s _ ha hs).mono ?_; rintro e w1 ⟨rfl, hb⟩)
 go_ret
 exact ⟨rfl, hb⟩
theorem oddNum_any (a : Int) (w : World) : Calls Tryz.prog 147 #[.int .i64 a] w fun e w' => e = .returned (.bool (!numOk a)) ∧ Below w.heap.size w w' := by
 have HO := hide (show (!numOk a) = (decide (a < 0) || decide (1048576 < a)) by simp [numOk]; grind)
 by_cases h : a < 0
 · go_enter Tryz.func147, Tryz.ntmps147
   go_wp2
   go_ret
   exact ⟨ret_congr (by rw [HO.out]; simp [h]), Below.refl _ _⟩
 · go_enter Tryz.func147, Tryz.ntmps147
   go_wp2
   go_ret
   exact ⟨ret_congr (by rw [HO.out]; simp; omega), Below.refl _ _⟩
theorem notName_pred {refs : List ByteArray} {w : World} (ha : Asc w) (hf : Fit refs) : PredS 149 #[] refs (fun s => !isName s) w :=
 fun _ hk W hb => notName_any _ W (ha.below (Nat.le_refl _) hb) (hf.at_ hk)
theorem oddNum_pred {nums : List Int} {w : World} : PredI 147 #[] nums (fun n => !numOk n) w :=
 fun _ _ W _ => oddNum_any _ W
theorem any_not {α : Type} (l : List α) (p : α → Bool) : l.any (fun x => !p x) = !l.all p := List.not_all_eq_any_not.symm
theorem valid_prog (k : Int) (nm : ByteArray) (ra : Option Addr) (refs : List ByteArray) (rc : Nat) (na : Option Addr) (nums : List Int) (nc : Nat) (bY : Int) (al : Bool) (w : World) (ha : Asc w)
    (hs : nm.size ≤ 9223372036854775807) (hf : Fit refs) (hl1 : refs.length ≤ 9223372036854775807) (hl2 : nums.length ≤ 9223372036854775807) (hr : Strs w w.heap.size ra refs) (hn : Ints w w.heap.size na nums) :
    Calls Tryz.prog 105 #[.agg #[.int .i64 k, .string nm, .slice ra refs.length rc, .slice na nums.length nc, .int .i64 bY, .bool al]] w
     fun e w' => e = .returned (.bool (validB k nm refs nums bY al)) ∧ Below w.heap.size w w' := by
 cases hfm : form? k with
 | none =>
   have HV := hide (validB_none hfm nm refs nums bY al)
   go_enter Tryz.func105, Tryz.ntmps105
   go_wp2_with fail
   go_cut [3, 4] (fun _ ok wx => ok = .bool false ∧ Below w.heap.size w wx)
   case first =>
    go_region_held3 (fun W => W.cell? ⟨w.heap.size, 0, none⟩ = some (.int .i64 k) ∧ W.cell? ⟨w.heap.size, 1, none⟩ = some (.string nm) ∧ W.cell? ⟨w.heap.size, 2, none⟩ = some (.slice ra refs.length rc) ∧ W.cell? ⟨w.heap.size, 3, none⟩ = some (.slice na nums.length nc) ∧ W.cell? ⟨w.heap.size, 4, none⟩ = some (.int .i64 bY) ∧ W.cell? ⟨w.heap.size, 5, none⟩ = some (.bool al)) (first | go_keep | (refine ⟨?_, ?_, ?_, ?_, ?_, ?_⟩ <;> (first | (rw [hc1 _ _ (by simp <;> omega)]; exact cell?_new _ _ _ _) | (rw [hc1 _ _ (by simp <;> omega)]; exact (World.cell?_alloc_lt _ _ _ (by simp <;> omega)).trans (cell?_new _ _ _ _))))) ((go_at_call 106; refine (forms_any _).mono ?_; rintro e w1 ⟨rfl, hF, hb⟩; (try simp at hF); have hlk := lookup_none hF hfm; have hlk2 := (fun o => lookup_none (hF.alloc o) hfm); clear hF; obtain ⟨hc1, _⟩ := bcell hb))
    all_goals
     go_wp2_with fail
     go_meet
     refine ⟨rfl, ?_⟩
     have hb0 : Below w.heap.size w w1 := by
      refine Below.trans ?_ (hb.mono ?_)
      · repeat (first | (with_reducible exact Below.refl _ _) | (with_reducible refine Below.drew ?_) | (with_reducible refine Below.alloc ?_ ?_ _))
        all_goals (simp <;> omega)
      · simp <;> omega
     clear hb hc1 hlk hlk2
     repeat (first | (with_reducible exact hb0) | (with_reducible refine Below.setCell ?_ ?_ _) | (with_reducible refine Below.alloc ?_ ?_ _))
     all_goals (first | exact hb0.size | (simp <;> omega))
   case rest =>
    obtain ⟨rfl, hbw⟩ := hcut
    go_wp2_with fail
    go_ret
    exact ⟨ret_congr (by rw [HV.out]; rfl), hbw⟩
 | some f =>
   have HV := hide (validB_form hfm nm refs nums bY al)
   have HBY := hide (by_any hfm)
   go_enter Tryz.func105, Tryz.ntmps105
   go_wp2_with fail
   go_cut [3, 4] (fun v ok wx => ∃ F tv, v = .pointer (some ⟨F, 0, none⟩) ∧ ok = .bool true ∧ Below w.heap.size w wx ∧ w.heap.size < F ∧ F < wx.heap.size ∧ Blk wx w.heap.size 102 #[.int .i64 k, .string nm, .slice ra refs.length rc, .slice na nums.length nc, .int .i64 bY, .bool al] ∧
    Blk wx F 136 #[.string f.word, .bool f.name, .int .i64 f.least, .int .i64 f.most, .int .i64 f.numbers, .func (.func (byF k)) #[] #[], .bool f.always, tv])
   case first =>
    go_region_held3 (fun W => W.cell? ⟨w.heap.size, 0, none⟩ = some (.int .i64 k) ∧ W.cell? ⟨w.heap.size, 1, none⟩ = some (.string nm) ∧ W.cell? ⟨w.heap.size, 2, none⟩ = some (.slice ra refs.length rc) ∧ W.cell? ⟨w.heap.size, 3, none⟩ = some (.slice na nums.length nc) ∧ W.cell? ⟨w.heap.size, 4, none⟩ = some (.int .i64 bY) ∧ W.cell? ⟨w.heap.size, 5, none⟩ = some (.bool al)) (first | go_keep | (refine ⟨?_, ?_, ?_, ?_, ?_, ?_⟩ <;> (first | (rw [hc1 _ _ (by simp <;> omega)]; exact cell?_new _ _ _ _) | (rw [hc1 _ _ (by simp <;> omega)]; exact (World.cell?_alloc_lt _ _ _ (by simp <;> omega)).trans (cell?_new _ _ _ _))))) ((go_at_call 106; refine (forms_any _).mono ?_; rintro e w1 ⟨rfl, hF, hb⟩; (try simp at hF); have hlk := lookup_some hF hfm; have hlk2 := (fun o => lookup_some (hF.alloc o) hfm); clear hF; obtain ⟨hc1, _⟩ := bcell hb))
    all_goals
     go_wp2_with fail
     go_meet
     have hb0 : Below w.heap.size w w1 := by
      refine Below.trans ?_ (hb.mono ?_)
      · repeat (first | (with_reducible exact Below.refl _ _) | (with_reducible refine Below.drew ?_) | (with_reducible refine Below.alloc ?_ ?_ _))
        all_goals (simp <;> omega)
      · simp <;> omega
     have hD : Blk w1 w.heap.size 102 #[.int .i64 k, .string nm, .slice ra refs.length rc, .slice na nums.length nc, .int .i64 bY, .bool al] := by
      refine Blk.below ?_ hb ?_
      · repeat (first | (with_reducible exact Blk.new _ _ _) | (with_reducible refine Blk.drew ?_) | (with_reducible refine Blk.alloc ?_ _))
      · simp <;> omega
     have hsz := hb.size
     simp at hsz
     first
      | (have hG : Blk w1 (w.heap.size + 1) 136 #[.string ⟨#[]⟩, .bool false, .int .i64 0, .int .i64 0, .int .i64 0, .nilFunc, .bool false, .nilFunc] := by
           refine Blk.below ?_ hb ?_
           · rw [show w.heap.size + 1 = (w.alloc (.cells #[.int .i64 k, .string nm, .slice ra refs.length rc, .slice na nums.length nc, .int .i64 bY, .bool al] 102)).heap.size by simp]
             repeat (first | (with_reducible exact Blk.new _ _ _) | (with_reducible refine Blk.drew ?_))
           · simp <;> omega
         clear hb hc1 hlk hlk2
         refine ⟨w.heap.size + 1, .func (.func (textF k)) #[] (capF (w.heap.size + 1 + 1) k), rfl, rfl, ?_, Nat.lt_succ_self _, ?_, ?_, ?_⟩
         rotate_left
         · simp <;> omega
         rotate_right
         · repeat (first | (with_reducible exact hb0) | (with_reducible refine Below.setCell ?_ ?_ _))
           all_goals (simp <;> omega)
         · repeat (first | (with_reducible exact hD) | (with_reducible refine Blk.far ?_ ?_ _))
           all_goals (simp <;> omega)
         · have := ((((((((hG.set_ 0 (.string f.word)).set_ 1 (.bool f.name)).set_ 2 (.int .i64 f.least)).set_ 3 (.int .i64 f.most)).set_ 4 (.int .i64 f.numbers)).set_ 5 (.func (.func (byF k)) #[] #[])).set_ 6 (.bool f.always)).set_ 7 (.func (.func (textF k)) #[] (capF (w.heap.size + 1 + 1) k)))
           simpa using this)
      | (clear hb hc1 hlk hlk2
         refine ⟨w1.heap.size, .func (.func (textF k)) #[] (capF (w.heap.size + 1) k), rfl, rfl, ?_, hsz, ?_, ?_, ?_⟩
         rotate_left
         · simp
         rotate_right
         · exact hb0.alloc hb0.size _
         · exact hD.alloc _
         · exact Blk.new _ _ _)
   case rest =>
    obtain ⟨F, tv, rfl, rfl, hbw, hF1, hF2, hD, hG⟩ := hcut
    have d1 := hD.cell 1
    have d2 := hD.cell 2
    have d3 := hD.cell 3
    have d4 := hD.cell 4
    have f2 := hG.cell 2
    have f3 := hG.cell 3
    have f4 := hG.cell 4
    have f5 := hG.cell 5
    simp at d1 d2 d3 d4 f2 f3 f4 f5
    have heg := HBY.out.1
    have HBC := hide HBY.out.2
    have HA := hide (any_not refs isName)
    have HB := hide (any_not nums numOk)
    have ec := isEmpty_iff nm
    clear ec
    cases hfn : f.name
    all_goals
     have HFN := hide hfn
     go_wp2_with (first
      | ((with_reducible refine Calls.mono (HBC.out _ _) ?_); rintro e w2 ⟨rfl, hb2⟩; have hb02 := hbw.trans (hb2.mono (by omega)); have hD2 := hD.below hb2 (by omega); have hG2 := hG.below hb2 (by omega); have d15 := hD2.cell 5; have d11 := hD2.cell 1; have d12 := hD2.cell 2; have d13 := hD2.cell 3; have f11 := hG2.cell 1; have f16 := hG2.cell 6; simp at d15 d11 d12 d13 f11 f16)
      | (go_at_call 94; refine (isName_prog nm _ (Asc.below ha (Nat.le_refl _) hb02) hs).mono ?_; rintro e w3 ⟨rfl, hb3⟩; have hb03 := hb02.trans (hb3.mono (by have := hb2.size; omega)); have hD3 := hD2.below hb3 (by have := hb2.size; omega); have d22 := hD3.cell 2; have d23 := hD3.cell 3; have f21 := (hG2.below hb3 (by have := hb2.size; omega)).cell 1; simp at d22 d23 f21)
      | (go_at_call 148; first
          | (refine (containsFunc_strs 149 #[] (fun _ _ => by kernel_rfl) (fun s => !isName s) ra rc refs w3 hl1 ((hr.below hb03).more hb03.size) (notName_pred (Asc.below ha (Nat.le_refl _) hb03) hf)).mono ?_; rintro e w4 ⟨rfl, hb4⟩; have hb04 := hb03.trans (hb4.mono hb03.size); have d33 := (hD3.below hb4 (by have := hb2.size; have := hb3.size; omega)).cell 3; simp at d33)
          | (refine (containsFunc_strs 149 #[] (fun _ _ => by kernel_rfl) (fun s => !isName s) ra rc refs w2 hl1 ((hr.below hb02).more hb02.size) (notName_pred (Asc.below ha (Nat.le_refl _) hb02) hf)).mono ?_; rintro e w4 ⟨rfl, hb4⟩; have hb04 := hb02.trans (hb4.mono hb02.size); have d33 := (hD2.below hb4 (by have := hb2.size; omega)).cell 3; simp at d33))
      | (go_at_call 48; refine (containsFunc_ints 147 #[] (fun _ _ => by kernel_rfl) (fun n => !numOk n) na nc nums w4 hl2 ((hn.below hb04).more hb04.size) oddNum_pred).mono ?_; rintro e w5 ⟨rfl, hb5⟩; have hb05 := hb04.trans (hb5.mono hb04.size)))
    all_goals
     go_ret
     refine ⟨ret_congr (congrArg Value.bool ?_), ?_⟩
     · rw [HV.out]
       have hA := HA.out
       have hB := HB.out
       have hN := HFN
       unfold Hid at hN
       simp only [hN]
       grind
     · first | exact hb05 | exact hb04 | exact hb03 | exact hb02 | exact hbw
end Go.Proofs.YtlnjaemdelnceaaGreatDoor
