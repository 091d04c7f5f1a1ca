/- The closures 'text' of the forms, together. Conditions: lengths that fit memory; the tables are laid. -/
import Derived.Test.YtanhkeeifnimgaaDoorSyn17n
import Derived.Test.YtanhkeeifnimgaaDoorLaw17a
namespace Go.Proofs.YtanhkeeifnimgaaDoor
open Go Go.RowKit Go.Proofs

set_option maxHeartbeats 400000 in
theorem text_failures (k : Int) (nm : ByteArray) (ra : Option Addr) (rn rc : Nat) (na : Option Addr) (nn nc : Nat) (bY : Int) (al : Bool) (w : World) (h1 : 1 ≤ bY) (h7 : bY ≤ 7) :
    Calls Tryd.prog 81 #[.agg #[.int .i64 k, .string nm, .slice ra rn rc, .slice na nn nc, .int .i64 bY, .bool al]] w
      fun e w' => ∃ v, e = .returned v ∧ OwnS w.heap.size w' v [joinS (clsW bY.toNat) (⟨#[44, 32]⟩ : ByteArray)] ∧ Below w.heap.size w w' := by
  have hc : ∀ W, Calls Tryd.prog 82 #[.int .i64 bY] W fun e w' => e = .returned (.string (joinS (clsW bY.toNat) (⟨#[44, 32]⟩ : ByteArray))) ∧ Below W.heap.size W w' := by
    have hn : bY = 1 ∨ bY = 2 ∨ bY = 3 ∨ bY = 4 ∨ bY = 5 ∨ bY = 6 ∨ bY = 7 := by omega
    intro W
    rcases hn with rfl | rfl | rfl | rfl | rfl | rfl | rfl
    · exact classes_prog1 W
    · exact classes_prog2 W
    · exact classes_prog3 W
    · exact classes_prog4 W
    · exact classes_prog5 W
    · exact classes_prog6 W
    · exact classes_prog7 W
  have HC := hide hc
  clear hc
  go_enter Tryd.func81, Tryd.ntmps81
  go_wp2_with (go_at_call 82; refine (HC.out _).mono ?_; rintro e w1 ⟨rfl, hb⟩)
  go_ret
  have hb1 : Below w.heap.size w w1 := ((Below.refl _ _).alloc (Nat.le_refl _) _).trans (hb.mono (by simp))
  exact ⟨_, rfl, OwnS.new w1 [joinS (clsW bY.toNat) (⟨#[44, 32]⟩ : ByteArray)] hb1.size (by unfold maxLen; simp), hb1.alloc hb1.size _⟩

/-- the words behind the first one -/
def wordsD (k : Int) (nm : ByteArray) (refs : List ByteArray) (nums : List Int) (bY : Int) (al : Bool) : List ByteArray :=
  if k = 0 ∨ k = 1 then [nm]
  else if k = 2 then [nm, (⟨#[105, 110]⟩ : ByteArray), refs.getD 0 ByteArray.empty, (⟨#[111, 110]⟩ : ByteArray), refs.getD 1 ByteArray.empty]
  else if k = 3 then [nm, (⟨#[105, 110]⟩ : ByteArray), refs.getD 0 ByteArray.empty, (⟨#[99, 97, 112, 97, 99, 105, 116, 121]⟩ : ByteArray), itoaS (nums.getD 0 0)]
  else if k = 5 then [nm, (⟨#[111, 110]⟩ : ByteArray), joinS refs (⟨#[44, 32]⟩ : ByteArray)] ++ loadW nums 0
  else if k = 6 then [nm, itoaS (nums.getD 0 0), (⟨#[111, 110]⟩ : ByteArray), joinS refs (⟨#[44, 32]⟩ : ByteArray)] ++ loadW nums 1
  else if k = 7 then [nm, (⟨#[111, 110]⟩ : ByteArray), refs.getD 0 ByteArray.empty] ++ loadW nums 0
  else if k = 8 then [refs.getD 0 ByteArray.empty, (⟨#[115, 108, 111, 116, 115]⟩ : ByteArray), itoaS (nums.getD 0 0), (⟨#[114, 101, 115, 101, 114, 118, 101]⟩ : ByteArray), itoaS (nums.getD 1 0)]
  else if k = 9 then [joinS (clsW bY.toNat) (⟨#[44, 32]⟩ : ByteArray)]
  else if k = 11 then keepW refs nums al
  else if k = 12 then [refs.getD 0 ByteArray.empty, (⟨#[98, 121]⟩ : ByteArray), domW bY, itoaS (nums.getD 0 0)]
  else if k = 13 then [refs.getD 0 ByteArray.empty, (⟨#[111, 110]⟩ : ByteArray), joinS refs.tail (⟨#[44, 32]⟩ : ByteArray)]
  else if k = 14 then [refs.getD 0 ByteArray.empty, (⟨#[98, 101, 102, 111, 114, 101]⟩ : ByteArray), refs.getD 1 ByteArray.empty]
  else refs ++ nums.map itoaS

theorem join_len (sep : List UInt8) : ∀ (l : List (List UInt8)) (n : Nat), (∀ x ∈ l, x.length ≤ n) → (Lib.join l sep).length ≤ l.length * (n + sep.length)
  | [], _, _ => by simp [Lib.join]
  | [x], n, h => by have := h x (by simp); simp [Lib.join]; omega
  | x :: y :: l, n, h => by
    have h1 := h x (by simp)
    have h2 := join_len sep (y :: l) n (fun z hz => h z (by simp [hz]))
    have e : Lib.join (x :: y :: l) sep = x ++ sep ++ Lib.join (y :: l) sep := by simp [Lib.join]
    rw [e, List.length_append, List.length_append]
    have e2 : (x :: y :: l).length * (n + sep.length) = (y :: l).length * (n + sep.length) + (n + sep.length) := by simp [Nat.add_mul]
    omega
theorem isName_size {s : ByteArray} (h : isName s = true) : s.size ≤ 31 := by
  simp [isName] at h; omega
theorem names_join {refs : List ByteArray} (h : refs.all isName = true) (hl : refs.length ≤ 17) (sep : List UInt8) (hs : sep.length ≤ 2) : (Lib.join (refs.map (·.data.toList)) sep).length ≤ 140737488355328 := by
  have := join_len sep (refs.map (·.data.toList)) 31 (by
    intro x hx
    obtain ⟨s, hs, rfl⟩ := List.mem_map.1 hx
    have := isName_size (List.all_eq_true.1 h s hs)
    simpa using this)
  have h2 : (refs.map (·.data.toList)).length * (31 + sep.length) ≤ 17 * 33 := Nat.mul_le_mul (by simpa using hl) (by omega)
  omega
theorem names_tail {refs : List ByteArray} (h : refs.all isName = true) : refs.tail.all isName = true := by
  cases refs with
  | nil => rfl
  | cons a l => simp at h ⊢; exact h.2

set_option maxHeartbeats 2000000 in
theorem text_any {k : Int} {f : Form} (hfm : form? k = some f) (nm : ByteArray) (ra : Option Addr) (refs : List ByteArray) (rc : Nat) (na : Option Addr) (nums : List Int) (nc : Nat) (bY : Int) (al : Bool)
    (hv : validB k nm refs nums bY al = true) (hrc : refs.length ≤ rc) :
    (∀ args w, (callFunc (textF k) args).run Tryd.prog w = .ok (.enter (textF k) args) w) ∧
    ∀ (B : Nat) (w : World), Pow w → B < w.heap.size → w.cell? ⟨B, 0, none⟩ = some (.func (.func 69) #[] #[]) → Strs w w.heap.size ra refs → Ints w w.heap.size na nums →
      Calls Tryd.prog (textF k) (#[.agg #[.int .i64 k, .string nm, .slice ra refs.length rc, .slice na nums.length nc, .int .i64 bY, .bool al]] ++ capF B k) w
        fun e w' => ∃ v, e = .returned v ∧ OwnS w.heap.size w' v (wordsD k nm refs nums bY al) ∧ Below w.heap.size w w' := by
  have hr : 0 ≤ k ∧ k < 17 := Classical.byContradiction fun hn => by rw [form_none hn] at hfm; cases hfm
  have hk : k = 0 ∨ k = 1 ∨ k = 2 ∨ k = 3 ∨ k = 4 ∨ k = 5 ∨ k = 6 ∨ k = 7 ∨ k = 8 ∨ k = 9 ∨ k = 10 ∨ k = 11 ∨ k = 12 ∨ k = 13 ∨ k = 14 ∨ k = 15 ∨ k = 16 := by omega
  rw [validB_form hfm] at hv
  simp only [Bool.and_eq_true, decide_eq_true_eq] at hv
  obtain ⟨⟨⟨⟨⟨⟨⟨v1, v2⟩, v3⟩, v4⟩, v5⟩, v6⟩, v7⟩, v8⟩ := hv
  clear v6 v5
  rcases hk with rfl | rfl | rfl | rfl | rfl | rfl | rfl | rfl | rfl | rfl | rfl | rfl | rfl | rfl | rfl | rfl | rfl
  all_goals
    obtain rfl : _ = f := Option.some.inj hfm
    clear hfm
    simp only [] at v1 v2 v3
    have hj := names_join v7 (by omega) [44, 32] (by decide)
    have hj2 := names_join (names_tail v7) (by simp; omega) [44, 32] (by decide)
    refine ⟨fun _ _ => by kernel_rfl, fun B w hp hB hc hrs hn => ?_⟩
  · exact text_named 0 nm ra refs.length rc na nums.length nc bY al w
  · exact text_named 1 nm ra refs.length rc na nums.length nc bY al w
  · exact text_rack 2 nm ra refs rc na nums nc bY al w hp hrs hrc (by omega) (by omega) v8 hn (by omega)
  · exact text_machine 3 nm ra refs rc na nums nc bY al w hp hrs hrc (by omega) (by omega) v8 hn (by omega) (by omega)
  · exact text_plain 4 nm ra refs rc na nums nc bY al w hp hrs (by omega) (by omega) v8 hn
  · exact text_group 5 nm ra refs rc na nums nc bY al w hp hrs hrc (by omega) (by omega) v8 hn hj (by omega)
  · exact text_pool 6 nm ra refs rc na nums nc bY al w hp hrs hrc (by omega) (by omega) v8 hn hj (by omega)
  · exact text_job 7 nm ra refs rc na nums nc bY al w hp hrs hrc (by omega) (by omega) v8 hn (by omega) (by omega)
  · exact text_dark 8 nm ra refs rc na nums nc bY al w hp hrs hrc (by omega) (by omega) v8 hn (by omega) (by omega)
  · simp only [Bool.and_eq_true, decide_eq_true_eq] at v4
    exact text_failures 9 nm ra refs.length rc na nums.length nc bY al w v4.1 v4.2
  · exact text_plain 10 nm ra refs rc na nums nc bY al w hp hrs (by omega) (by omega) v8 hn
  · exact text_keep 11 nm ra refs rc na nums nc bY al w B hp hB hc hrs (by omega) (by omega) v8 hn
  · exact text_spread 12 nm ra refs rc na nums nc bY al w hp hrs hrc (by omega) (by omega) v8 hn (by omega) (by omega)
  · exact text_only 13 nm ra refs rc na nums nc bY al w hp hrs hrc (by omega) (by omega) v8 hn hj2 (by omega)
  · exact text_order 14 nm ra refs rc na nums nc bY al w hp hrs hrc (by omega) (by omega) v8 hn (by omega)
  · exact text_plain 15 nm ra refs rc na nums nc bY al w hp hrs (by omega) (by omega) v8 hn
  · exact text_plain 16 nm ra refs rc na nums nc bY al w hp hrs (by omega) (by omega) v8 hn
end Go.Proofs.YtanhkeeifnimgaaDoor
