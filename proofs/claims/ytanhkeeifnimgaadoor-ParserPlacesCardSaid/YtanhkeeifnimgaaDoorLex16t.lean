/- Plain Lean: how names, keywords, numbers and symbols that stand one behind the other are read. No program in sight. Conditions: none. -/
import Derived.Test.YtanhkeeifnimgaaDoorLex16s
import Derived.Test.YtanhkeeifnimgaaDoorDist17
namespace Go.Proofs.YtanhkeeifnimgaaDoor
open Go Go.RowKit Go.Proofs

/-- kind, text and number of a token -/
abbrev Tk := Int × ByteArray × Int
def tkOf (t : Tok) : Tk := (t.kind, t.text, t.n)
/-- what is left is read as these tokens -/
inductive LexTo : List UInt8 → List Tk → Prop
  | nil : LexTo [] []
  | cons {l : List UInt8} {t : Tok} {ts : List Tk} : l ≠ [] → tokT (S l) = (t, 0) → LexTo (skipL (l.drop t.text.size)) ts → LexTo l (tkOf t :: ts)

theorem extract_S (s : ByteArray) (k : Nat) : s.extract k s.size = S (s.data.toList.drop k) := by
  rw [← data_S (s.extract k s.size), Lib.extract_to_end]
theorem drop_len (s : ByteArray) (k : Nat) (_h : k ≤ s.size) : (s.data.toList.drop k).length = s.size - k := by
  rw [List.length_drop]; rfl
theorem lex_scan {l : List UInt8} {ts : List Tk} (h : LexTo l ts) : ∀ (s : ByteArray) (k f : Nat) (out : List Tok), k ≤ s.size → s.data.toList.drop k = l → s.size < f + k →
    ∃ toks, toks.map tkOf = ts ∧ scanGo s f k out = (out ++ toks ++ [⟨0, ⟨#[]⟩, 0, s.size⟩], 0, 0) := by
  induction h with
  | nil =>
    intro s k f out hk hd hf
    have hl := drop_len s k hk
    rw [hd] at hl
    have : k = s.size := by simp at hl; omega
    obtain ⟨f', rfl⟩ : ∃ f', f = f' + 1 := ⟨f - 1, by omega⟩
    refine ⟨[], rfl, ?_⟩
    rw [scanGo, if_neg (by omega)]
    simp
  | @cons l t ts hne htok _ ih =>
    intro s k f out hk hd hf
    have hl := drop_len s k hk
    rw [hd] at hl
    have hlp : 0 < l.length := List.length_pos_iff.2 hne
    have hlt : k < s.size := by omega
    obtain ⟨f', rfl⟩ : ∃ f', f = f' + 1 := ⟨f - 1, by omega⟩
    have hx : tokT (s.extract k s.size) = (t, 0) := by rw [extract_S, hd, htok]
    have hts := tok_size (s := s.extract k s.size) (by rw [ByteArray.size_extract]; omega) (by rw [hx])
    rw [hx, ByteArray.size_extract] at hts
    simp only at hts
    have hm : skipN (s.data.toList.drop (k + t.text.size)) ≤ s.size - (k + t.text.size) := by
      have := skipN_le (s.data.toList.drop (k + t.text.size))
      rw [drop_len _ _ (by omega)] at this
      exact this
    obtain ⟨toks, e1, e2⟩ := ih s (k + t.text.size + skipN (s.data.toList.drop (k + t.text.size))) f' (out ++ [⟨t.kind, t.text, t.n, k⟩]) (by omega) (by
      rw [← hd, List.drop_drop, skip_drop, List.drop_drop]) (by omega)
    refine ⟨⟨t.kind, t.text, t.n, k⟩ :: toks, by rw [List.map_cons, e1]; rfl, ?_⟩
    rw [scanGo, if_pos hlt, hx]
    simp only [ne_eq, not_true_eq_false, if_false]
    rw [e2]
    simp

theorem head_append {a b : List UInt8} (h : a ≠ []) : (a ++ b).head? = a.head? := by
  cases a with
  | nil => exact absurd rfl h
  | cons => rfl
theorem takeWhile_all_then {p : UInt8 → Bool} {a l : List UInt8} (ha : ∀ c ∈ a, p c = true) (hl : ∀ c ∈ l.head?, p c = false) : (a ++ l).takeWhile p = a := by
  rw [List.takeWhile_append_of_pos ha]
  cases l with
  | nil => simp
  | cons c t => rw [List.takeWhile_cons, if_neg (by rw [hl c (by simp)]; simp)]; simp
theorem S_size (l : List UInt8) : (S l).size = l.length := rfl
theorem S_extract (a l : List UInt8) : (S (a ++ l)).extract 0 a.length = S a := by
  rw [← data_S ((S (a ++ l)).extract 0 a.length), Lib.extract_data, S_data]
  simp
theorem tok_word {a l : List UInt8} (h0 : a ≠ []) (h1 : ∀ c ∈ a, nmC c = true) (h2 : ∀ c ∈ a.head?, letC c = true) (hs : a.length ≤ 31) (hl : ∀ c ∈ l.head?, nmC c = false) :
    tokT (S (a ++ l)) = (⟨if hasS keywords (S a) then 2 else 1, S a, 0, 0⟩, 0) := by
  obtain ⟨c, t, rfl⟩ := List.exists_cons_of_ne_nil h0
  have hn : wordN (S (c :: t ++ l)) = (c :: t).length := by
    unfold wordN; rw [S_data, takeWhile_all_then h1 hl]
  unfold tokT
  rw [S_data, List.cons_append]
  simp only
  rw [if_pos (h2 c (by simp))]
  have e : S (c :: (t ++ l)) = S (c :: t ++ l) := rfl
  rw [e]
  unfold wordT
  rw [hn, if_neg (by omega), S_extract]
theorem lex_word {a l : List UInt8} {ts : List Tk} (h0 : a ≠ []) (h1 : ∀ c ∈ a, nmC c = true) (h2 : ∀ c ∈ a.head?, letC c = true) (hs : a.length ≤ 31) (hl : ∀ c ∈ l.head?, nmC c = false) (h : LexTo (skipL l) ts) :
    LexTo (a ++ l) ((if hasS keywords (S a) then 2 else 1, S a, 0) :: ts) := by
  have := LexTo.cons (l := a ++ l) (ts := ts) (by simp [h0]) (tok_word h0 h1 h2 hs hl) (by
    show LexTo (skipL ((a ++ l).drop (S a).size)) ts
    rw [S_size]; simpa using h)
  exact this
theorem lex_sym {c : UInt8} {l : List UInt8} {ts : List Tk} (hc : c = 59 ∨ c = 44) (h : LexTo (skipL l) ts) : LexTo (c :: l) ((4, S [c], 0) :: ts) := by
  have h1 : letC c = false := by rcases hc with rfl | rfl <;> rfl
  have h2 : digC c = false := by rcases hc with rfl | rfl <;> rfl
  have ht : tokT (S (c :: l)) = (⟨4, S [c], 0, 0⟩, 0) := by
    unfold tokT
    rw [S_data]
    simp only
    rw [if_neg (by simp [h1]), if_neg (by simp [h2]), if_pos hc]
    have : (S (c :: l)).extract 0 1 = S [c] := S_extract [c] l
    rw [this]
  have := LexTo.cons (l := c :: l) (ts := ts) (by simp) ht (by
    show LexTo (skipL ((c :: l).drop (S [c]).size)) ts
    rw [S_size]; simpa using h)
  exact this
theorem name_word {s : ByteArray} (h : isName s = true) : bs s ≠ [] ∧ (∀ c ∈ bs s, nmC c = true) ∧ (∀ c ∈ (bs s).head?, letC c = true) ∧ (bs s).length ≤ 31 ∧ hasS keywords s = false := by
  have hz := isName_size h
  unfold isName at h
  simp only [Bool.and_eq_true, Bool.not_eq_true', decide_eq_true_eq] at h
  obtain ⟨⟨⟨⟨h1, h2⟩, h3⟩, h4⟩, h5⟩ := h
  have hlen : (bs s).length = s.size := rfl
  refine ⟨by intro e; rw [e] at hlen; simp at hlen; omega, fun c hc => List.all_eq_true.1 h5 c hc, ?_, by omega, h4⟩
  intro c hc
  have : (bs s).getD 0 0 = c := by
    rw [List.head?_eq_getElem?] at hc
    rw [List.getD_eq_getElem?_getD]
    rw [Option.mem_def.1 hc]; rfl
  rw [← this]
  exact h3
theorem lex_name {s : ByteArray} {l : List UInt8} {ts : List Tk} (hn : isName s = true) (hl : ∀ c ∈ l.head?, nmC c = false) (h : LexTo (skipL l) ts) : LexTo (bs s ++ l) ((1, s, 0) :: ts) := by
  obtain ⟨h0, h1, h2, h3, h4⟩ := name_word hn
  have := lex_word h0 h1 h2 h3 hl h
  rw [show S (bs s) = s from rfl, h4] at this
  exact this
theorem numV_le : ∀ (l : List UInt8) (a : Int), 0 ≤ a → (∀ c ∈ l, 48 ≤ c.toNat ∧ c.toNat ≤ 57) → a ≤ l.foldl (fun n c => 10 * n + ((c.toNat : Int) - 48)) a
  | [], _, _, _ => Int.le_refl _
  | c :: t, a, ha, h => by
    have hc := h c (by simp)
    have := numV_le t (10 * a + ((c.toNat : Int) - 48)) (by omega) (fun x hx => h x (by simp [hx]))
    simp only [List.foldl_cons]
    omega
theorem numV_some : ∀ (l : List UInt8) (a : Int), 0 ≤ a → (∀ c ∈ l, 48 ≤ c.toNat ∧ c.toNat ≤ 57) → l.foldl (fun n c => 10 * n + ((c.toNat : Int) - 48)) a ≤ 1048576 → numV l a = some (l.foldl (fun n c => 10 * n + ((c.toNat : Int) - 48)) a)
  | [], _, _, _, _ => rfl
  | c :: t, a, ha, h, hl => by
    have hc := h c (by simp)
    have h2 := numV_le t (10 * a + ((c.toNat : Int) - 48)) (by omega) (fun x hx => h x (by simp [hx]))
    simp only [List.foldl_cons] at hl ⊢
    rw [numV, if_neg (by omega)]
    exact numV_some t _ (by omega) (fun x hx => h x (by simp [hx])) hl
theorem foldl_val (l : List UInt8) (h : ∀ c ∈ l, 48 ≤ c.toNat ∧ c.toNat ≤ 57) : ∀ n : Nat, l.foldl (fun (n : Int) c => 10 * n + ((c.toNat : Int) - 48)) (n : Int) = ((l.foldl (fun n c => 10 * n + (c.toNat - 48)) n : Nat) : Int) := by
  induction l with
  | nil => intro n; rfl
  | cons c t ih =>
    intro n
    have hc := h c (by simp)
    simp only [List.foldl_cons]
    rw [← ih (fun x hx => h x (by simp [hx]))]
    congr 1
    omega
theorem digits_head (u : Nat) : 1 < (Lib.decDigits u).length → (Lib.decDigits u).head? ≠ some 48 := by
  induction u using Nat.strongRecOn with
  | _ u ih =>
    by_cases h : u < 10
    · rw [Lib.decDigits, dif_pos h]; simp
    · rw [Lib.decDigits, dif_neg h]
      intro _
      have ih := ih (u / 10) (by omega)
      by_cases h2 : u / 10 < 10
      · rw [Lib.decDigits, dif_pos h2]
        simp only [List.cons_append, List.head?_cons, ne_eq, Option.some.injEq]
        intro e
        have := congrArg UInt8.toNat e
        simp [UInt8.toNat_ofNat'] at this
        omega
      · have hl : 1 < (Lib.decDigits (u / 10)).length := by
          rw [Lib.decDigits, dif_neg h2]
          have : 0 < (Lib.decDigits (u / 10 / 10)).length := by
            rw [Lib.decDigits]; split <;> simp
          simp; omega
        have hne : Lib.decDigits (u / 10) ≠ [] := by intro e; rw [e] at hl; simp at hl
        rw [head_append hne]
        exact ih hl
theorem digits_ne (u : Nat) : Lib.decDigits u ≠ [] := by
  rw [Lib.decDigits]; split <;> simp
theorem lex_num {n : Int} {l : List UInt8} {ts : List Tk} (hn : numOk n = true) (hl : ∀ c ∈ l.head?, nmC c = false) (h : LexTo (skipL l) ts) : LexTo (bs (itoaS n) ++ l) ((3, itoaS n, n) :: ts) := by
  have hb := bs_itoa hn
  simp only [numOk, Bool.and_eq_true, decide_eq_true_eq] at hn
  have hr := digits_range n.toNat
  have hne := digits_ne n.toNat
  have hv := valD_digits n.toNat
  have hd : ∀ c ∈ bs (itoaS n), digC c = true := by
    rw [hb]; intro c hc
    have := hr c hc
    simp only [digC, digitI, Bool.and_eq_true, decide_eq_true_eq]; omega
  have hl2 : ∀ c ∈ l.head?, digC c = false := fun c hc => by
    have := hl c hc
    simp only [nmC, nameI, Bool.or_eq_false_iff] at this
    exact this.1.2
  have hl3 : ∀ c ∈ l.head?, lowC c = false := fun c hc => by
    have := hl c hc
    simp only [nmC, nameI, Bool.or_eq_false_iff, decide_eq_false_iff_not] at this
    unfold lowC
    rw [this.1.1]
    simp only [Bool.false_or, decide_eq_false_iff_not]
    rintro rfl
    exact this.2 rfl
  have hN : numN (S (bs (itoaS n) ++ l)) = (bs (itoaS n)).length := by unfold numN; rw [S_data, takeWhile_all_then hd hl2]
  have hO : numOdd (S (bs (itoaS n) ++ l)) = false := by
    unfold numOdd
    rw [hN, S_data]
    have e1 : (List.takeWhile lowC (List.drop (bs (itoaS n)).length (bs (itoaS n) ++ l))).length = 0 := by
      rw [List.drop_left]
      cases l with
      | nil => rfl
      | cons c t => rw [List.takeWhile_cons, if_neg (by rw [hl3 c (by simp)]; simp)]; rfl
    rw [e1, hb, head_append hne]
    simp only [Nat.lt_irrefl, decide_false, Bool.or_false, Bool.and_eq_false_iff, decide_eq_false_iff_not]
    by_cases hlen : 1 < (Lib.decDigits n.toNat).length
    · exact .inr (digits_head _ hlen)
    · exact .inl hlen
  have hV : numV (bs (itoaS n)) 0 = some n := by
    rw [hb]
    have hf := foldl_val (Lib.decDigits n.toNat) hr 0
    have hv' : (Lib.decDigits n.toNat).foldl (fun n c => 10 * n + (c.toNat - 48)) 0 = n.toNat := hv
    rw [hv'] at hf
    have hf' : (Lib.decDigits n.toNat).foldl (fun (n : Int) c => 10 * n + ((c.toNat : Int) - 48)) 0 = n := by
      have := hf; simp only [Int.cast_ofNat_Int] at this; omega
    rw [numV_some _ 0 (by omega) hr (by rw [hf']; omega), hf']
  have ht : tokT (S (bs (itoaS n) ++ l)) = (⟨3, itoaS n, n, 0⟩, 0) := by
    obtain ⟨c, t, e⟩ := List.exists_cons_of_ne_nil (show bs (itoaS n) ≠ [] by rw [hb]; exact hne)
    have hc : digC c = true := hd c (by rw [e]; simp)
    have hcl : letC c = false := by
      simp only [digC, digitI, Bool.and_eq_true, decide_eq_true_eq] at hc
      simp only [letC, letterI, Bool.and_eq_false_iff, decide_eq_false_iff_not]
      left; omega
    unfold tokT
    have e2 : (S (bs (itoaS n) ++ l)).data.toList = c :: (t ++ l) := by rw [S_data, e]; rfl
    rw [e2]
    simp only
    rw [if_neg (by simp [hcl]), if_pos hc]
    unfold numT
    rw [hO, hN, S_data]
    simp only [Bool.false_eq_true, if_false]
    rw [List.take_left, hV, S_extract]
    rfl
  have := LexTo.cons (l := bs (itoaS n) ++ l) (ts := ts) (by rw [hb]; simp [hne]) ht (by
    show LexTo (skipL ((bs (itoaS n) ++ l).drop (itoaS n).size)) ts
    have e : (itoaS n).size = (bs (itoaS n)).length := rfl
    rw [e]; simpa using h)
  exact this
theorem skip_blank (l : List UInt8) : skipL (32 :: l) = skipL l := by
  show skipM false (32 :: l) = _
  rw [skipM, if_pos (by decide)]; rfl
end Go.Proofs.YtanhkeeifnimgaaDoor
