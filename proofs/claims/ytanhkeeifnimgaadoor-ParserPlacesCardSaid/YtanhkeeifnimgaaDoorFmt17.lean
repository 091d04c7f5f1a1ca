/- Plain Lean: the tokens of the text of a valid declaration. No program in sight. Conditions: none. Plain Lean: the names and the numbers among the tokens of a valid declaration's text. No program in sight. Conditions: none. Plain Lean: what Scan answers on the text of a valid declaration. No program in sight. Conditions: none. Plain Lean: writing the tokens of a valid declaration's text gives this text. No program in sight. Conditions: none. -/
import Derived.Test.YtanhkeeifnimgaaDoorLex16t

namespace Go.Proofs.YtanhkeeifnimgaaDoor
open Go Go.RowKit Go.Proofs

theorem lex_first {l : List UInt8} {ts : List Tk} (h : LexTo l ts) : skipL l = l := by
  cases h with
  | nil => rfl
  | @cons _ t ts hne htok _ =>
    obtain ⟨c, r, rfl⟩ := List.exists_cons_of_ne_nil hne
    unfold tokT at htok
    rw [S_data] at htok
    simp only at htok
    have key : letC c = true ∨ digC c = true ∨ c = 59 ∨ c = 44 := by
      by_cases h1 : letC c = true
      · exact .inl h1
      by_cases h2 : digC c = true
      · exact .inr (.inl h2)
      by_cases h3 : c = 59 ∨ c = 44
      · exact .inr (.inr h3)
      rw [if_neg h1, if_neg h2, if_neg h3] at htok
      simp at htok
    refine skip_stop ?_ ?_
    · rw [Bool.eq_false_iff]
      intro hs
      have : c = 32 ∨ c = 9 ∨ c = 10 ∨ c = 13 := by simpa [spB] using hs
      rcases this with rfl | rfl | rfl | rfl <;> revert key <;> decide
    · rintro rfl
      revert key; decide
/-- a word of a text and the tokens that it is read as -/
def WOK (p : List UInt8 × List Tk) : Prop := ∀ (l : List UInt8) (ts : List Tk), (∀ c ∈ l.head?, nmC c = false) → LexTo (skipL l) ts → LexTo (p.1 ++ l) (p.2 ++ ts)
theorem lex_words : ∀ (w : List UInt8 × List Tk) (ws : List (List UInt8 × List Tk)), (∀ p ∈ w :: ws, WOK p) → WOK (Lib.join ((w :: ws).map (·.1)) [32], ((w :: ws).map (·.2)).flatten)
  | w, [], h => by
    intro l ts hl ht
    have := h w (by simp) l ts hl ht
    simpa [Lib.join_one] using this
  | w, x :: ws, h => by
    intro l ts hl ht
    have ih := lex_words x ws (fun p hp => h p (by simp [List.mem_cons.1 hp])) l ts hl ht
    have e : Lib.join ((w :: x :: ws).map (·.1)) [32] ++ l = w.1 ++ (32 :: (Lib.join ((x :: ws).map (·.1)) [32] ++ l)) := by
      simp only [List.map_cons]
      rw [Lib.join_cons, Lib.join_cons]; simp [Lib.joinTail]
    have h1 := h w (by simp) (32 :: (Lib.join ((x :: ws).map (·.1)) [32] ++ l)) _ (by intro c hc; simp at hc; subst hc; decide) (by
      rw [skip_blank, lex_first ih]; exact ih)
    show LexTo (Lib.join ((w :: x :: ws).map (·.1)) [32] ++ l) _
    rw [e]
    simpa using h1
/-- a word of letters, digits and underscores -/
def WordB (s : ByteArray) : Bool := !(bs s).isEmpty && (bs s).all nmC && (match (bs s).head? with | some c => letC c | none => false) && decide ((bs s).length ≤ 31)
theorem wordB_spec {s : ByteArray} (h : WordB s = true) : bs s ≠ [] ∧ (∀ c ∈ bs s, nmC c = true) ∧ (∀ c ∈ (bs s).head?, letC c = true) ∧ (bs s).length ≤ 31 := by
  unfold WordB at h
  simp only [Bool.and_eq_true, Bool.not_eq_true', decide_eq_true_eq, List.isEmpty_eq_false_iff] at h
  obtain ⟨⟨⟨h1, h2⟩, h3⟩, h4⟩ := h
  refine ⟨h1, List.all_eq_true.1 h2, ?_, h4⟩
  intro c hc
  rw [Option.mem_def] at hc
  rw [hc] at h3
  exact h3
def kd (s : ByteArray) : Int := if hasS keywords s then 2 else 1
def wordTk (s : ByteArray) : List UInt8 × List Tk := (bs s, [(kd s, s, 0)])
theorem wok_word {s : ByteArray} (h : WordB s = true) : WOK (wordTk s) := by
  intro l ts hl ht
  obtain ⟨h0, h1, h2, h3⟩ := wordB_spec h
  exact lex_word h0 h1 h2 h3 hl ht
theorem name_wordB {s : ByteArray} (h : isName s = true) : WordB s = true ∧ kd s = 1 := by
  obtain ⟨h0, h1, h2, h3, h4⟩ := name_word h
  refine ⟨?_, by unfold kd; rw [h4]; rfl⟩
  unfold WordB
  obtain ⟨c, r, e⟩ := List.exists_cons_of_ne_nil h0
  have hc := h2 c (by rw [e]; rfl)
  rw [List.all_eq_true.2 h1]
  rw [e] at h3 ⊢
  simp only [List.head?_cons, hc, List.isEmpty_cons, Bool.not_false, Bool.and_self, Bool.true_and, decide_eq_true_eq]
  exact h3
def numTk (n : Int) : List UInt8 × List Tk := (bs (itoaS n), [(3, itoaS n, n)])
theorem wok_num {n : Int} (h : numOk n = true) : WOK (numTk n) := fun _ _ hl ht => lex_num h hl ht
/-- the tokens of words that are separated by commas -/
def listTk : List ByteArray → List Tk
  | [] => []
  | [x] => [(kd x, x, 0)]
  | x :: y :: l => (kd x, x, 0) :: (4, S [44], 0) :: listTk (y :: l)
def commaTk (l : List ByteArray) : List UInt8 × List Tk := (bs (joinS l (⟨#[44, 32]⟩ : ByteArray)), listTk l)
theorem wok_list : ∀ (x : ByteArray) (l : List ByteArray), (x :: l).all WordB = true → WOK (commaTk (x :: l))
  | x, [], h => by
    intro l ts hl ht
    simp only [List.all_cons, List.all_nil, Bool.and_true] at h
    have := wok_word h l ts hl ht
    have e : bs (joinS [x] (⟨#[44, 32]⟩ : ByteArray)) = bs x := by
      show Lib.join [bs x] [44, 32] = bs x
      exact Lib.join_one _ _
    show LexTo (bs (joinS [x] (⟨#[44, 32]⟩ : ByteArray)) ++ l) _
    rw [e]
    exact this
  | x, y :: r, h => by
    intro l ts hl ht
    rw [List.all_cons, Bool.and_eq_true] at h
    have ih : LexTo (bs (joinS (y :: r) (⟨#[44, 32]⟩ : ByteArray)) ++ l) (listTk (y :: r) ++ ts) := wok_list y r h.2 l ts hl ht
    have e : bs (joinS (x :: y :: r) (⟨#[44, 32]⟩ : ByteArray)) ++ l = bs x ++ (44 :: 32 :: (bs (joinS (y :: r) (⟨#[44, 32]⟩ : ByteArray)) ++ l)) := by
      show Lib.join (bs x :: bs y :: r.map bs) [44, 32] ++ l = bs x ++ (44 :: 32 :: (Lib.join (bs y :: r.map bs) [44, 32] ++ l))
      rw [Lib.join_cons, Lib.join_cons]; simp [Lib.joinTail]
    have h1 := lex_sym (c := 44) (ts := listTk (y :: r) ++ ts) (l := 32 :: (bs (joinS (y :: r) (⟨#[44, 32]⟩ : ByteArray)) ++ l)) (.inr rfl) (by rw [skip_blank, lex_first ih]; exact ih)
    have h2 := wok_word h.1 (44 :: 32 :: (bs (joinS (y :: r) (⟨#[44, 32]⟩ : ByteArray)) ++ l)) ((4, S [44], 0) :: (listTk (y :: r) ++ ts)) (by intro c hc; simp at hc; subst hc; decide) (by rw [lex_first h1]; exact h1)
    show LexTo (bs (joinS (x :: y :: r) (⟨#[44, 32]⟩ : ByteArray)) ++ l) _
    rw [e]
    exact h2
theorem names_wordB {l : List ByteArray} (h : l.all isName = true) : l.all WordB = true := by
  rw [List.all_eq_true] at h ⊢
  exact fun s hs => (name_wordB (h s hs)).1

def loadP (nums : List Int) (j : Nat) : List (List UInt8 × List Tk) := [wordTk (⟨#[108, 111, 97, 100]⟩ : ByteArray), numTk (nums.getD j 0), wordTk (⟨#[115, 105, 122, 101]⟩ : ByteArray), numTk (nums.getD (j + 1) 0), wordTk (⟨#[115, 104, 97, 114, 101]⟩ : ByteArray), numTk (nums.getD (j + 2) 0)]
/-- the words of a declaration's text, each with its tokens -/
def wordsP (k : Int) (nm : ByteArray) (refs : List ByteArray) (nums : List Int) (bY : Int) (al : Bool) : List (List UInt8 × List Tk) :=
  if k = 0 ∨ k = 1 then [wordTk nm]
  else if k = 2 then [wordTk nm, wordTk (⟨#[105, 110]⟩ : ByteArray), wordTk (refs.getD 0 ByteArray.empty), wordTk (⟨#[111, 110]⟩ : ByteArray), wordTk (refs.getD 1 ByteArray.empty)]
  else if k = 3 then [wordTk nm, wordTk (⟨#[105, 110]⟩ : ByteArray), wordTk (refs.getD 0 ByteArray.empty), wordTk (⟨#[99, 97, 112, 97, 99, 105, 116, 121]⟩ : ByteArray), numTk (nums.getD 0 0)]
  else if k = 5 then [wordTk nm, wordTk (⟨#[111, 110]⟩ : ByteArray), commaTk refs] ++ loadP nums 0
  else if k = 6 then [wordTk nm, numTk (nums.getD 0 0), wordTk (⟨#[111, 110]⟩ : ByteArray), commaTk refs] ++ loadP nums 1
  else if k = 7 then [wordTk nm, wordTk (⟨#[111, 110]⟩ : ByteArray), wordTk (refs.getD 0 ByteArray.empty)] ++ loadP nums 0
  else if k = 8 then [wordTk (refs.getD 0 ByteArray.empty), wordTk (⟨#[115, 108, 111, 116, 115]⟩ : ByteArray), numTk (nums.getD 0 0), wordTk (⟨#[114, 101, 115, 101, 114, 118, 101]⟩ : ByteArray), numTk (nums.getD 1 0)]
  else if k = 9 then [commaTk (clsW bY.toNat)]
  else if k = 11 then refs.map wordTk ++ nums.map numTk ++ (if al then [wordTk (⟨#[97, 108, 119, 97, 121, 115]⟩ : ByteArray)] else [])
  else if k = 12 then [wordTk (refs.getD 0 ByteArray.empty), wordTk (⟨#[98, 121]⟩ : ByteArray), wordTk (domW bY), numTk (nums.getD 0 0)]
  else if k = 13 then [wordTk (refs.getD 0 ByteArray.empty), wordTk (⟨#[111, 110]⟩ : ByteArray), commaTk refs.tail]
  else if k = 14 then [wordTk (refs.getD 0 ByteArray.empty), wordTk (⟨#[98, 101, 102, 111, 114, 101]⟩ : ByteArray), wordTk (refs.getD 1 ByteArray.empty)]
  else refs.map wordTk ++ nums.map numTk
theorem loadP_ok {nums : List Int} (h : nums.all numOk = true) {j : Nat} (hj : j + 2 < nums.length) : ∀ p ∈ loadP nums j, WOK p := by
  intro p hp
  simp only [loadP, List.mem_cons, List.not_mem_nil, or_false] at hp
  rcases hp with rfl | rfl | rfl | rfl | rfl | rfl
  · exact wok_word (by decide)
  · exact wok_num (numAt h (by omega))
  · exact wok_word (by decide)
  · exact wok_num (numAt h (by omega))
  · exact wok_word (by decide)
  · exact wok_num (numAt h (by omega))
theorem names_ok {refs : List ByteArray} (h : refs.all isName = true) : ∀ p ∈ refs.map wordTk, WOK p := by
  intro p hp
  obtain ⟨s, hs, rfl⟩ := List.mem_map.1 hp
  exact wok_word (name_wordB (List.all_eq_true.1 h s hs)).1
theorem nums_ok {nums : List Int} (h : nums.all numOk = true) : ∀ p ∈ nums.map numTk, WOK p := by
  intro p hp
  obtain ⟨n, hn, rfl⟩ := List.mem_map.1 hp
  exact wok_num (List.all_eq_true.1 h n hn)
theorem cls_wordB {n : Int} (h1 : 1 ≤ n) (h7 : n ≤ 7) : (clsW n.toNat).all WordB = true ∧ clsW n.toNat ≠ [] := by
  have : n = 1 ∨ n = 2 ∨ n = 3 ∨ n = 4 ∨ n = 5 ∨ n = 6 ∨ n = 7 := by omega
  rcases this with rfl | rfl | rfl | rfl | rfl | rfl | rfl <;> decide
theorem dom_wordB {n : Int} (h1 : 2 ≤ n) (h7 : n ≤ 4) : WordB (domW n) = true := by
  have : n = 2 ∨ n = 3 ∨ n = 4 := by omega
  rcases this with rfl | rfl | rfl <;> decide
theorem wok_list' {l : List ByteArray} (h : l.all WordB = true) (hne : l ≠ []) : WOK (commaTk l) := by
  obtain ⟨x, r, rfl⟩ := List.exists_cons_of_ne_nil hne
  exact wok_list x r h
theorem all_mem {α : Type} {P : α → Prop} : (∀ p ∈ ([] : List α), P p) := by simp
theorem all_cons' {α : Type} {P : α → Prop} {a : α} {l : List α} (h1 : P a) (h2 : ∀ p ∈ l, P p) : ∀ p ∈ a :: l, P p := by
  intro p hp
  rcases List.mem_cons.1 hp with rfl | hp
  · exact h1
  · exact h2 p hp
theorem all_app {α : Type} {P : α → Prop} {a b : List α} (h1 : ∀ p ∈ a, P p) (h2 : ∀ p ∈ b, P p) : ∀ p ∈ a ++ b, P p := by
  intro p hp
  rcases List.mem_append.1 hp with hp | hp
  · exact h1 p hp
  · exact h2 p hp
theorem words_ok {k : Int} {f : Form} (hfm : form? k = some f) (nm : ByteArray) (refs : List ByteArray) (nums : List Int) (bY : Int) (al : Bool) (hv : validB k nm refs nums bY al = true) :
    (wordsP k nm refs nums bY al).map (·.1) = (wordsD k nm refs nums bY al).map bs ∧ (∀ p ∈ wordsP k nm refs nums bY al, WOK p) := by
  have hr : 0 ≤ k ∧ k < 17 := Classical.byContradiction fun hn => by rw [form_none hn] at hfm; cases hfm
  have hk : k = 0 ∨ k = 1 ∨ k = 2 ∨ k = 3 ∨ k = 4 ∨ k = 5 ∨ k = 6 ∨ k = 7 ∨ k = 8 ∨ k = 9 ∨ k = 10 ∨ k = 11 ∨ k = 12 ∨ k = 13 ∨ k = 14 ∨ k = 15 ∨ k = 16 := by omega
  rw [validB_form hfm] at hv
  simp only [Bool.and_eq_true, decide_eq_true_eq] at hv
  obtain ⟨⟨⟨⟨⟨⟨⟨h1, h2⟩, h3⟩, h4⟩, h5⟩, h6⟩, h7⟩, h8⟩ := hv
  have hplain := all_app (names_ok h7) (nums_ok h8)
  have hR : ∀ j, j < refs.length → WOK (wordTk (refs.getD j ByteArray.empty)) := fun j hj => by
    rw [List.getD_eq_getElem?_getD, List.getElem?_eq_getElem hj]
    exact wok_word (name_wordB (List.all_eq_true.1 h7 _ (List.getElem_mem hj))).1
  have hN : ∀ j, j < nums.length → WOK (numTk (nums.getD j 0)) := fun j hj => wok_num (numAt h8 hj)
  rcases hk with rfl | rfl | rfl | rfl | rfl | rfl | rfl | rfl | rfl | rfl | rfl | rfl | rfl | rfl | rfl | rfl | rfl
  all_goals
    obtain rfl : _ = f := Option.some.inj hfm
    simp only [if_true, Bool.false_eq_true, if_false, Bool.and_eq_true, decide_eq_true_eq] at h1 h2 h3 h4 h6
  · exact ⟨rfl, all_cons' (wok_word (name_wordB h6).1) all_mem⟩
  · exact ⟨rfl, all_cons' (wok_word (name_wordB h6).1) all_mem⟩
  · exact ⟨rfl, all_cons' (wok_word (name_wordB h6).1) (all_cons' (wok_word (by decide)) (all_cons' (hR 0 (by omega)) (all_cons' (wok_word (by decide)) (all_cons' (hR 1 (by omega)) all_mem))))⟩
  · exact ⟨rfl, all_cons' (wok_word (name_wordB h6).1) (all_cons' (wok_word (by decide)) (all_cons' (hR 0 (by omega)) (all_cons' (wok_word (by decide)) (all_cons' (hN 0 (by omega)) all_mem))))⟩
  · exact ⟨by simp [wordsP, wordsD]; rfl, hplain⟩
  · exact ⟨rfl, all_app (all_cons' (wok_word (name_wordB h6).1) (all_cons' (wok_word (by decide)) (all_cons' (wok_list' (names_wordB h7) (by intro h0; subst h0; simp at h1)) all_mem))) (loadP_ok h8 (by omega))⟩
  · exact ⟨rfl, all_app (all_cons' (wok_word (name_wordB h6).1) (all_cons' (hN 0 (by omega)) (all_cons' (wok_word (by decide)) (all_cons' (wok_list' (names_wordB h7) (by intro h0; subst h0; simp at h1)) all_mem)))) (loadP_ok h8 (by omega))⟩
  · exact ⟨rfl, all_app (all_cons' (wok_word (name_wordB h6).1) (all_cons' (wok_word (by decide)) (all_cons' (hR 0 (by omega)) all_mem))) (loadP_ok h8 (by omega))⟩
  · exact ⟨rfl, all_cons' (hR 0 (by omega)) (all_cons' (wok_word (by decide)) (all_cons' (hN 0 (by omega)) (all_cons' (wok_word (by decide)) (all_cons' (hN 1 (by omega)) all_mem))))⟩
  · exact ⟨rfl, all_cons' (wok_list' (cls_wordB h4.1 h4.2).1 (cls_wordB h4.1 h4.2).2) all_mem⟩
  · exact ⟨by simp [wordsP, wordsD]; rfl, hplain⟩
  · refine ⟨by cases al <;> simp [wordsP, wordsD, keepW] <;> rfl, all_app hplain ?_⟩
    cases al
    · exact all_mem
    · exact all_cons' (wok_word (by decide)) all_mem
  · exact ⟨rfl, all_cons' (hR 0 (by omega)) (all_cons' (wok_word (by decide)) (all_cons' (wok_word (dom_wordB h4.1 h4.2)) (all_cons' (hN 0 (by omega)) all_mem)))⟩
  · obtain ⟨r0, r1, rs, rfl⟩ : ∃ r0 r1 rs, refs = r0 :: r1 :: rs := by
      match refs, h1 with
      | r0 :: r1 :: rs, _ => exact ⟨_, _, _, rfl⟩
    rw [List.all_cons, Bool.and_eq_true] at h7
    exact ⟨rfl, all_cons' (hR 0 (by omega)) (all_cons' (wok_word (by decide)) (all_cons' (wok_list' (names_wordB h7.2) (by simp)) all_mem))⟩
  · exact ⟨rfl, all_cons' (hR 0 (by omega)) (all_cons' (wok_word (by decide)) (all_cons' (hR 1 (by omega)) all_mem))⟩
  · exact ⟨by simp [wordsP, wordsD]; rfl, hplain⟩
  · exact ⟨by simp [wordsP, wordsD]; rfl, hplain⟩
/-- the tokens of a valid declaration's text -/
def textTk (d : Decl) : List Tk := (2, kindName d.kind, 0) :: ((wordsP d.kind d.name d.refs d.nums d.by_ d.always).map (·.2)).flatten ++ [(4, S [59], 0)]
theorem word_kw {k : Int} {f : Form} (hfm : form? k = some f) : WordB f.word = true ∧ kd f.word = 2 := by
  have hr : 0 ≤ k ∧ k < 17 := Classical.byContradiction fun hn => by rw [form_none hn] at hfm; cases hfm
  have hk : k = 0 ∨ k = 1 ∨ k = 2 ∨ k = 3 ∨ k = 4 ∨ k = 5 ∨ k = 6 ∨ k = 7 ∨ k = 8 ∨ k = 9 ∨ k = 10 ∨ k = 11 ∨ k = 12 ∨ k = 13 ∨ k = 14 ∨ k = 15 ∨ k = 16 := by omega
  rcases hk with rfl | rfl | rfl | rfl | rfl | rfl | rfl | rfl | rfl | rfl | rfl | rfl | rfl | rfl | rfl | rfl | rfl
  all_goals
    obtain rfl : _ = f := Option.some.inj hfm
    decide
theorem text_lex {d : Decl} (h : okD d = true) : LexTo (bs (textD d)) (textTk d) := by
  have h' := h
  unfold okD at h'
  cases hfm : form? d.kind with
  | none => rw [validB_none hfm] at h'; cases h'
  | some f =>
    obtain ⟨w1, w2⟩ := words_ok hfm _ _ _ _ _ h'
    have hkw := word_kw hfm
    have hkn : kindName d.kind = f.word := by unfold kindName; rw [hfm]
    have hb : bs (textD d) = Lib.join ((wordTk f.word :: wordsP d.kind d.name d.refs d.nums d.by_ d.always).map (·.1)) [32] ++ [59] := by
      rw [List.map_cons, w1]
      have hne := words_ne hfm _ _ _ _ _ h'
      obtain ⟨w, ws, e⟩ := List.exists_cons_of_ne_nil hne
      unfold textD textB textS
      rw [h', hfm, e, List.map_cons, Lib.join_cons]
      simp [bs, wordTk, ByteArray.data_append, joinS, S, Lib.joinTail, Lib.join_cons]
      rfl
    have hend : LexTo (skipL [59]) [(4, S [59], 0)] := by
      have := lex_sym (c := 59) (l := []) (ts := []) (.inl rfl) LexTo.nil
      rw [lex_first this]; exact this
    have := lex_words (wordTk f.word) _ (all_cons' (wok_word hkw.1) w2) [59] [(4, S [59], 0)] (by intro c hc; simp at hc; subst hc; decide) hend
    rw [hb]
    unfold textTk
    rw [hkn, ← hkw.2]
    simpa [wordTk] using this
end Go.Proofs.YtanhkeeifnimgaaDoor

namespace Go.Proofs.YtanhkeeifnimgaaDoor
open Go Go.RowKit Go.Proofs

def nmsT (l : List Tk) : List ByteArray := (l.filter (fun t => decide (t.1 = 1))).map (·.2.1)
def nusT (l : List Tk) : List Int := (l.filter (fun t => decide (t.1 = 3))).map (·.2.2)
theorem nms_app (a b : List Tk) : nmsT (a ++ b) = nmsT a ++ nmsT b := by simp [nmsT]
theorem nus_app (a b : List Tk) : nusT (a ++ b) = nusT a ++ nusT b := by simp [nusT]
theorem nms_nil : nmsT [] = [] := rfl
theorem nus_nil : nusT [] = [] := rfl
theorem nms_name {s : ByteArray} (h : isName s = true) : nmsT (wordTk s).2 = [s] := by
  have := (name_wordB h).2
  simp [nmsT, wordTk, this]
theorem nms_kw {s : ByteArray} (h : kd s = 2) : nmsT (wordTk s).2 = [] := by simp [nmsT, wordTk, h]
theorem kd_ne (s : ByteArray) : kd s = 1 ∨ kd s = 2 := by unfold kd; split <;> simp
theorem nus_word (s : ByteArray) : nusT (wordTk s).2 = [] := by
  rcases kd_ne s with h | h <;> simp [nusT, wordTk, h]
theorem nms_num (n : Int) : nmsT (numTk n).2 = [] := by simp [nmsT, numTk]
theorem nus_num (n : Int) : nusT (numTk n).2 = [n] := by simp [nusT, numTk]
theorem nms_list : ∀ l : List ByteArray, l.all isName = true → nmsT (listTk l) = l
  | [], _ => rfl
  | [x], h => by
    simp only [List.all_cons, List.all_nil, Bool.and_true] at h
    exact nms_name h
  | x :: y :: l, h => by
    rw [List.all_cons, Bool.and_eq_true] at h
    have ih := nms_list (y :: l) h.2
    have e : listTk (x :: y :: l) = (wordTk x).2 ++ ([(4, S [44], 0)] ++ listTk (y :: l)) := rfl
    rw [e, nms_app, nms_app, ih, nms_name h.1]
    rfl
theorem nms_klist : ∀ l : List ByteArray, l.all (fun s => decide (kd s = 2)) = true → nmsT (listTk l) = []
  | [], _ => rfl
  | [x], h => by
    simp only [List.all_cons, List.all_nil, Bool.and_true, decide_eq_true_eq] at h
    exact nms_kw h
  | x :: y :: l, h => by
    rw [List.all_cons, Bool.and_eq_true] at h
    have ih := nms_klist (y :: l) h.2
    have e : listTk (x :: y :: l) = (wordTk x).2 ++ ([(4, S [44], 0)] ++ listTk (y :: l)) := rfl
    rw [e, nms_app, nms_app, ih, nms_kw (by simpa using h.1)]
    rfl
theorem nus_list : ∀ l : List ByteArray, nusT (listTk l) = []
  | [] => rfl
  | [x] => nus_word x
  | x :: y :: l => by
    have ih := nus_list (y :: l)
    have e : listTk (x :: y :: l) = (wordTk x).2 ++ ([(4, S [44], 0)] ++ listTk (y :: l)) := rfl
    rw [e, nus_app, nus_app, ih, nus_word]
    rfl
theorem cls_kw {n : Int} (h1 : 1 ≤ n) (h7 : n ≤ 7) : (clsW n.toNat).all (fun s => decide (kd s = 2)) = true := by
  have : n = 1 ∨ n = 2 ∨ n = 3 ∨ n = 4 ∨ n = 5 ∨ n = 6 ∨ n = 7 := by omega
  rcases this with rfl | rfl | rfl | rfl | rfl | rfl | rfl <;> decide
theorem dom_kw {n : Int} (h1 : 2 ≤ n) (h7 : n ≤ 4) : kd (domW n) = 2 := by
  have : n = 2 ∨ n = 3 ∨ n = 4 := by omega
  rcases this with rfl | rfl | rfl <;> decide
theorem nms_names : ∀ l : List ByteArray, l.all isName = true → nmsT ((l.map wordTk).map (·.2)).flatten = l
  | [], _ => rfl
  | x :: l, h => by
    rw [List.all_cons, Bool.and_eq_true] at h
    rw [List.map_cons, List.map_cons, List.flatten_cons, nms_app, nms_name h.1, nms_names l h.2]; rfl
theorem nus_names : ∀ l : List ByteArray, nusT ((l.map wordTk).map (·.2)).flatten = []
  | [] => rfl
  | x :: l => by rw [List.map_cons, List.map_cons, List.flatten_cons, nus_app, nus_word, nus_names l]; rfl
theorem nms_nums : ∀ l : List Int, nmsT ((l.map numTk).map (·.2)).flatten = []
  | [] => rfl
  | x :: l => by rw [List.map_cons, List.map_cons, List.flatten_cons, nms_app, nms_num, nms_nums l]; rfl
theorem nus_nums : ∀ l : List Int, nusT ((l.map numTk).map (·.2)).flatten = l
  | [] => rfl
  | x :: l => by rw [List.map_cons, List.map_cons, List.flatten_cons, nus_app, nus_num, nus_nums l]; rfl
theorem name_ne {s : ByteArray} (h : isName s = true) : s.toList.isEmpty = false := by
  cases he : s.toList.isEmpty
  · rfl
  · have := (isEmpty_iff s).1 he
    have h1 := (name_word h).1
    exact absurd (List.eq_nil_of_length_eq_zero (show (bs s).length = 0 from this)) h1

theorem parts_of {d : Decl} (h : okD d = true) : nmsT (textTk d) = (if d.name.toList.isEmpty then [] else [d.name]) ++ d.refs ∧ nusT (textTk d) = d.nums := by
  obtain ⟨k, nm, refs, nums, bY, al⟩ := d
  have hv := h
  unfold okD at hv
  simp only at hv
  cases hfm : form? k with
  | none => rw [validB_none hfm] at hv; cases hv
  | some f =>
  have hr : 0 ≤ k ∧ k < 17 := Classical.byContradiction fun hn => by rw [form_none hn] at hfm; cases hfm
  have hk : k = 0 ∨ k = 1 ∨ k = 2 ∨ k = 3 ∨ k = 4 ∨ k = 5 ∨ k = 6 ∨ k = 7 ∨ k = 8 ∨ k = 9 ∨ k = 10 ∨ k = 11 ∨ k = 12 ∨ k = 13 ∨ k = 14 ∨ k = 15 ∨ k = 16 := by omega
  rw [validB_form hfm] at hv
  simp only [Bool.and_eq_true, decide_eq_true_eq] at hv
  obtain ⟨⟨⟨⟨⟨⟨⟨h1, h2⟩, h3⟩, h4⟩, h5⟩, h6⟩, h7⟩, h8⟩ := hv
  have hsplit : ∀ ws : List Tk, nmsT ((2, kindName k, 0) :: ws ++ [(4, S [59], 0)]) = nmsT ws ∧ nusT ((2, kindName k, 0) :: ws ++ [(4, S [59], 0)]) = nusT ws := fun ws => by
    have e : (2, kindName k, 0) :: ws ++ [(4, S [59], 0)] = [((2 : Int), kindName k, (0 : Int))] ++ (ws ++ [((4 : Int), S [59], (0 : Int))]) := rfl
    rw [e, nms_app, nms_app, nus_app, nus_app]
    refine ⟨?_, ?_⟩
    · show [] ++ (nmsT ws ++ []) = _; simp
    · show [] ++ (nusT ws ++ []) = _; simp
  have hT : textTk ⟨k, nm, refs, nums, bY, al⟩ = (2, kindName k, 0) :: ((wordsP k nm refs nums bY al).map (·.2)).flatten ++ [(4, S [59], 0)] := rfl
  rw [hT, (hsplit _).1, (hsplit _).2]
  clear hT hsplit h
  have hkw : ∀ s ∈ ([(⟨#[105, 110]⟩ : ByteArray), (⟨#[111, 110]⟩ : ByteArray), (⟨#[99, 97, 112, 97, 99, 105, 116, 121]⟩ : ByteArray), (⟨#[108, 111, 97, 100]⟩ : ByteArray), (⟨#[115, 105, 122, 101]⟩ : ByteArray), (⟨#[115, 104, 97, 114, 101]⟩ : ByteArray), (⟨#[115, 108, 111, 116, 115]⟩ : ByteArray), (⟨#[114, 101, 115, 101, 114, 118, 101]⟩ : ByteArray), (⟨#[98, 121]⟩ : ByteArray), (⟨#[98, 101, 102, 111, 114, 101]⟩ : ByteArray), (⟨#[97, 108, 119, 97, 121, 115]⟩ : ByteArray)] : List ByteArray), kd s = 2 := by decide
  rcases hk with rfl | rfl | rfl | rfl | rfl | rfl | rfl | rfl | rfl | rfl | rfl | rfl | rfl | rfl | rfl | rfl | rfl
  all_goals
    obtain rfl : _ = f := Option.some.inj hfm
    simp only [if_true, Bool.false_eq_true, if_false, Bool.and_eq_true, decide_eq_true_eq] at h1 h2 h3 h4 h6
    try (have hq : nums.length = 0 := (by omega); obtain rfl := len0 hq)
    try (have hq : nums.length = 1 := (by omega); obtain ⟨n0, rfl⟩ := len1 hq)
    try (have hq : nums.length = 2 := (by omega); obtain ⟨n0, n1, rfl⟩ := len2 hq)
    try (have hq : nums.length = 3 := (by omega); obtain ⟨n0, n1, n2, rfl⟩ := len3 hq)
    try (have hq : nums.length = 4 := (by omega); obtain ⟨n0, n1, n2, n3, rfl⟩ := len4 hq)
    try (have hq : refs.length = 0 := (by omega); obtain rfl := len0 hq)
    try (have hq : refs.length = 1 := (by omega); obtain ⟨r0, rfl⟩ := len1 hq)
    try (have hq : refs.length = 2 := (by omega); obtain ⟨r0, r1, rfl⟩ := len2 hq)
    try simp only [List.all_cons, List.all_nil, Bool.and_true, Bool.and_eq_true] at h7
    try have hne := name_ne h6
  all_goals have w0 : nmsT (wordTk (⟨#[105, 110]⟩ : ByteArray)).2 = [] := nms_kw (by decide)
  all_goals have w1 : nmsT (wordTk (⟨#[111, 110]⟩ : ByteArray)).2 = [] := nms_kw (by decide)
  all_goals have w2 : nmsT (wordTk (⟨#[99, 97, 112, 97, 99, 105, 116, 121]⟩ : ByteArray)).2 = [] := nms_kw (by decide)
  all_goals have w3 : nmsT (wordTk (⟨#[108, 111, 97, 100]⟩ : ByteArray)).2 = [] := nms_kw (by decide)
  all_goals have w4 : nmsT (wordTk (⟨#[115, 105, 122, 101]⟩ : ByteArray)).2 = [] := nms_kw (by decide)
  all_goals have w5 : nmsT (wordTk (⟨#[115, 104, 97, 114, 101]⟩ : ByteArray)).2 = [] := nms_kw (by decide)
  all_goals have w6 : nmsT (wordTk (⟨#[115, 108, 111, 116, 115]⟩ : ByteArray)).2 = [] := nms_kw (by decide)
  all_goals have w7 : nmsT (wordTk (⟨#[114, 101, 115, 101, 114, 118, 101]⟩ : ByteArray)).2 = [] := nms_kw (by decide)
  all_goals have w8 : nmsT (wordTk (⟨#[98, 121]⟩ : ByteArray)).2 = [] := nms_kw (by decide)
  all_goals have w9 : nmsT (wordTk (⟨#[98, 101, 102, 111, 114, 101]⟩ : ByteArray)).2 = [] := nms_kw (by decide)
  all_goals have w10 : nmsT (wordTk (⟨#[97, 108, 119, 97, 121, 115]⟩ : ByteArray)).2 = [] := nms_kw (by decide)
  · simp [wordsP, nus_word, nms_name h6, hne]
  · simp [wordsP, nus_word, nms_name h6, hne]
  · simp [wordsP, nms_app, nus_app, nus_word, w0, w1, nms_name h6, hne, nms_name h7.1, nms_name h7.2]
  · simp [wordsP, nms_app, nus_app, nus_word, nms_num, nus_num, w0, w2, nms_name h6, hne, nms_name h7]
  · have en := empty_of (by simpa using h6)
    subst en
    exact ⟨by simp [wordsP, nms_app, nms_name h7.1, nms_name h7.2, nms_num], by simp [wordsP, nus_app, nus_word, nus_num]⟩
  · simp [wordsP, loadP, nms_app, nus_app, nus_word, nms_num, nus_num, w1, w3, w4, w5, nms_name h6, hne, commaTk, nms_list _ h7, nus_list]
  · simp [wordsP, loadP, nms_app, nus_app, nus_word, nms_num, nus_num, w1, w3, w4, w5, nms_name h6, hne, commaTk, nms_list _ h7, nus_list]
  · simp [wordsP, loadP, nms_app, nus_app, nus_word, nms_num, nus_num, w1, w3, w4, w5, nms_name h6, hne, nms_name h7]
  · have en := empty_of (by simpa using h6)
    subst en
    simp [wordsP, nms_app, nus_app, nus_word, nms_num, nus_num, w6, w7, nms_name h7]
  · have en := empty_of (by simpa using h6)
    subst en
    simp [wordsP, commaTk, nms_klist _ (cls_kw h4.1 h4.2), nus_list]
  · have en := empty_of (by simpa using h6)
    subst en
    simp [wordsP, nus_word, nms_name h7]
  · have en := empty_of (by simpa using h6)
    subst en
    cases al <;> simp [wordsP, nms_app, nus_app, nus_word, nms_num, nus_num, w10, nms_name h7]
  · have en := empty_of (by simpa using h6)
    subst en
    simp [wordsP, nms_app, nus_app, nus_word, nms_num, nus_num, w8, nms_name h7, nms_kw (dom_kw h4.1 h4.2)]
  · have en := empty_of (by simpa using h6)
    subst en
    obtain ⟨r0, r1, rs, rfl⟩ : ∃ r0 r1 rs, refs = r0 :: r1 :: rs := by
      match refs, h1 with
      | r0 :: r1 :: rs, _ => exact ⟨_, _, _, rfl⟩
    rw [List.all_cons, Bool.and_eq_true] at h7
    simp [wordsP, nms_app, nus_app, nus_word, w1, commaTk, nms_name h7.1, nms_list _ h7.2, nus_list]
  · have en := empty_of (by simpa using h6)
    subst en
    simp [wordsP, nms_app, nus_app, nus_word, w9, nms_name h7.1, nms_name h7.2]
  · have en := empty_of (by simpa using h6)
    subst en
    simp [wordsP, nms_num, nus_num]
  · have en := empty_of (by simpa using h6)
    subst en
    simp [wordsP, nms_app, nus_app, nus_word, nms_num, nus_num, nms_name h7]
end Go.Proofs.YtanhkeeifnimgaaDoor

namespace Go.Proofs.YtanhkeeifnimgaaDoor
open Go Go.RowKit Go.Proofs

theorem words_few {k : Int} {f : Form} (hfm : form? k = some f) {nm : ByteArray} {refs : List ByteArray} {nums : List Int} {bY : Int} {al : Bool} (hv : validB k nm refs nums bY al = true) : (wordsD k nm refs nums bY al).length ≤ 12 := by
  have hr : 0 ≤ k ∧ k < 17 := Classical.byContradiction fun hn => by rw [form_none hn] at hfm; cases hfm
  have hk : k = 0 ∨ k = 1 ∨ k = 2 ∨ k = 3 ∨ k = 4 ∨ k = 5 ∨ k = 6 ∨ k = 7 ∨ k = 8 ∨ k = 9 ∨ k = 10 ∨ k = 11 ∨ k = 12 ∨ k = 13 ∨ k = 14 ∨ k = 15 ∨ k = 16 := by omega
  rw [validB_form hfm] at hv
  simp only [Bool.and_eq_true, decide_eq_true_eq] at hv
  obtain ⟨⟨⟨⟨⟨⟨⟨v1, v2⟩, v3⟩, v4⟩, v5⟩, v6⟩, v7⟩, v8⟩ := hv
  clear v5 v6
  rcases hk with rfl | rfl | rfl | rfl | rfl | rfl | rfl | rfl | rfl | rfl | rfl | rfl | rfl | rfl | rfl | rfl | rfl
  all_goals
    obtain rfl : _ = f := Option.some.inj hfm
    clear hfm
    simp only [] at v1 v2 v3
    simp [wordsD, loadW, keepW] <;> first | omega | (cases al <;> simp <;> omega)
theorem text_short {d : Decl} (h : okD d = true) : (textD d).size ≤ 16384 := by
  have h' := h
  unfold okD at h'
  cases hfm : form? d.kind with
  | none => rw [validB_none hfm] at h'; cases h'
  | some f =>
    have hl := words_few hfm h'
    have hs := words_small hfm h'
    have hw := word_size hfm
    have hj : (joinS (wordsD d.kind d.name d.refs d.nums d.by_ d.always) (⟨#[32]⟩ : ByteArray)).size ≤ 12 * 1001 := by
      have := join_len [32] ((wordsD d.kind d.name d.refs d.nums d.by_ d.always).map (·.data.toList)) 1000 (by
        intro x hx
        obtain ⟨s, hs', rfl⟩ := List.mem_map.1 hx
        have := hs.2 s hs'
        simpa using this)
      have h2 : ((wordsD d.kind d.name d.refs d.nums d.by_ d.always).map (·.data.toList)).length * (1000 + 1) ≤ 12 * 1001 := Nat.mul_le_mul (by simpa using hl) (by omega)
      show (Lib.join ((wordsD d.kind d.name d.refs d.nums d.by_ d.always).map (·.data.toList)) [32]).toArray.size ≤ _
      simp at this h2 ⊢; omega
    have h3 : ((⟨#[32]⟩ : ByteArray) : ByteArray).size = 1 := rfl
    have h4 : ((⟨#[59]⟩ : ByteArray) : ByteArray).size = 1 := rfl
    unfold textD textB textS
    rw [h', hfm]
    simp only [if_true, ByteArray.size_append]
    omega
theorem scan_text {d : Decl} (h : okD d = true) : ∃ toks : List Tok, scanT (textD d) = (toks ++ [⟨0, ⟨#[]⟩, 0, (textD d).size⟩], 0, 0) ∧ toks.map tkOf = textTk d := by
  have hl := text_lex h
  have hf := lex_first hl
  have hk : skipN (textD d).data.toList = 0 := by
    unfold skipN
    rw [show skipL (textD d).data.toList = (textD d).data.toList from hf]
    omega
  obtain ⟨toks, e1, e2⟩ := lex_scan hl (textD d) 0 ((textD d).size + 1) [] (Nat.zero_le _) rfl (by omega)
  refine ⟨toks, ?_, e1⟩
  have := text_short h
  unfold scanT
  rw [if_neg (by omega), hk, e2]
  simp
/-- the texts of the names, and the numbers, of a list of tokens -/
def nmsL (l : List Tok) : List ByteArray := nmsT (l.map tkOf)
def nusL (l : List Tok) : List Int := nusT (l.map tkOf)
theorem nmsL_snoc (l : List Tok) (t : Tok) : nmsL (l ++ [t]) = nmsL l ++ (if t.kind = 1 then [t.text] else []) := by
  unfold nmsL
  rw [List.map_append, nms_app]
  congr 1
  show nmsT [tkOf t] = _
  by_cases h : t.kind = 1 <;> simp [nmsT, tkOf, h]
theorem nusL_snoc (l : List Tok) (t : Tok) : nusL (l ++ [t]) = nusL l ++ (if t.kind = 3 then [t.n] else []) := by
  unfold nusL
  rw [List.map_append, nus_app]
  congr 1
  show nusT [tkOf t] = _
  by_cases h : t.kind = 3 <;> simp [nusT, tkOf, h]
end Go.Proofs.YtanhkeeifnimgaaDoor

namespace Go.Proofs.YtanhkeeifnimgaaDoor
open Go Go.RowKit Go.Proofs

/-- the text of tokens (first: nothing has been written yet) -/
def fmtGo : Bool → List Tk → List UInt8
  | _, [] => []
  | first, t :: r => if t.1 = 0 then fmtGo first r else (if !first && decide (t.2.1 ≠ (⟨#[59]⟩ : ByteArray)) && decide (t.2.1 ≠ (⟨#[44]⟩ : ByteArray)) then [32] else []) ++ bs t.2.1 ++ fmtGo false r
def FOK (p : List UInt8 × List Tk) : Prop := ∀ r, fmtGo false (p.2 ++ r) = 32 :: p.1 ++ fmtGo false r
theorem fmt_plain {k n : Int} {s : ByteArray} (hk : k ≠ 0) (h1 : s ≠ (⟨#[59]⟩ : ByteArray)) (h2 : s ≠ (⟨#[44]⟩ : ByteArray)) (r : List Tk) : fmtGo false ((k, s, n) :: r) = 32 :: bs s ++ fmtGo false r := by
  rw [fmtGo, if_neg hk]
  simp [h1, h2]
theorem fmt_sym {c : UInt8} (hc : c = 59 ∨ c = 44) (b : Bool) (r : List Tk) : fmtGo b ((4, S [c], 0) :: r) = c :: fmtGo false r := by
  rw [fmtGo, if_neg (show ¬ (4 : Int) = 0 by decide)]
  rcases hc with rfl | rfl
  · have : S [59] = (⟨#[59]⟩ : ByteArray) := rfl
    simp only [this, ne_eq, not_true_eq_false, decide_false, Bool.and_false, Bool.false_and, Bool.false_eq_true, if_false, List.nil_append]
    rfl
  · have : S [44] = (⟨#[44]⟩ : ByteArray) := rfl
    simp only [this, ne_eq, not_true_eq_false, decide_false, Bool.and_false, Bool.false_eq_true, if_false, List.nil_append]
    rfl
theorem word_nosym {s : ByteArray} (h : WordB s = true) : s ≠ (⟨#[59]⟩ : ByteArray) ∧ s ≠ (⟨#[44]⟩ : ByteArray) := by
  constructor <;> rintro rfl <;> revert h <;> decide
theorem kd_ne0 (s : ByteArray) : kd s ≠ 0 := by rcases kd_ne s with h | h <;> rw [h] <;> decide
theorem fok_word {s : ByteArray} (h : WordB s = true) : FOK (wordTk s) := fun r => fmt_plain (kd_ne0 s) (word_nosym h).1 (word_nosym h).2 r
theorem num_nosym {n : Int} (h : numOk n = true) : itoaS n ≠ (⟨#[59]⟩ : ByteArray) ∧ itoaS n ≠ (⟨#[44]⟩ : ByteArray) := by
  have hb := bs_itoa h
  have hr := digits_range n.toNat
  constructor
  · intro e
    have h1 : bs (itoaS n) = [59] := by rw [e]; rfl
    have := hr 59 (by rw [← hb, h1]; simp)
    simp at this
  · intro e
    have h1 : bs (itoaS n) = [44] := by rw [e]; rfl
    have := hr 44 (by rw [← hb, h1]; simp)
    simp at this
theorem fok_num {n : Int} (h : numOk n = true) : FOK (numTk n) := fun r => fmt_plain (by decide) (num_nosym h).1 (num_nosym h).2 r
theorem fok_list : ∀ (x : ByteArray) (l : List ByteArray), (x :: l).all WordB = true → FOK (commaTk (x :: l))
  | x, [], h => by
    intro r
    simp only [List.all_cons, List.all_nil, Bool.and_true] at h
    have e : bs (joinS [x] (⟨#[44, 32]⟩ : ByteArray)) = bs x := by
      show Lib.join [bs x] [44, 32] = bs x
      exact Lib.join_one _ _
    have := fok_word h r
    show fmtGo false ((wordTk x).2 ++ r) = 32 :: bs (joinS [x] (⟨#[44, 32]⟩ : ByteArray)) ++ _
    rw [e]; exact this
  | x, y :: l, h => by
    intro r
    rw [List.all_cons, Bool.and_eq_true] at h
    have ih : fmtGo false (listTk (y :: l) ++ r) = 32 :: bs (joinS (y :: l) (⟨#[44, 32]⟩ : ByteArray)) ++ fmtGo false r := fok_list y l h.2 r
    have e : bs (joinS (x :: y :: l) (⟨#[44, 32]⟩ : ByteArray)) = bs x ++ (44 :: 32 :: bs (joinS (y :: l) (⟨#[44, 32]⟩ : ByteArray))) := by
      show Lib.join (bs x :: bs y :: l.map bs) [44, 32] = bs x ++ (44 :: 32 :: Lib.join (bs y :: l.map bs) [44, 32])
      rw [Lib.join_cons, Lib.join_cons]; simp [Lib.joinTail]
    show fmtGo false ((wordTk x).2 ++ ((4, S [44], 0) :: (listTk (y :: l) ++ r))) = 32 :: bs (joinS (x :: y :: l) (⟨#[44, 32]⟩ : ByteArray)) ++ _
    rw [fok_word h.1, fmt_sym (.inr rfl), ih, e]
    simp [wordTk]
theorem fok_list' {l : List ByteArray} (h : l.all WordB = true) (hne : l ≠ []) : FOK (commaTk l) := by
  obtain ⟨x, r, rfl⟩ := List.exists_cons_of_ne_nil hne
  exact fok_list x r h
theorem fok_words : ∀ ws : List (List UInt8 × List Tk), (∀ p ∈ ws, FOK p) → ∀ r, fmtGo false ((ws.map (·.2)).flatten ++ r) = Lib.joinTail [32] (ws.map (·.1)) ++ fmtGo false r
  | [], _, r => by simp [Lib.joinTail]
  | w :: ws, h, r => by
    rw [List.map_cons, List.flatten_cons, List.append_assoc, h w (by simp), fok_words ws (fun p hp => h p (by simp [hp])) r]
    simp [Lib.joinTail]
theorem words_all {P : List UInt8 × List Tk → Prop} (pw : ∀ s, WordB s = true → P (wordTk s)) (pn : ∀ n, numOk n = true → P (numTk n)) (pl : ∀ l : List ByteArray, l.all WordB = true → l ≠ [] → P (commaTk l)) {k : Int} {f : Form} (hfm : form? k = some f) (nm : ByteArray) (refs : List ByteArray) (nums : List Int) (bY : Int) (al : Bool) (hv : validB k nm refs nums bY al = true) :
    ∀ p ∈ wordsP k nm refs nums bY al, P p := by
  have hr : 0 ≤ k ∧ k < 17 := Classical.byContradiction fun hn => by rw [form_none hn] at hfm; cases hfm
  have hk : k = 0 ∨ k = 1 ∨ k = 2 ∨ k = 3 ∨ k = 4 ∨ k = 5 ∨ k = 6 ∨ k = 7 ∨ k = 8 ∨ k = 9 ∨ k = 10 ∨ k = 11 ∨ k = 12 ∨ k = 13 ∨ k = 14 ∨ k = 15 ∨ k = 16 := by omega
  rw [validB_form hfm] at hv
  simp only [Bool.and_eq_true, decide_eq_true_eq] at hv
  obtain ⟨⟨⟨⟨⟨⟨⟨h1, h2⟩, h3⟩, h4⟩, h5⟩, h6⟩, h7⟩, h8⟩ := hv
  have hplain : ∀ p ∈ refs.map wordTk ++ nums.map numTk, P p := all_app (fun p hp => by obtain ⟨s, hs, rfl⟩ := List.mem_map.1 hp; exact pw _ (name_wordB (List.all_eq_true.1 h7 s hs)).1) (fun p hp => by obtain ⟨n, hn, rfl⟩ := List.mem_map.1 hp; exact pn _ (List.all_eq_true.1 h8 n hn))
  have hload : ∀ j, j + 2 < nums.length → ∀ p ∈ loadP nums j, P p := fun j hj => all_cons' (pw _ (by decide)) (all_cons' (pn _ (numAt h8 (by omega))) (all_cons' (pw _ (by decide)) (all_cons' (pn _ (numAt h8 (by omega))) (all_cons' (pw _ (by decide)) (all_cons' (pn _ (numAt h8 (by omega))) all_mem)))))
  have hR : ∀ j, j < refs.length → P (wordTk (refs.getD j ByteArray.empty)) := fun j hj => by
    rw [List.getD_eq_getElem?_getD, List.getElem?_eq_getElem hj]
    exact pw _ (name_wordB (List.all_eq_true.1 h7 _ (List.getElem_mem hj))).1
  have hN : ∀ j, j < nums.length → P (numTk (nums.getD j 0)) := fun j hj => pn _ (numAt h8 hj)
  rcases hk with rfl | rfl | rfl | rfl | rfl | rfl | rfl | rfl | rfl | rfl | rfl | rfl | rfl | rfl | rfl | rfl | rfl
  all_goals
    obtain rfl : _ = f := Option.some.inj hfm
    simp only [if_true, Bool.false_eq_true, if_false, Bool.and_eq_true, decide_eq_true_eq] at h1 h2 h3 h4 h6
  · exact (all_cons' (pw _ (name_wordB h6).1) all_mem)
  · exact (all_cons' (pw _ (name_wordB h6).1) all_mem)
  · exact (all_cons' (pw _ (name_wordB h6).1) (all_cons' (pw _ (by decide)) (all_cons' (hR 0 (by omega)) (all_cons' (pw _ (by decide)) (all_cons' (hR 1 (by omega)) all_mem)))))
  · exact (all_cons' (pw _ (name_wordB h6).1) (all_cons' (pw _ (by decide)) (all_cons' (hR 0 (by omega)) (all_cons' (pw _ (by decide)) (all_cons' (hN 0 (by omega)) all_mem)))))
  · exact hplain
  · exact (all_app (all_cons' (pw _ (name_wordB h6).1) (all_cons' (pw _ (by decide)) (all_cons' (pl _ (names_wordB h7) (by intro h0; subst h0; simp at h1)) all_mem))) (hload _ (by omega)))
  · exact (all_app (all_cons' (pw _ (name_wordB h6).1) (all_cons' (hN 0 (by omega)) (all_cons' (pw _ (by decide)) (all_cons' (pl _ (names_wordB h7) (by intro h0; subst h0; simp at h1)) all_mem)))) (hload _ (by omega)))
  · exact (all_app (all_cons' (pw _ (name_wordB h6).1) (all_cons' (pw _ (by decide)) (all_cons' (hR 0 (by omega)) all_mem))) (hload _ (by omega)))
  · exact (all_cons' (hR 0 (by omega)) (all_cons' (pw _ (by decide)) (all_cons' (hN 0 (by omega)) (all_cons' (pw _ (by decide)) (all_cons' (hN 1 (by omega)) all_mem)))))
  · exact (all_cons' (pl _ (cls_wordB h4.1 h4.2).1 (cls_wordB h4.1 h4.2).2) all_mem)
  · exact hplain
  · refine all_app hplain ?_
    cases al
    · exact all_mem
    · exact all_cons' (pw _ (by decide)) all_mem
  · exact (all_cons' (hR 0 (by omega)) (all_cons' (pw _ (by decide)) (all_cons' (pw _ (dom_wordB h4.1 h4.2)) (all_cons' (hN 0 (by omega)) all_mem))))
  · obtain ⟨r0, r1, rs, rfl⟩ : ∃ r0 r1 rs, refs = r0 :: r1 :: rs := by
      match refs, h1 with
      | r0 :: r1 :: rs, _ => exact ⟨_, _, _, rfl⟩
    rw [List.all_cons, Bool.and_eq_true] at h7
    exact (all_cons' (hR 0 (by omega)) (all_cons' (pw _ (by decide)) (all_cons' (pl _ (names_wordB h7.2) (by simp)) all_mem)))
  · exact (all_cons' (hR 0 (by omega)) (all_cons' (pw _ (by decide)) (all_cons' (hR 1 (by omega)) all_mem)))
  · exact hplain
  · exact hplain
theorem fmt_text {d : Decl} (h : okD d = true) : fmtGo true (textTk d) = bs (textD d) := by
  have h' := h
  unfold okD at h'
  cases hfm : form? d.kind with
  | none => rw [validB_none hfm] at h'; cases h'
  | some f =>
    have w1 := (words_ok hfm _ _ _ _ _ h').1
    have w2 := words_all (P := FOK) (fun s hs => fok_word hs) (fun n hn => fok_num hn) (fun l hl hne => fok_list' hl hne) hfm _ _ _ _ _ h'
    have hkn : kindName d.kind = f.word := by unfold kindName; rw [hfm]
    have hne := words_ne hfm _ _ _ _ _ h'
    obtain ⟨w, ws, e⟩ := List.exists_cons_of_ne_nil hne
    have hb : bs (textD d) = bs f.word ++ Lib.joinTail [32] ((wordsP d.kind d.name d.refs d.nums d.by_ d.always).map (·.1)) ++ [59] := by
      rw [w1, e]
      unfold textD textB textS
      rw [h', hfm, e]
      simp [bs, ByteArray.data_append, joinS, S, Lib.joinTail, Lib.join_cons]
      rfl
    rw [hb]
    unfold textTk
    rw [hkn, List.cons_append, fmtGo, if_neg (show ¬ (2 : Int) = 0 by decide), fok_words _ w2, fmt_sym (.inl rfl)]
    simp [fmtGo]
end Go.Proofs.YtanhkeeifnimgaaDoor
