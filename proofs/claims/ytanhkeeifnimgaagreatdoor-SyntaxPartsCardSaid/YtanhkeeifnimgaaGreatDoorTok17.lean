/- Plain Lean: the tokens of the text of a valid declaration. No program in sight. Conditions: none. -/
import Derived.Test.YtanhkeeifnimgaaGreatDoorLex16t
namespace Go.Proofs.YtanhkeeifnimgaaGreatDoor
open Go Go.RowKit Go.Proofs

theorem lex_first {l : List UInt8} {ts : List Tk} (h : LexTo l ts) : skipL l = l := by
  cases h with
  | nil => rfl
  | @cons _ t ts hne htok _ =>
    obtain ⟨c, r, rfl⟩ := List.exists_cons_of_ne_nil hne
    unfold tokT at htok
    rw [S_data] at htok
    simp only at htok
    have key : letC c = true ∨ digC c = true ∨ c = 59 ∨ c = 44 := by
      by_cases h1 : letC c = true
      · exact .inl h1
      by_cases h2 : digC c = true
      · exact .inr (.inl h2)
      by_cases h3 : c = 59 ∨ c = 44
      · exact .inr (.inr h3)
      rw [if_neg h1, if_neg h2, if_neg h3] at htok
      simp at htok
    refine skip_stop ?_ ?_
    · rw [Bool.eq_false_iff]
      intro hs
      have : c = 32 ∨ c = 9 ∨ c = 10 ∨ c = 13 := by simpa [spB] using hs
      rcases this with rfl | rfl | rfl | rfl <;> revert key <;> decide
    · rintro rfl
      revert key; decide
/-- a word of a text and the tokens that it is read as -/
def WOK (p : List UInt8 × List Tk) : Prop := ∀ (l : List UInt8) (ts : List Tk), (∀ c ∈ l.head?, nmC c = false) → LexTo (skipL l) ts → LexTo (p.1 ++ l) (p.2 ++ ts)
theorem lex_words : ∀ (w : List UInt8 × List Tk) (ws : List (List UInt8 × List Tk)), (∀ p ∈ w :: ws, WOK p) → WOK (Lib.join ((w :: ws).map (·.1)) [32], ((w :: ws).map (·.2)).flatten)
  | w, [], h => by
    intro l ts hl ht
    have := h w (by simp) l ts hl ht
    simpa [Lib.join_one] using this
  | w, x :: ws, h => by
    intro l ts hl ht
    have ih := lex_words x ws (fun p hp => h p (by simp [List.mem_cons.1 hp])) l ts hl ht
    have e : Lib.join ((w :: x :: ws).map (·.1)) [32] ++ l = w.1 ++ (32 :: (Lib.join ((x :: ws).map (·.1)) [32] ++ l)) := by
      simp only [List.map_cons]
      rw [Lib.join_cons, Lib.join_cons]; simp [Lib.joinTail]
    have h1 := h w (by simp) (32 :: (Lib.join ((x :: ws).map (·.1)) [32] ++ l)) _ (by intro c hc; simp at hc; subst hc; decide) (by
      rw [skip_blank, lex_first ih]; exact ih)
    show LexTo (Lib.join ((w :: x :: ws).map (·.1)) [32] ++ l) _
    rw [e]
    simpa using h1
/-- a word of letters, digits and underscores -/
def WordB (s : ByteArray) : Bool := !(bs s).isEmpty && (bs s).all nmC && (match (bs s).head? with | some c => letC c | none => false) && decide ((bs s).length ≤ 31)
theorem wordB_spec {s : ByteArray} (h : WordB s = true) : bs s ≠ [] ∧ (∀ c ∈ bs s, nmC c = true) ∧ (∀ c ∈ (bs s).head?, letC c = true) ∧ (bs s).length ≤ 31 := by
  unfold WordB at h
  simp only [Bool.and_eq_true, Bool.not_eq_true', decide_eq_true_eq, List.isEmpty_eq_false_iff] at h
  obtain ⟨⟨⟨h1, h2⟩, h3⟩, h4⟩ := h
  refine ⟨h1, List.all_eq_true.1 h2, ?_, h4⟩
  intro c hc
  rw [Option.mem_def] at hc
  rw [hc] at h3
  exact h3
def kd (s : ByteArray) : Int := if hasS keywords s then 2 else 1
def wordTk (s : ByteArray) : List UInt8 × List Tk := (bs s, [(kd s, s, 0)])
theorem wok_word {s : ByteArray} (h : WordB s = true) : WOK (wordTk s) := by
  intro l ts hl ht
  obtain ⟨h0, h1, h2, h3⟩ := wordB_spec h
  exact lex_word h0 h1 h2 h3 hl ht
theorem name_wordB {s : ByteArray} (h : isName s = true) : WordB s = true ∧ kd s = 1 := by
  obtain ⟨h0, h1, h2, h3, h4⟩ := name_word h
  refine ⟨?_, by unfold kd; rw [h4]; rfl⟩
  unfold WordB
  obtain ⟨c, r, e⟩ := List.exists_cons_of_ne_nil h0
  have hc := h2 c (by rw [e]; rfl)
  rw [List.all_eq_true.2 h1]
  rw [e] at h3 ⊢
  simp only [List.head?_cons, hc, List.isEmpty_cons, Bool.not_false, Bool.and_self, Bool.true_and, decide_eq_true_eq]
  exact h3
def numTk (n : Int) : List UInt8 × List Tk := (bs (itoaS n), [(3, itoaS n, n)])
theorem wok_num {n : Int} (h : numOk n = true) : WOK (numTk n) := fun _ _ hl ht => lex_num h hl ht
/-- the tokens of words that are separated by commas -/
def listTk : List ByteArray → List Tk
  | [] => []
  | [x] => [(kd x, x, 0)]
  | x :: y :: l => (kd x, x, 0) :: (4, S [44], 0) :: listTk (y :: l)
def commaTk (l : List ByteArray) : List UInt8 × List Tk := (bs (joinS l (⟨#[44, 32]⟩ : ByteArray)), listTk l)
theorem wok_list : ∀ (x : ByteArray) (l : List ByteArray), (x :: l).all WordB = true → WOK (commaTk (x :: l))
  | x, [], h => by
    intro l ts hl ht
    simp only [List.all_cons, List.all_nil, Bool.and_true] at h
    have := wok_word h l ts hl ht
    have e : bs (joinS [x] (⟨#[44, 32]⟩ : ByteArray)) = bs x := by
      show Lib.join [bs x] [44, 32] = bs x
      exact Lib.join_one _ _
    show LexTo (bs (joinS [x] (⟨#[44, 32]⟩ : ByteArray)) ++ l) _
    rw [e]
    exact this
  | x, y :: r, h => by
    intro l ts hl ht
    rw [List.all_cons, Bool.and_eq_true] at h
    have ih : LexTo (bs (joinS (y :: r) (⟨#[44, 32]⟩ : ByteArray)) ++ l) (listTk (y :: r) ++ ts) := wok_list y r h.2 l ts hl ht
    have e : bs (joinS (x :: y :: r) (⟨#[44, 32]⟩ : ByteArray)) ++ l = bs x ++ (44 :: 32 :: (bs (joinS (y :: r) (⟨#[44, 32]⟩ : ByteArray)) ++ l)) := by
      show Lib.join (bs x :: bs y :: r.map bs) [44, 32] ++ l = bs x ++ (44 :: 32 :: (Lib.join (bs y :: r.map bs) [44, 32] ++ l))
      rw [Lib.join_cons, Lib.join_cons]; simp [Lib.joinTail]
    have h1 := lex_sym (c := 44) (ts := listTk (y :: r) ++ ts) (l := 32 :: (bs (joinS (y :: r) (⟨#[44, 32]⟩ : ByteArray)) ++ l)) (.inr rfl) (by rw [skip_blank, lex_first ih]; exact ih)
    have h2 := wok_word h.1 (44 :: 32 :: (bs (joinS (y :: r) (⟨#[44, 32]⟩ : ByteArray)) ++ l)) ((4, S [44], 0) :: (listTk (y :: r) ++ ts)) (by intro c hc; simp at hc; subst hc; decide) (by rw [lex_first h1]; exact h1)
    show LexTo (bs (joinS (x :: y :: r) (⟨#[44, 32]⟩ : ByteArray)) ++ l) _
    rw [e]
    exact h2
theorem names_wordB {l : List ByteArray} (h : l.all isName = true) : l.all WordB = true := by
  rw [List.all_eq_true] at h ⊢
  exact fun s hs => (name_wordB (h s hs)).1

def loadP (nums : List Int) (j : Nat) : List (List UInt8 × List Tk) := [wordTk (⟨#[108, 111, 97, 100]⟩ : ByteArray), numTk (nums.getD j 0), wordTk (⟨#[115, 105, 122, 101]⟩ : ByteArray), numTk (nums.getD (j + 1) 0), wordTk (⟨#[115, 104, 97, 114, 101]⟩ : ByteArray), numTk (nums.getD (j + 2) 0)]
/-- the words of a declaration's text, each with its tokens -/
def wordsP (k : Int) (nm : ByteArray) (refs : List ByteArray) (nums : List Int) (bY : Int) (al : Bool) : List (List UInt8 × List Tk) :=
  if k = 0 ∨ k = 1 then [wordTk nm]
  else if k = 2 then [wordTk nm, wordTk (⟨#[105, 110]⟩ : ByteArray), wordTk (refs.getD 0 ByteArray.empty), wordTk (⟨#[111, 110]⟩ : ByteArray), wordTk (refs.getD 1 ByteArray.empty)]
  else if k = 3 then [wordTk nm, wordTk (⟨#[105, 110]⟩ : ByteArray), wordTk (refs.getD 0 ByteArray.empty), wordTk (⟨#[99, 97, 112, 97, 99, 105, 116, 121]⟩ : ByteArray), numTk (nums.getD 0 0)]
  else if k = 5 then [wordTk nm, wordTk (⟨#[111, 110]⟩ : ByteArray), commaTk refs] ++ loadP nums 0
  else if k = 6 then [wordTk nm, numTk (nums.getD 0 0), wordTk (⟨#[111, 110]⟩ : ByteArray), commaTk refs] ++ loadP nums 1
  else if k = 7 then [wordTk nm, wordTk (⟨#[111, 110]⟩ : ByteArray), wordTk (refs.getD 0 ByteArray.empty)] ++ loadP nums 0
  else if k = 8 then [wordTk (refs.getD 0 ByteArray.empty), wordTk (⟨#[115, 108, 111, 116, 115]⟩ : ByteArray), numTk (nums.getD 0 0), wordTk (⟨#[114, 101, 115, 101, 114, 118, 101]⟩ : ByteArray), numTk (nums.getD 1 0)]
  else if k = 9 then [commaTk (clsW bY.toNat)]
  else if k = 11 then refs.map wordTk ++ nums.map numTk ++ (if al then [wordTk (⟨#[97, 108, 119, 97, 121, 115]⟩ : ByteArray)] else [])
  else if k = 12 then [wordTk (refs.getD 0 ByteArray.empty), wordTk (⟨#[98, 121]⟩ : ByteArray), wordTk (domW bY), numTk (nums.getD 0 0)]
  else if k = 13 then [wordTk (refs.getD 0 ByteArray.empty), wordTk (⟨#[111, 110]⟩ : ByteArray), commaTk refs.tail]
  else if k = 14 then [wordTk (refs.getD 0 ByteArray.empty), wordTk (⟨#[98, 101, 102, 111, 114, 101]⟩ : ByteArray), wordTk (refs.getD 1 ByteArray.empty)]
  else refs.map wordTk ++ nums.map numTk
theorem loadP_ok {nums : List Int} (h : nums.all numOk = true) {j : Nat} (hj : j + 2 < nums.length) : ∀ p ∈ loadP nums j, WOK p := by
  intro p hp
  simp only [loadP, List.mem_cons, List.not_mem_nil, or_false] at hp
  rcases hp with rfl | rfl | rfl | rfl | rfl | rfl
  · exact wok_word (by decide)
  · exact wok_num (numAt h (by omega))
  · exact wok_word (by decide)
  · exact wok_num (numAt h (by omega))
  · exact wok_word (by decide)
  · exact wok_num (numAt h (by omega))
theorem names_ok {refs : List ByteArray} (h : refs.all isName = true) : ∀ p ∈ refs.map wordTk, WOK p := by
  intro p hp
  obtain ⟨s, hs, rfl⟩ := List.mem_map.1 hp
  exact wok_word (name_wordB (List.all_eq_true.1 h s hs)).1
theorem nums_ok {nums : List Int} (h : nums.all numOk = true) : ∀ p ∈ nums.map numTk, WOK p := by
  intro p hp
  obtain ⟨n, hn, rfl⟩ := List.mem_map.1 hp
  exact wok_num (List.all_eq_true.1 h n hn)
theorem cls_wordB {n : Int} (h1 : 1 ≤ n) (h7 : n ≤ 7) : (clsW n.toNat).all WordB = true ∧ clsW n.toNat ≠ [] := by
  have : n = 1 ∨ n = 2 ∨ n = 3 ∨ n = 4 ∨ n = 5 ∨ n = 6 ∨ n = 7 := by omega
  rcases this with rfl | rfl | rfl | rfl | rfl | rfl | rfl <;> decide
theorem dom_wordB {n : Int} (h1 : 2 ≤ n) (h7 : n ≤ 4) : WordB (domW n) = true := by
  have : n = 2 ∨ n = 3 ∨ n = 4 := by omega
  rcases this with rfl | rfl | rfl <;> decide
theorem wok_list' {l : List ByteArray} (h : l.all WordB = true) (hne : l ≠ []) : WOK (commaTk l) := by
  obtain ⟨x, r, rfl⟩ := List.exists_cons_of_ne_nil hne
  exact wok_list x r h
theorem all_mem {α : Type} {P : α → Prop} : (∀ p ∈ ([] : List α), P p) := by simp
theorem all_cons' {α : Type} {P : α → Prop} {a : α} {l : List α} (h1 : P a) (h2 : ∀ p ∈ l, P p) : ∀ p ∈ a :: l, P p := by
  intro p hp
  rcases List.mem_cons.1 hp with rfl | hp
  · exact h1
  · exact h2 p hp
theorem all_app {α : Type} {P : α → Prop} {a b : List α} (h1 : ∀ p ∈ a, P p) (h2 : ∀ p ∈ b, P p) : ∀ p ∈ a ++ b, P p := by
  intro p hp
  rcases List.mem_append.1 hp with hp | hp
  · exact h1 p hp
  · exact h2 p hp
theorem words_ok {k : Int} {f : Form} (hfm : form? k = some f) (nm : ByteArray) (refs : List ByteArray) (nums : List Int) (bY : Int) (al : Bool) (hv : validB k nm refs nums bY al = true) :
    (wordsP k nm refs nums bY al).map (·.1) = (wordsD k nm refs nums bY al).map bs ∧ (∀ p ∈ wordsP k nm refs nums bY al, WOK p) := by
  have hr : 0 ≤ k ∧ k < 17 := Classical.byContradiction fun hn => by rw [form_none hn] at hfm; cases hfm
  have hk : k = 0 ∨ k = 1 ∨ k = 2 ∨ k = 3 ∨ k = 4 ∨ k = 5 ∨ k = 6 ∨ k = 7 ∨ k = 8 ∨ k = 9 ∨ k = 10 ∨ k = 11 ∨ k = 12 ∨ k = 13 ∨ k = 14 ∨ k = 15 ∨ k = 16 := by omega
  rw [validB_form hfm] at hv
  simp only [Bool.and_eq_true, decide_eq_true_eq] at hv
  obtain ⟨⟨⟨⟨⟨⟨⟨h1, h2⟩, h3⟩, h4⟩, h5⟩, h6⟩, h7⟩, h8⟩ := hv
  have hplain := all_app (names_ok h7) (nums_ok h8)
  have hR : ∀ j, j < refs.length → WOK (wordTk (refs.getD j ByteArray.empty)) := fun j hj => by
    rw [List.getD_eq_getElem?_getD, List.getElem?_eq_getElem hj]
    exact wok_word (name_wordB (List.all_eq_true.1 h7 _ (List.getElem_mem hj))).1
  have hN : ∀ j, j < nums.length → WOK (numTk (nums.getD j 0)) := fun j hj => wok_num (numAt h8 hj)
  rcases hk with rfl | rfl | rfl | rfl | rfl | rfl | rfl | rfl | rfl | rfl | rfl | rfl | rfl | rfl | rfl | rfl | rfl
  all_goals
    obtain rfl : _ = f := Option.some.inj hfm
    simp only [if_true, Bool.false_eq_true, if_false, Bool.and_eq_true, decide_eq_true_eq] at h1 h2 h3 h4 h6
  · exact ⟨rfl, all_cons' (wok_word (name_wordB h6).1) all_mem⟩
  · exact ⟨rfl, all_cons' (wok_word (name_wordB h6).1) all_mem⟩
  · exact ⟨rfl, all_cons' (wok_word (name_wordB h6).1) (all_cons' (wok_word (by decide)) (all_cons' (hR 0 (by omega)) (all_cons' (wok_word (by decide)) (all_cons' (hR 1 (by omega)) all_mem))))⟩
  · exact ⟨rfl, all_cons' (wok_word (name_wordB h6).1) (all_cons' (wok_word (by decide)) (all_cons' (hR 0 (by omega)) (all_cons' (wok_word (by decide)) (all_cons' (hN 0 (by omega)) all_mem))))⟩
  · exact ⟨by simp [wordsP, wordsD]; rfl, hplain⟩
  · exact ⟨rfl, all_app (all_cons' (wok_word (name_wordB h6).1) (all_cons' (wok_word (by decide)) (all_cons' (wok_list' (names_wordB h7) (by intro h0; subst h0; simp at h1)) all_mem))) (loadP_ok h8 (by omega))⟩
  · exact ⟨rfl, all_app (all_cons' (wok_word (name_wordB h6).1) (all_cons' (hN 0 (by omega)) (all_cons' (wok_word (by decide)) (all_cons' (wok_list' (names_wordB h7) (by intro h0; subst h0; simp at h1)) all_mem)))) (loadP_ok h8 (by omega))⟩
  · exact ⟨rfl, all_app (all_cons' (wok_word (name_wordB h6).1) (all_cons' (wok_word (by decide)) (all_cons' (hR 0 (by omega)) all_mem))) (loadP_ok h8 (by omega))⟩
  · exact ⟨rfl, all_cons' (hR 0 (by omega)) (all_cons' (wok_word (by decide)) (all_cons' (hN 0 (by omega)) (all_cons' (wok_word (by decide)) (all_cons' (hN 1 (by omega)) all_mem))))⟩
  · exact ⟨rfl, all_cons' (wok_list' (cls_wordB h4.1 h4.2).1 (cls_wordB h4.1 h4.2).2) all_mem⟩
  · exact ⟨by simp [wordsP, wordsD]; rfl, hplain⟩
  · refine ⟨by cases al <;> simp [wordsP, wordsD, keepW] <;> rfl, all_app hplain ?_⟩
    cases al
    · exact all_mem
    · exact all_cons' (wok_word (by decide)) all_mem
  · exact ⟨rfl, all_cons' (hR 0 (by omega)) (all_cons' (wok_word (by decide)) (all_cons' (wok_word (dom_wordB h4.1 h4.2)) (all_cons' (hN 0 (by omega)) all_mem)))⟩
  · obtain ⟨r0, r1, rs, rfl⟩ : ∃ r0 r1 rs, refs = r0 :: r1 :: rs := by
      match refs, h1 with
      | r0 :: r1 :: rs, _ => exact ⟨_, _, _, rfl⟩
    rw [List.all_cons, Bool.and_eq_true] at h7
    exact ⟨rfl, all_cons' (hR 0 (by omega)) (all_cons' (wok_word (by decide)) (all_cons' (wok_list' (names_wordB h7.2) (by simp)) all_mem))⟩
  · exact ⟨rfl, all_cons' (hR 0 (by omega)) (all_cons' (wok_word (by decide)) (all_cons' (hR 1 (by omega)) all_mem))⟩
  · exact ⟨by simp [wordsP, wordsD]; rfl, hplain⟩
  · exact ⟨by simp [wordsP, wordsD]; rfl, hplain⟩
/-- the tokens of a valid declaration's text -/
def textTk (d : Decl) : List Tk := (2, kindName d.kind, 0) :: ((wordsP d.kind d.name d.refs d.nums d.by_ d.always).map (·.2)).flatten ++ [(4, S [59], 0)]
theorem word_kw {k : Int} {f : Form} (hfm : form? k = some f) : WordB f.word = true ∧ kd f.word = 2 := by
  have hr : 0 ≤ k ∧ k < 17 := Classical.byContradiction fun hn => by rw [form_none hn] at hfm; cases hfm
  have hk : k = 0 ∨ k = 1 ∨ k = 2 ∨ k = 3 ∨ k = 4 ∨ k = 5 ∨ k = 6 ∨ k = 7 ∨ k = 8 ∨ k = 9 ∨ k = 10 ∨ k = 11 ∨ k = 12 ∨ k = 13 ∨ k = 14 ∨ k = 15 ∨ k = 16 := by omega
  rcases hk with rfl | rfl | rfl | rfl | rfl | rfl | rfl | rfl | rfl | rfl | rfl | rfl | rfl | rfl | rfl | rfl | rfl
  all_goals
    obtain rfl : _ = f := Option.some.inj hfm
    decide
theorem text_lex {d : Decl} (h : okD d = true) : LexTo (bs (textD d)) (textTk d) := by
  have h' := h
  unfold okD at h'
  cases hfm : form? d.kind with
  | none => rw [validB_none hfm] at h'; cases h'
  | some f =>
    obtain ⟨w1, w2⟩ := words_ok hfm _ _ _ _ _ h'
    have hkw := word_kw hfm
    have hkn : kindName d.kind = f.word := by unfold kindName; rw [hfm]
    have hb : bs (textD d) = Lib.join ((wordTk f.word :: wordsP d.kind d.name d.refs d.nums d.by_ d.always).map (·.1)) [32] ++ [59] := by
      rw [List.map_cons, w1]
      have hne := words_ne hfm _ _ _ _ _ h'
      obtain ⟨w, ws, e⟩ := List.exists_cons_of_ne_nil hne
      unfold textD textB textS
      rw [h', hfm, e, List.map_cons, Lib.join_cons]
      simp [bs, wordTk, ByteArray.data_append, joinS, S, Lib.joinTail, Lib.join_cons]
      rfl
    have hend : LexTo (skipL [59]) [(4, S [59], 0)] := by
      have := lex_sym (c := 59) (l := []) (ts := []) (.inl rfl) LexTo.nil
      rw [lex_first this]; exact this
    have := lex_words (wordTk f.word) _ (all_cons' (wok_word hkw.1) w2) [59] [(4, S [59], 0)] (by intro c hc; simp at hc; subst hc; decide) hend
    rw [hb]
    unfold textTk
    rw [hkn, ← hkw.2]
    simpa [wordTk] using this
end Go.Proofs.YtanhkeeifnimgaaGreatDoor
