/- Plain Lean: the names and the numbers among the tokens of a valid declaration's text. No program in sight. Conditions: none. -/
import Derived.Test.YtanhkeeifnimgaaGreatDoorTok17
namespace Go.Proofs.YtanhkeeifnimgaaGreatDoor
open Go Go.RowKit Go.Proofs

def nmsT (l : List Tk) : List ByteArray := (l.filter (fun t => decide (t.1 = 1))).map (·.2.1)
def nusT (l : List Tk) : List Int := (l.filter (fun t => decide (t.1 = 3))).map (·.2.2)
theorem nms_app (a b : List Tk) : nmsT (a ++ b) = nmsT a ++ nmsT b := by simp [nmsT]
theorem nus_app (a b : List Tk) : nusT (a ++ b) = nusT a ++ nusT b := by simp [nusT]
theorem nms_nil : nmsT [] = [] := rfl
theorem nus_nil : nusT [] = [] := rfl
theorem nms_name {s : ByteArray} (h : isName s = true) : nmsT (wordTk s).2 = [s] := by
  have := (name_wordB h).2
  simp [nmsT, wordTk, this]
theorem nms_kw {s : ByteArray} (h : kd s = 2) : nmsT (wordTk s).2 = [] := by simp [nmsT, wordTk, h]
theorem kd_ne (s : ByteArray) : kd s = 1 ∨ kd s = 2 := by unfold kd; split <;> simp
theorem nus_word (s : ByteArray) : nusT (wordTk s).2 = [] := by
  rcases kd_ne s with h | h <;> simp [nusT, wordTk, h]
theorem nms_num (n : Int) : nmsT (numTk n).2 = [] := by simp [nmsT, numTk]
theorem nus_num (n : Int) : nusT (numTk n).2 = [n] := by simp [nusT, numTk]
theorem nms_list : ∀ l : List ByteArray, l.all isName = true → nmsT (listTk l) = l
  | [], _ => rfl
  | [x], h => by
    simp only [List.all_cons, List.all_nil, Bool.and_true] at h
    exact nms_name h
  | x :: y :: l, h => by
    rw [List.all_cons, Bool.and_eq_true] at h
    have ih := nms_list (y :: l) h.2
    have e : listTk (x :: y :: l) = (wordTk x).2 ++ ([(4, S [44], 0)] ++ listTk (y :: l)) := rfl
    rw [e, nms_app, nms_app, ih, nms_name h.1]
    rfl
theorem nms_klist : ∀ l : List ByteArray, l.all (fun s => decide (kd s = 2)) = true → nmsT (listTk l) = []
  | [], _ => rfl
  | [x], h => by
    simp only [List.all_cons, List.all_nil, Bool.and_true, decide_eq_true_eq] at h
    exact nms_kw h
  | x :: y :: l, h => by
    rw [List.all_cons, Bool.and_eq_true] at h
    have ih := nms_klist (y :: l) h.2
    have e : listTk (x :: y :: l) = (wordTk x).2 ++ ([(4, S [44], 0)] ++ listTk (y :: l)) := rfl
    rw [e, nms_app, nms_app, ih, nms_kw (by simpa using h.1)]
    rfl
theorem nus_list : ∀ l : List ByteArray, nusT (listTk l) = []
  | [] => rfl
  | [x] => nus_word x
  | x :: y :: l => by
    have ih := nus_list (y :: l)
    have e : listTk (x :: y :: l) = (wordTk x).2 ++ ([(4, S [44], 0)] ++ listTk (y :: l)) := rfl
    rw [e, nus_app, nus_app, ih, nus_word]
    rfl
theorem cls_kw {n : Int} (h1 : 1 ≤ n) (h7 : n ≤ 7) : (clsW n.toNat).all (fun s => decide (kd s = 2)) = true := by
  have : n = 1 ∨ n = 2 ∨ n = 3 ∨ n = 4 ∨ n = 5 ∨ n = 6 ∨ n = 7 := by omega
  rcases this with rfl | rfl | rfl | rfl | rfl | rfl | rfl <;> decide
theorem dom_kw {n : Int} (h1 : 2 ≤ n) (h7 : n ≤ 4) : kd (domW n) = 2 := by
  have : n = 2 ∨ n = 3 ∨ n = 4 := by omega
  rcases this with rfl | rfl | rfl <;> decide
theorem nms_names : ∀ l : List ByteArray, l.all isName = true → nmsT ((l.map wordTk).map (·.2)).flatten = l
  | [], _ => rfl
  | x :: l, h => by
    rw [List.all_cons, Bool.and_eq_true] at h
    rw [List.map_cons, List.map_cons, List.flatten_cons, nms_app, nms_name h.1, nms_names l h.2]; rfl
theorem nus_names : ∀ l : List ByteArray, nusT ((l.map wordTk).map (·.2)).flatten = []
  | [] => rfl
  | x :: l => by rw [List.map_cons, List.map_cons, List.flatten_cons, nus_app, nus_word, nus_names l]; rfl
theorem nms_nums : ∀ l : List Int, nmsT ((l.map numTk).map (·.2)).flatten = []
  | [] => rfl
  | x :: l => by rw [List.map_cons, List.map_cons, List.flatten_cons, nms_app, nms_num, nms_nums l]; rfl
theorem nus_nums : ∀ l : List Int, nusT ((l.map numTk).map (·.2)).flatten = l
  | [] => rfl
  | x :: l => by rw [List.map_cons, List.map_cons, List.flatten_cons, nus_app, nus_num, nus_nums l]; rfl
theorem name_ne {s : ByteArray} (h : isName s = true) : s.toList.isEmpty = false := by
  cases he : s.toList.isEmpty
  · rfl
  · have := (isEmpty_iff s).1 he
    have h1 := (name_word h).1
    exact absurd (List.eq_nil_of_length_eq_zero (show (bs s).length = 0 from this)) h1

theorem parts_of {d : Decl} (h : okD d = true) : nmsT (textTk d) = (if d.name.toList.isEmpty then [] else [d.name]) ++ d.refs ∧ nusT (textTk d) = d.nums := by
  obtain ⟨k, nm, refs, nums, bY, al⟩ := d
  have hv := h
  unfold okD at hv
  simp only at hv
  cases hfm : form? k with
  | none => rw [validB_none hfm] at hv; cases hv
  | some f =>
  have hr : 0 ≤ k ∧ k < 17 := Classical.byContradiction fun hn => by rw [form_none hn] at hfm; cases hfm
  have hk : k = 0 ∨ k = 1 ∨ k = 2 ∨ k = 3 ∨ k = 4 ∨ k = 5 ∨ k = 6 ∨ k = 7 ∨ k = 8 ∨ k = 9 ∨ k = 10 ∨ k = 11 ∨ k = 12 ∨ k = 13 ∨ k = 14 ∨ k = 15 ∨ k = 16 := by omega
  rw [validB_form hfm] at hv
  simp only [Bool.and_eq_true, decide_eq_true_eq] at hv
  obtain ⟨⟨⟨⟨⟨⟨⟨h1, h2⟩, h3⟩, h4⟩, h5⟩, h6⟩, h7⟩, h8⟩ := hv
  have hsplit : ∀ ws : List Tk, nmsT ((2, kindName k, 0) :: ws ++ [(4, S [59], 0)]) = nmsT ws ∧ nusT ((2, kindName k, 0) :: ws ++ [(4, S [59], 0)]) = nusT ws := fun ws => by
    have e : (2, kindName k, 0) :: ws ++ [(4, S [59], 0)] = [((2 : Int), kindName k, (0 : Int))] ++ (ws ++ [((4 : Int), S [59], (0 : Int))]) := rfl
    rw [e, nms_app, nms_app, nus_app, nus_app]
    refine ⟨?_, ?_⟩
    · show [] ++ (nmsT ws ++ []) = _; simp
    · show [] ++ (nusT ws ++ []) = _; simp
  have hT : textTk ⟨k, nm, refs, nums, bY, al⟩ = (2, kindName k, 0) :: ((wordsP k nm refs nums bY al).map (·.2)).flatten ++ [(4, S [59], 0)] := rfl
  rw [hT, (hsplit _).1, (hsplit _).2]
  clear hT hsplit h
  have hkw : ∀ s ∈ ([(⟨#[105, 110]⟩ : ByteArray), (⟨#[111, 110]⟩ : ByteArray), (⟨#[99, 97, 112, 97, 99, 105, 116, 121]⟩ : ByteArray), (⟨#[108, 111, 97, 100]⟩ : ByteArray), (⟨#[115, 105, 122, 101]⟩ : ByteArray), (⟨#[115, 104, 97, 114, 101]⟩ : ByteArray), (⟨#[115, 108, 111, 116, 115]⟩ : ByteArray), (⟨#[114, 101, 115, 101, 114, 118, 101]⟩ : ByteArray), (⟨#[98, 121]⟩ : ByteArray), (⟨#[98, 101, 102, 111, 114, 101]⟩ : ByteArray), (⟨#[97, 108, 119, 97, 121, 115]⟩ : ByteArray)] : List ByteArray), kd s = 2 := by decide
  rcases hk with rfl | rfl | rfl | rfl | rfl | rfl | rfl | rfl | rfl | rfl | rfl | rfl | rfl | rfl | rfl | rfl | rfl
  all_goals
    obtain rfl : _ = f := Option.some.inj hfm
    simp only [if_true, Bool.false_eq_true, if_false, Bool.and_eq_true, decide_eq_true_eq] at h1 h2 h3 h4 h6
    try (have hq : nums.length = 0 := (by omega); obtain rfl := len0 hq)
    try (have hq : nums.length = 1 := (by omega); obtain ⟨n0, rfl⟩ := len1 hq)
    try (have hq : nums.length = 2 := (by omega); obtain ⟨n0, n1, rfl⟩ := len2 hq)
    try (have hq : nums.length = 3 := (by omega); obtain ⟨n0, n1, n2, rfl⟩ := len3 hq)
    try (have hq : nums.length = 4 := (by omega); obtain ⟨n0, n1, n2, n3, rfl⟩ := len4 hq)
    try (have hq : refs.length = 0 := (by omega); obtain rfl := len0 hq)
    try (have hq : refs.length = 1 := (by omega); obtain ⟨r0, rfl⟩ := len1 hq)
    try (have hq : refs.length = 2 := (by omega); obtain ⟨r0, r1, rfl⟩ := len2 hq)
    try simp only [List.all_cons, List.all_nil, Bool.and_true, Bool.and_eq_true] at h7
    try have hne := name_ne h6
  all_goals have w0 : nmsT (wordTk (⟨#[105, 110]⟩ : ByteArray)).2 = [] := nms_kw (by decide)
  all_goals have w1 : nmsT (wordTk (⟨#[111, 110]⟩ : ByteArray)).2 = [] := nms_kw (by decide)
  all_goals have w2 : nmsT (wordTk (⟨#[99, 97, 112, 97, 99, 105, 116, 121]⟩ : ByteArray)).2 = [] := nms_kw (by decide)
  all_goals have w3 : nmsT (wordTk (⟨#[108, 111, 97, 100]⟩ : ByteArray)).2 = [] := nms_kw (by decide)
  all_goals have w4 : nmsT (wordTk (⟨#[115, 105, 122, 101]⟩ : ByteArray)).2 = [] := nms_kw (by decide)
  all_goals have w5 : nmsT (wordTk (⟨#[115, 104, 97, 114, 101]⟩ : ByteArray)).2 = [] := nms_kw (by decide)
  all_goals have w6 : nmsT (wordTk (⟨#[115, 108, 111, 116, 115]⟩ : ByteArray)).2 = [] := nms_kw (by decide)
  all_goals have w7 : nmsT (wordTk (⟨#[114, 101, 115, 101, 114, 118, 101]⟩ : ByteArray)).2 = [] := nms_kw (by decide)
  all_goals have w8 : nmsT (wordTk (⟨#[98, 121]⟩ : ByteArray)).2 = [] := nms_kw (by decide)
  all_goals have w9 : nmsT (wordTk (⟨#[98, 101, 102, 111, 114, 101]⟩ : ByteArray)).2 = [] := nms_kw (by decide)
  all_goals have w10 : nmsT (wordTk (⟨#[97, 108, 119, 97, 121, 115]⟩ : ByteArray)).2 = [] := nms_kw (by decide)
  · simp [wordsP, nus_word, nms_name h6, hne]
  · simp [wordsP, nus_word, nms_name h6, hne]
  · simp [wordsP, nms_app, nus_app, nus_word, w0, w1, nms_name h6, hne, nms_name h7.1, nms_name h7.2]
  · simp [wordsP, nms_app, nus_app, nus_word, nms_num, nus_num, w0, w2, nms_name h6, hne, nms_name h7]
  · have en := empty_of (by simpa using h6)
    subst en
    exact ⟨by simp [wordsP, nms_app, nms_name h7.1, nms_name h7.2, nms_num], by simp [wordsP, nus_app, nus_word, nus_num]⟩
  · simp [wordsP, loadP, nms_app, nus_app, nus_word, nms_num, nus_num, w1, w3, w4, w5, nms_name h6, hne, commaTk, nms_list _ h7, nus_list]
  · simp [wordsP, loadP, nms_app, nus_app, nus_word, nms_num, nus_num, w1, w3, w4, w5, nms_name h6, hne, commaTk, nms_list _ h7, nus_list]
  · simp [wordsP, loadP, nms_app, nus_app, nus_word, nms_num, nus_num, w1, w3, w4, w5, nms_name h6, hne, nms_name h7]
  · have en := empty_of (by simpa using h6)
    subst en
    simp [wordsP, nms_app, nus_app, nus_word, nms_num, nus_num, w6, w7, nms_name h7]
  · have en := empty_of (by simpa using h6)
    subst en
    simp [wordsP, commaTk, nms_klist _ (cls_kw h4.1 h4.2), nus_list]
  · have en := empty_of (by simpa using h6)
    subst en
    simp [wordsP, nus_word, nms_name h7]
  · have en := empty_of (by simpa using h6)
    subst en
    cases al <;> simp [wordsP, nms_app, nus_app, nus_word, nms_num, nus_num, w10, nms_name h7]
  · have en := empty_of (by simpa using h6)
    subst en
    simp [wordsP, nms_app, nus_app, nus_word, nms_num, nus_num, w8, nms_name h7, nms_kw (dom_kw h4.1 h4.2)]
  · have en := empty_of (by simpa using h6)
    subst en
    obtain ⟨r0, r1, rs, rfl⟩ : ∃ r0 r1 rs, refs = r0 :: r1 :: rs := by
      match refs, h1 with
      | r0 :: r1 :: rs, _ => exact ⟨_, _, _, rfl⟩
    rw [List.all_cons, Bool.and_eq_true] at h7
    simp [wordsP, nms_app, nus_app, nus_word, w1, commaTk, nms_name h7.1, nms_list _ h7.2, nus_list]
  · have en := empty_of (by simpa using h6)
    subst en
    simp [wordsP, nms_app, nus_app, nus_word, w9, nms_name h7.1, nms_name h7.2]
  · have en := empty_of (by simpa using h6)
    subst en
    simp [wordsP, nms_num, nus_num]
  · have en := empty_of (by simpa using h6)
    subst en
    simp [wordsP, nms_app, nus_app, nus_word, nms_num, nus_num, nms_name h7]
end Go.Proofs.YtanhkeeifnimgaaGreatDoor
