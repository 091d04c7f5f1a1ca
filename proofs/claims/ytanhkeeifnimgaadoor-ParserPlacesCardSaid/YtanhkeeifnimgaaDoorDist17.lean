/- Plain Lean: valid declarations with the same text are equal. No program in sight. Conditions: none. -/
import Derived.Test.YtanhkeeifnimgaaDoorSyn17u
import Derived.Test.YtanhkeeifnimgaaDoorText17
namespace Go.Proofs.YtanhkeeifnimgaaDoor
open Go Go.RowKit Go.Proofs

/-- the pieces of a text between its blanks -/
def sp : List UInt8 → List (List UInt8)
  | [] => [[]]
  | c :: t => if c = 32 then [] :: sp t else match sp t with
    | [] => [[c]]
    | h :: r => (c :: h) :: r
theorem sp_ne (l : List UInt8) : ∃ h r, sp l = h :: r := by
  induction l with
  | nil => exact ⟨_, _, rfl⟩
  | cons c t ih =>
    obtain ⟨h, r, e⟩ := ih
    unfold sp
    split
    · exact ⟨_, _, rfl⟩
    · rw [e]; exact ⟨_, _, rfl⟩
theorem sp_free {x : List UInt8} (h : 32 ∉ x) : sp x = [x] := by
  induction x with
  | nil => rfl
  | cons c t ih =>
    simp only [List.mem_cons, not_or] at h
    unfold sp
    rw [if_neg (fun e => h.1 e.symm), ih h.2]
theorem sp_append (x y : List UInt8) : sp (x ++ 32 :: y) = sp x ++ sp y := by
  induction x with
  | nil => simp [sp]
  | cons c t ih =>
    rw [List.cons_append]
    obtain ⟨h, r, e⟩ := sp_ne t
    by_cases hc : c = 32
    · simp only [sp, if_pos hc, ih, List.cons_append]
    · simp only [sp, if_neg hc, ih, e, List.cons_append]
theorem sp_join (w : List UInt8) (ws : List (List UInt8)) : sp (Lib.join (w :: ws) [32]) = (w :: ws).flatMap sp := by
  induction ws generalizing w with
  | nil => simp [Lib.join_one]
  | cons x xs ih =>
    have e : Lib.join (w :: x :: xs) [32] = w ++ 32 :: Lib.join (x :: xs) [32] := by rw [Lib.join_cons, Lib.join_cons]; simp [Lib.joinTail]
    rw [e, sp_append, ih]
    simp
/-- a list of names, each but the last one with a comma -/
def commas : List (List UInt8) → List (List UInt8)
  | [] => []
  | [x] => [x]
  | x :: y :: l => (x ++ [44]) :: commas (y :: l)
theorem join_commas : ∀ l : List (List UInt8), Lib.join l [44, 32] = Lib.join (commas l) [32]
  | [] => rfl
  | [x] => by simp [commas, Lib.join_one]
  | x :: y :: l => by
    have ih := join_commas (y :: l)
    have e1 : Lib.join (x :: y :: l) [44, 32] = x ++ [44, 32] ++ Lib.join (y :: l) [44, 32] := by rw [Lib.join_cons, Lib.join_cons]; simp [Lib.joinTail]
    obtain ⟨h, r, e⟩ : ∃ h r, commas (y :: l) = h :: r := by
      cases l <;> exact ⟨_, _, rfl⟩
    have e2 : Lib.join (commas (x :: y :: l)) [32] = x ++ [44] ++ [32] ++ Lib.join (commas (y :: l)) [32] := by
      show Lib.join ((x ++ [44]) :: commas (y :: l)) [32] = _
      rw [e, Lib.join_cons, Lib.join_cons]; simp [Lib.joinTail]
    rw [e1, e2, ih]; simp
theorem commas_len : ∀ l : List (List UInt8), (commas l).length = l.length
  | [] => rfl
  | [_] => rfl
  | _ :: y :: l => by simp [commas, commas_len (y :: l)]
theorem commas_free : ∀ l : List (List UInt8), (∀ x ∈ l, 32 ∉ x) → ∀ x ∈ commas l, 32 ∉ x
  | [], _ => by simp [commas]
  | [x], h => by simpa [commas] using h
  | x :: y :: l, h => by
    intro z hz
    rcases List.mem_cons.1 hz with rfl | hz
    · have := h x (by simp)
      simp [this]
    · exact commas_free (y :: l) (fun u hu => h u (by simp [List.mem_cons.1 hu])) z hz
theorem commas_inj : ∀ l m : List (List UInt8), (∀ x ∈ l, 44 ∉ x) → (∀ x ∈ m, 44 ∉ x) → commas l = commas m → l = m
  | [], m, _, _, h => by
    have := congrArg List.length h
    rw [commas_len, commas_len] at this
    exact (List.eq_nil_of_length_eq_zero this.symm).symm
  | [x], m, _, _, h => by
    have := congrArg List.length h
    rw [commas_len, commas_len] at this
    match m, this with
    | [y], _ => simpa [commas] using h
  | x :: y :: l, m, h1, h2, h => by
    have hl := congrArg List.length h
    rw [commas_len, commas_len] at hl
    match m, hl with
    | u :: v :: m', _ =>
      simp only [commas, List.cons.injEq] at h
      have := commas_inj (y :: l) (v :: m') (fun z hz => h1 z (by simp [List.mem_cons.1 hz])) (fun z hz => h2 z (by simp [List.mem_cons.1 hz])) h.2
      rw [List.append_cancel_right h.1, this]
theorem flat_free : ∀ l : List (List UInt8), (∀ x ∈ l, 32 ∉ x) → l.flatMap sp = l
  | [], _ => rfl
  | x :: l, h => by rw [List.flatMap_cons, sp_free (h x (by simp)), flat_free l (fun y hy => h y (by simp [hy]))]; rfl
theorem sp_commas {l : List (List UInt8)} (h : ∀ x ∈ l, 32 ∉ x) (hne : l ≠ []) : sp (Lib.join l [44, 32]) = commas l := by
  have hf := commas_free l h
  rw [join_commas]
  obtain ⟨a, r, e⟩ : ∃ a r, commas l = a :: r := by
    match l, hne with
    | [x], _ => exact ⟨_, _, rfl⟩
    | x :: y :: l, _ => exact ⟨_, _, rfl⟩
  rw [e, sp_join, ← e]
  exact flat_free _ hf

/-- the value of digits -/
def valD (l : List UInt8) : Nat := l.foldl (fun n c => 10 * n + (c.toNat - 48)) 0
theorem valD_digits (u : Nat) : valD (Lib.decDigits u) = u := by
  induction u using Nat.strongRecOn with
  | _ u ih =>
    by_cases h : u < 10
    · rw [Lib.decDigits, dif_pos h]
      simp [valD, UInt8.toNat_ofNat']; omega
    · rw [Lib.decDigits, dif_neg h]
      have := ih (u / 10) (by omega)
      unfold valD at this ⊢
      rw [List.foldl_append, this]
      simp [UInt8.toNat_ofNat']; omega
theorem digits_range (u : Nat) : ∀ c ∈ Lib.decDigits u, 48 ≤ c.toNat ∧ c.toNat ≤ 57 := by
  induction u using Nat.strongRecOn with
  | _ u ih =>
    by_cases h : u < 10
    · rw [Lib.decDigits, dif_pos h]
      intro c hc
      obtain rfl := List.mem_singleton.1 hc
      simp [UInt8.toNat_ofNat']; omega
    · rw [Lib.decDigits, dif_neg h]
      intro c hc
      rcases List.mem_append.1 hc with hc | hc
      · exact ih (u / 10) (by omega) c hc
      · obtain rfl := List.mem_singleton.1 hc
        simp [UInt8.toNat_ofNat']; omega
def bs (s : ByteArray) : List UInt8 := s.data.toList
theorem bs_inj {a b : ByteArray} (h : bs a = bs b) : a = b := by
  rw [← data_S a, ← data_S b]; exact congrArg S h
theorem bs_itoa {n : Int} (h : numOk n = true) : bs (itoaS n) = Lib.decDigits n.toNat := by
  simp only [numOk, Bool.and_eq_true, decide_eq_true_eq] at h
  show Lib.itoa n = _
  unfold Lib.itoa; rw [if_neg (by omega)]
theorem itoa_inj {m n : Int} (hm : numOk m = true) (hn : numOk n = true) (h : bs (itoaS m) = bs (itoaS n)) : m = n := by
  rw [bs_itoa hm, bs_itoa hn] at h
  have := congrArg valD h
  rw [valD_digits, valD_digits] at this
  simp only [numOk, Bool.and_eq_true, decide_eq_true_eq] at hm hn
  omega
theorem itoa_free {n : Int} (h : numOk n = true) : 32 ∉ bs (itoaS n) := by
  rw [bs_itoa h]
  intro hc
  have := digits_range _ _ hc
  simp at this
theorem name_chars {s : ByteArray} (h : isName s = true) : 32 ∉ bs s ∧ 44 ∉ bs s := by
  unfold isName at h
  simp only [Bool.and_eq_true] at h
  have ha := List.all_eq_true.1 h.2
  exact ⟨fun hc => by have := ha _ hc; revert this; decide, fun hc => by have := ha _ hc; revert this; decide⟩

/-- the pieces of a declaration's text behind the first word -/
def pieces (d : Decl) : List (List UInt8) := ((wordsD d.kind d.name d.refs d.nums d.by_ d.always).map bs).flatMap sp
theorem words_ne {k : Int} {f : Form} (hfm : form? k = some f) (nm : ByteArray) (refs : List ByteArray) (nums : List Int) (bY : Int) (al : Bool) (hv : validB k nm refs nums bY al = true) : wordsD k nm refs nums bY al ≠ [] := by
  have hr : 0 ≤ k ∧ k < 17 := Classical.byContradiction fun hn => by rw [form_none hn] at hfm; cases hfm
  have hk : k = 0 ∨ k = 1 ∨ k = 2 ∨ k = 3 ∨ k = 4 ∨ k = 5 ∨ k = 6 ∨ k = 7 ∨ k = 8 ∨ k = 9 ∨ k = 10 ∨ k = 11 ∨ k = 12 ∨ k = 13 ∨ k = 14 ∨ k = 15 ∨ k = 16 := by omega
  rw [validB_form hfm] at hv
  simp only [Bool.and_eq_true, decide_eq_true_eq] at hv
  obtain ⟨⟨⟨⟨⟨⟨⟨h1, h2⟩, h3⟩, h4⟩, h5⟩, h6⟩, h7⟩, h8⟩ := hv
  intro he
  have hl := congrArg List.length he
  rcases hk with rfl | rfl | rfl | rfl | rfl | rfl | rfl | rfl | rfl | rfl | rfl | rfl | rfl | rfl | rfl | rfl | rfl
  all_goals
    obtain rfl : _ = f := Option.some.inj hfm
    simp [wordsD, loadW, keepW] at hl
    try (obtain ⟨rfl, rfl⟩ := hl)
    try (obtain ⟨rfl, rfl, _⟩ := hl)
    try (simp at h1 h3; done)
theorem word_free {k : Int} {f : Form} (hfm : form? k = some f) : 32 ∉ bs f.word := by
  have hr : 0 ≤ k ∧ k < 17 := Classical.byContradiction fun hn => by rw [form_none hn] at hfm; cases hfm
  have hk : k = 0 ∨ k = 1 ∨ k = 2 ∨ k = 3 ∨ k = 4 ∨ k = 5 ∨ k = 6 ∨ k = 7 ∨ k = 8 ∨ k = 9 ∨ k = 10 ∨ k = 11 ∨ k = 12 ∨ k = 13 ∨ k = 14 ∨ k = 15 ∨ k = 16 := by omega
  rcases hk with rfl | rfl | rfl | rfl | rfl | rfl | rfl | rfl | rfl | rfl | rfl | rfl | rfl | rfl | rfl | rfl | rfl
  all_goals
    obtain rfl : _ = f := Option.some.inj hfm
    decide
theorem word_inj {k j : Int} {f g : Form} (hf : form? k = some f) (hg : form? j = some g) (h : bs f.word = bs g.word) : k = j := by
  have hr : 0 ≤ k ∧ k < 17 := Classical.byContradiction fun hn => by rw [form_none hn] at hf; cases hf
  have hr2 : 0 ≤ j ∧ j < 17 := Classical.byContradiction fun hn => by rw [form_none hn] at hg; cases hg
  have key : ∀ a b : Fin 17, (form? (a.val : Int)).map (fun f => bs f.word) = (form? (b.val : Int)).map (fun f => bs f.word) → a = b := by decide +kernel
  have := key ⟨k.toNat, by omega⟩ ⟨j.toNat, by omega⟩ (by
    rw [show ((⟨k.toNat, by omega⟩ : Fin 17).val : Int) = k by simp; omega, show ((⟨j.toNat, by omega⟩ : Fin 17).val : Int) = j by simp; omega, hf, hg]
    simp [h])
  have := congrArg Fin.val this
  simp at this; omega
theorem text_pieces {d : Decl} (h : okD d = true) : ∃ f, form? d.kind = some f ∧ ∃ t, bs (textD d) = t ++ [59] ∧ sp t = bs f.word :: pieces d := by
  have h' := h
  unfold okD at h'
  cases hfm : form? d.kind with
  | none => rw [validB_none hfm] at h'; cases h'
  | some f =>
    have hne := words_ne hfm _ _ _ _ _ h'
    obtain ⟨w, ws, e⟩ := List.exists_cons_of_ne_nil hne
    refine ⟨f, rfl, Lib.join (bs f.word :: bs w :: ws.map bs) [32], ?_, ?_⟩
    · unfold textD textB textS
      rw [h', hfm, e, Lib.join_cons]
      simp [bs, ByteArray.data_append, joinS, S, Lib.joinTail, Lib.join_cons]
      rfl
    · rw [sp_join, List.flatMap_cons, sp_free (word_free hfm)]
      unfold pieces
      rw [e]
      rfl
theorem text_split {a b : Decl} (ha : okD a = true) (hb : okD b = true) (h : textD a = textD b) : a.kind = b.kind ∧ pieces a = pieces b := by
  obtain ⟨f, hf, t, e1, e2⟩ := text_pieces ha
  obtain ⟨g, hg, u, e3, e4⟩ := text_pieces hb
  rw [h, e3] at e1
  have := List.append_cancel_right e1
  rw [this, e2] at e4
  simp only [List.cons.injEq] at e4
  exact ⟨word_inj hf hg e4.1, e4.2⟩

theorem empty_of {nm : ByteArray} (h : nm.toList.isEmpty = true) : nm = ⟨#[]⟩ := by
  have := (isEmpty_iff nm).1 h
  rw [ByteArray.ext_iff]
  exact Array.eq_empty_of_size_eq_zero this
theorem sp_name {s : ByteArray} (h : isName s = true) : sp (bs s) = [bs s] := sp_free (name_chars h).1
theorem sp_num {n : Int} (h : numOk n = true) : sp (bs (itoaS n)) = [bs (itoaS n)] := sp_free (itoa_free h)
theorem sp_refs {refs : List ByteArray} (h : refs.all isName = true) (hne : refs ≠ []) : sp (bs (joinS refs (⟨#[44, 32]⟩ : ByteArray))) = commas (refs.map bs) := by
  refine sp_commas (l := refs.map bs) ?_ (by simpa using hne)
  intro x hx
  obtain ⟨s, hs, rfl⟩ := List.mem_map.1 hx
  exact (name_chars (List.all_eq_true.1 h s hs)).1
theorem refs_inj {l m : List ByteArray} (h1 : l.all isName = true) (h2 : m.all isName = true) (h : commas (l.map bs) = commas (m.map bs)) : l = m := by
  have := commas_inj _ _ (by
    intro x hx
    obtain ⟨s, hs, rfl⟩ := List.mem_map.1 hx
    exact (name_chars (List.all_eq_true.1 h1 s hs)).2) (by
    intro x hx
    obtain ⟨s, hs, rfl⟩ := List.mem_map.1 hx
    exact (name_chars (List.all_eq_true.1 h2 s hs)).2) h
  exact List.map_inj_right (fun _ _ h => bs_inj h) |>.1 this
theorem cls_inj {m n : Int} (h1 : 1 ≤ m) (h7 : m ≤ 7) (h1' : 1 ≤ n) (h7' : n ≤ 7) (h : sp (bs (joinS (clsW m.toNat) (⟨#[44, 32]⟩ : ByteArray))) = sp (bs (joinS (clsW n.toNat) (⟨#[44, 32]⟩ : ByteArray)))) : m = n := by
  have key : ∀ a b : Fin 8, sp (bs (joinS (clsW a.val) (⟨#[44, 32]⟩ : ByteArray))) = sp (bs (joinS (clsW b.val) (⟨#[44, 32]⟩ : ByteArray))) → 1 ≤ a.val → 1 ≤ b.val → a = b := by decide +kernel
  have := congrArg Fin.val (key ⟨m.toNat, by omega⟩ ⟨n.toNat, by omega⟩ h (by simp; omega) (by simp; omega))
  simp at this; omega
theorem dom_inj {m n : Int} (h1 : 2 ≤ m) (h7 : m ≤ 4) (h1' : 2 ≤ n) (h7' : n ≤ 4) (h : sp (bs (domW m)) = sp (bs (domW n))) : m = n := by
  have e1 : m = 2 ∨ m = 3 ∨ m = 4 := by omega
  have e2 : n = 2 ∨ n = 3 ∨ n = 4 := by omega
  rcases e1 with rfl | rfl | rfl <;> rcases e2 with rfl | rfl | rfl <;> first | rfl | (revert h; decide)
theorem dom_free {m : Int} (h1 : 2 ≤ m) (h7 : m ≤ 4) : sp (bs (domW m)) = [bs (domW m)] := by
  have e1 : m = 2 ∨ m = 3 ∨ m = 4 := by omega
  rcases e1 with rfl | rfl | rfl <;> rfl
theorem sp_load {nums : List Int} (h : nums.all numOk = true) {j : Nat} (hj : j + 2 < nums.length) : ((loadW nums j).map bs).flatMap sp = [bs (⟨#[108, 111, 97, 100]⟩ : ByteArray), bs (itoaS (nums.getD j 0)), bs (⟨#[115, 105, 122, 101]⟩ : ByteArray), bs (itoaS (nums.getD (j + 1) 0)), bs (⟨#[115, 104, 97, 114, 101]⟩ : ByteArray), bs (itoaS (nums.getD (j + 2) 0))] := by
  have e0 := sp_num (numAt h (j := j) (by omega))
  have e1 := sp_num (numAt h (j := j + 1) (by omega))
  have e2 := sp_num (numAt h (j := j + 2) (by omega))
  have f0 : sp (bs (⟨#[108, 111, 97, 100]⟩ : ByteArray)) = [bs (⟨#[108, 111, 97, 100]⟩ : ByteArray)] := by decide
  have f1 : sp (bs (⟨#[115, 105, 122, 101]⟩ : ByteArray)) = [bs (⟨#[115, 105, 122, 101]⟩ : ByteArray)] := by decide
  have f2 : sp (bs (⟨#[115, 104, 97, 114, 101]⟩ : ByteArray)) = [bs (⟨#[115, 104, 97, 114, 101]⟩ : ByteArray)] := by decide
  simp only [loadW, List.map_cons, List.map_nil, List.flatMap_cons, List.flatMap_nil, e0, e1, e2, f0, f1, f2, List.cons_append, List.nil_append]

set_option maxHeartbeats 4000000 in
theorem text_inj {a b : Decl} (ha : okD a = true) (hb : okD b = true) (h : textD a = textD b) : sameD a b = true := by
  obtain ⟨hk, hp⟩ := text_split ha hb h
  clear h
  obtain ⟨k, nm, refs, nums, bY, al⟩ := a
  obtain ⟨k', nm', refs', nums', bY', al'⟩ := b
  obtain rfl : k = k' := hk
  unfold okD at ha hb
  simp only at ha hb
  cases hfm : form? k with
  | none => rw [validB_none hfm] at ha; cases ha
  | some f =>
  have hr : 0 ≤ k ∧ k < 17 := Classical.byContradiction fun hn => by rw [form_none hn] at hfm; cases hfm
  have hk : k = 0 ∨ k = 1 ∨ k = 2 ∨ k = 3 ∨ k = 4 ∨ k = 5 ∨ k = 6 ∨ k = 7 ∨ k = 8 ∨ k = 9 ∨ k = 10 ∨ k = 11 ∨ k = 12 ∨ k = 13 ∨ k = 14 ∨ k = 15 ∨ k = 16 := by omega
  rw [validB_form hfm] at ha hb
  simp only [Bool.and_eq_true, decide_eq_true_eq] at ha hb
  obtain ⟨⟨⟨⟨⟨⟨⟨h1, h2⟩, h3⟩, h4⟩, h5⟩, h6⟩, h7⟩, h8⟩ := ha
  obtain ⟨⟨⟨⟨⟨⟨⟨g1, g2⟩, g3⟩, g4⟩, g5⟩, g6⟩, g7⟩, g8⟩ := hb
  unfold pieces at hp
  rcases hk with rfl | rfl | rfl | rfl | rfl | rfl | rfl | rfl | rfl | rfl | rfl | rfl | rfl | rfl | rfl | rfl | rfl
  all_goals
    obtain rfl : _ = f := Option.some.inj hfm
    simp only at h1 h2 h3 h4 h5 h6 g1 g2 g3 g4 g5 g6
  all_goals
    try (have hq : nums.length = 0 := (by omega); obtain rfl := len0 hq; have hq' : nums'.length = 0 := (by omega); obtain rfl := len0 hq')
    try (have hq : nums.length = 1 := (by omega); obtain ⟨n0, rfl⟩ := len1 hq; have hq' : nums'.length = 1 := (by omega); obtain ⟨m0, rfl⟩ := len1 hq')
    try (have hq : nums.length = 2 := (by omega); obtain ⟨n0, n1, rfl⟩ := len2 hq; have hq' : nums'.length = 2 := (by omega); obtain ⟨m0, m1, rfl⟩ := len2 hq')
    try (have hq : refs.length = 0 := (by omega); obtain rfl := len0 hq; have hq' : refs'.length = 0 := (by omega); obtain rfl := len0 hq')
    try (have hq : refs.length = 1 := (by omega); obtain ⟨r0, rfl⟩ := len1 hq; have hq' : refs'.length = 1 := (by omega); obtain ⟨s0, rfl⟩ := len1 hq')
    try (have hq : refs.length = 2 := (by omega); obtain ⟨r0, r1, rfl⟩ := len2 hq; have hq' : refs'.length = 2 := (by omega); obtain ⟨s0, s1, rfl⟩ := len2 hq')
    try (have e4 : bY = 0 := (by simpa [zeroI] using h4); have e4' : bY' = 0 := (by simpa [zeroI] using g4); subst e4; subst e4')
    try (have e5 : al = false := (by simpa using h5); have e5' : al' = false := (by simpa using g5); subst e5; subst e5')
  all_goals try simp only [List.all_cons, List.all_nil, Bool.and_true, Bool.and_eq_true] at h7 h8 g7 g8
  · simp [wordsD, sp_name h6, sp_name g6] at hp
    obtain rfl := bs_inj hp
    simp [sameD]
  · simp [wordsD, sp_name h6, sp_name g6] at hp
    obtain rfl := bs_inj hp
    simp [sameD]
  · simp [wordsD, sp_name h6, sp_name g6, sp_name h7.1, sp_name h7.2, sp_name g7.1, sp_name g7.2] at hp
    obtain ⟨q0, q1, q2⟩ := hp
    obtain rfl := bs_inj q0
    obtain rfl := bs_inj q1
    obtain rfl := bs_inj q2
    simp [sameD]
  · simp [wordsD, sp_name h6, sp_name g6, sp_name h7, sp_name g7, sp_num h8, sp_num g8] at hp
    obtain ⟨q0, q1, q2⟩ := hp
    obtain rfl := bs_inj q0
    obtain rfl := bs_inj q1
    obtain rfl := itoa_inj h8 g8 q2
    simp [sameD]
  · have en := empty_of (by simpa using h6)
    have en2 := empty_of (by simpa using g6)
    subst en
    subst en2
    simp [wordsD, sp_name h7.1, sp_name h7.2, sp_name g7.1, sp_name g7.2, sp_num h8, sp_num g8] at hp
    obtain ⟨q0, q1, q2⟩ := hp
    obtain rfl := bs_inj q0
    obtain rfl := bs_inj q1
    obtain rfl := itoa_inj h8 g8 q2
    simp [sameD]
  · have l1 : 0 + 2 < nums.length := by omega
    have l2 : 0 + 2 < nums'.length := by omega
    have ne1 : refs ≠ [] := by intro h0; subst h0; simp at h1
    have ne2 : refs' ≠ [] := by intro h0; subst h0; simp at g1
    have hw : ∀ (nm : ByteArray) (refs : List ByteArray) (nums : List Int), wordsD 5 nm refs nums 0 false = [nm, (⟨#[111, 110]⟩ : ByteArray), joinS refs (⟨#[44, 32]⟩ : ByteArray)] ++ loadW nums 0 := fun _ _ _ => rfl
    simp only [hw, List.map_append, List.flatMap_append, sp_load h8 l1, sp_load g8 l2, List.map_cons, List.map_nil, List.flatMap_cons, List.flatMap_nil, List.append_nil, sp_refs h7 ne1, sp_refs g7 ne2, sp_name h6, sp_name g6] at hp
    have q := List.append_inj' hp (by simp)
    obtain ⟨q1, q2⟩ := q
    simp at q1 q2
    obtain rfl := bs_inj q1.1
    obtain rfl := refs_inj h7 g7 q1.2
    obtain ⟨n0, n1, n2, rfl⟩ := len3 (l := nums) (by omega)
    obtain ⟨m0, m1, m2, rfl⟩ := len3 (l := nums') (by omega)
    simp at q2 h8 g8
    obtain rfl := itoa_inj h8.1 g8.1 q2.1
    obtain rfl := itoa_inj h8.2.1 g8.2.1 q2.2.1
    obtain rfl := itoa_inj h8.2.2 g8.2.2 q2.2.2
    simp [sameD]
  · have l1 : 1 + 2 < nums.length := by omega
    have l2 : 1 + 2 < nums'.length := by omega
    have ne1 : refs ≠ [] := by intro h0; subst h0; simp at h1
    have ne2 : refs' ≠ [] := by intro h0; subst h0; simp at g1
    have hw : ∀ (nm : ByteArray) (refs : List ByteArray) (nums : List Int), wordsD 6 nm refs nums 0 false = [nm, itoaS (nums.getD 0 0), (⟨#[111, 110]⟩ : ByteArray), joinS refs (⟨#[44, 32]⟩ : ByteArray)] ++ loadW nums 1 := fun _ _ _ => rfl
    simp only [hw, List.map_append, List.flatMap_append, sp_load h8 l1, sp_load g8 l2, List.map_cons, List.map_nil, List.flatMap_cons, List.flatMap_nil, List.append_nil, sp_refs h7 ne1, sp_refs g7 ne2, sp_name h6, sp_name g6, sp_num (numAt h8 (j := 0) (by omega)), sp_num (numAt g8 (j := 0) (by omega))] at hp
    have q := List.append_inj' hp (by simp)
    obtain ⟨q1, q2⟩ := q
    simp at q1 q2
    obtain rfl := bs_inj q1.1
    obtain rfl := refs_inj h7 g7 q1.2.2
    have q3 := q1.2.1
    clear hp q1
    obtain ⟨n0, n1, n2, n3, rfl⟩ := len4 (l := nums) (by omega)
    obtain ⟨m0, m1, m2, m3, rfl⟩ := len4 (l := nums') (by omega)
    simp at q2 q3 h8 g8
    obtain rfl := itoa_inj h8.1 g8.1 q3
    obtain rfl := itoa_inj h8.2.1 g8.2.1 q2.1
    obtain rfl := itoa_inj h8.2.2.1 g8.2.2.1 q2.2.1
    obtain rfl := itoa_inj h8.2.2.2 g8.2.2.2 q2.2.2
    simp [sameD]
  · obtain ⟨n0, n1, n2, rfl⟩ := len3 (l := nums) (by omega)
    obtain ⟨m0, m1, m2, rfl⟩ := len3 (l := nums') (by omega)
    simp only [List.all_cons, List.all_nil, Bool.and_true, Bool.and_eq_true] at h8 g8
    simp [wordsD, loadW, sp_name h6, sp_name g6, sp_name h7, sp_name g7, sp_num h8.1, sp_num h8.2.1, sp_num h8.2.2, sp_num g8.1, sp_num g8.2.1, sp_num g8.2.2] at hp
    obtain ⟨q0, q1, q2, q3, q4⟩ := hp
    obtain rfl := bs_inj q0
    obtain rfl := bs_inj q1
    obtain rfl := itoa_inj h8.1 g8.1 q2
    obtain rfl := itoa_inj h8.2.1 g8.2.1 q3
    obtain rfl := itoa_inj h8.2.2 g8.2.2 q4
    simp [sameD]
  · have en := empty_of (by simpa using h6)
    have en2 := empty_of (by simpa using g6)
    subst en
    subst en2
    simp [wordsD, sp_name h7, sp_name g7, sp_num h8.1, sp_num h8.2, sp_num g8.1, sp_num g8.2] at hp
    obtain ⟨q0, q1, q2⟩ := hp
    obtain rfl := bs_inj q0
    obtain rfl := itoa_inj h8.1 g8.1 q1
    obtain rfl := itoa_inj h8.2 g8.2 q2
    simp [sameD]
  · have en := empty_of (by simpa using h6)
    have en2 := empty_of (by simpa using g6)
    subst en
    subst en2
    simp only [Bool.and_eq_true, decide_eq_true_eq] at h4 g4
    simp [wordsD] at hp
    obtain rfl := cls_inj h4.1 h4.2 g4.1 g4.2 hp
    simp [sameD]
  · have en := empty_of (by simpa using h6)
    have en2 := empty_of (by simpa using g6)
    subst en
    subst en2
    simp [wordsD, sp_name h7, sp_name g7] at hp
    obtain rfl := bs_inj hp
    simp [sameD]
  · have en := empty_of (by simpa using h6)
    have en2 := empty_of (by simpa using g6)
    subst en
    subst en2
    have fa : sp (bs (⟨#[97, 108, 119, 97, 121, 115]⟩ : ByteArray)) = [bs (⟨#[97, 108, 119, 97, 121, 115]⟩ : ByteArray)] := by decide
    cases al <;> cases al' <;> simp [wordsD, keepW, sp_name h7, sp_name g7, sp_num h8, sp_num g8, fa] at hp
    · obtain ⟨q0, q1⟩ := hp
      obtain rfl := bs_inj q0
      obtain rfl := itoa_inj h8 g8 q1
      simp [sameD]
    · obtain ⟨q0, q1⟩ := hp
      obtain rfl := bs_inj q0
      obtain rfl := itoa_inj h8 g8 q1
      simp [sameD]
  · have en := empty_of (by simpa using h6)
    have en2 := empty_of (by simpa using g6)
    subst en
    subst en2
    simp only [Bool.and_eq_true, decide_eq_true_eq] at h4 g4
    simp [wordsD, sp_name h7, sp_name g7, sp_num h8, sp_num g8, dom_free h4.1 h4.2, dom_free g4.1 g4.2] at hp
    obtain ⟨q0, q1, q2⟩ := hp
    obtain rfl := bs_inj q0
    obtain rfl := dom_inj h4.1 h4.2 g4.1 g4.2 (by rw [q1])
    obtain rfl := itoa_inj h8 g8 q2
    simp [sameD]
  · have en := empty_of (by simpa using h6)
    have en2 := empty_of (by simpa using g6)
    subst en
    subst en2
    obtain ⟨r0, r1, rs, rfl⟩ : ∃ r0 r1 rs, refs = r0 :: r1 :: rs := by
      match refs, h1 with
      | r0 :: r1 :: rs, _ => exact ⟨_, _, _, rfl⟩
    obtain ⟨s0, s1, ss, rfl⟩ : ∃ r0 r1 rs, refs' = r0 :: r1 :: rs := by
      match refs', g1 with
      | r0 :: r1 :: rs, _ => exact ⟨_, _, _, rfl⟩
    rw [List.all_cons, Bool.and_eq_true] at h7 g7
    simp [wordsD, sp_name h7.1, sp_name g7.1, sp_refs h7.2 (by simp), sp_refs g7.2 (by simp)] at hp
    obtain rfl := bs_inj hp.1
    have := refs_inj h7.2 g7.2 (by simpa using hp.2)
    simp only [List.cons.injEq] at this
    obtain ⟨rfl, rfl⟩ := this
    simp [sameD]
  · have en := empty_of (by simpa using h6)
    have en2 := empty_of (by simpa using g6)
    subst en
    subst en2
    simp [wordsD, sp_name h7.1, sp_name h7.2, sp_name g7.1, sp_name g7.2] at hp
    obtain ⟨q0, q1⟩ := hp
    obtain rfl := bs_inj q0
    obtain rfl := bs_inj q1
    simp [sameD]
  · have en := empty_of (by simpa using h6)
    have en2 := empty_of (by simpa using g6)
    subst en
    subst en2
    simp [wordsD, sp_num h8, sp_num g8] at hp
    obtain rfl := itoa_inj h8 g8 hp
    simp [sameD]
  · have en := empty_of (by simpa using h6)
    have en2 := empty_of (by simpa using g6)
    subst en
    subst en2
    simp [wordsD, sp_name h7, sp_name g7, sp_num h8, sp_num g8] at hp
    obtain ⟨q0, q1⟩ := hp
    obtain rfl := bs_inj q0
    obtain rfl := itoa_inj h8 g8 q1
    simp [sameD]

theorem sameD_all {a b : Decl} (h : sameD a b = true) : a = b := by
  obtain ⟨k, nm, refs, nums, bY, al⟩ := a
  obtain ⟨k', nm', refs', nums', bY', al'⟩ := b
  simp only [sameD, Bool.and_eq_true, decide_eq_true_eq, beq_iff_eq] at h
  obtain ⟨⟨⟨⟨⟨rfl, rfl⟩, rfl⟩, rfl⟩, rfl⟩, rfl⟩ := h
  rfl
theorem dist_eq {a b : Decl} (ha : okD a = true) (hb : okD b = true) : ((textD a).toList == (textD b).toList) = sameD a b := by
  cases hs : sameD a b
  · cases ht : ((textD a).toList == (textD b).toList)
    · rfl
    · rw [text_inj ha hb (eq_of_toList ht)] at hs; cases hs
  · rw [sameD_all hs]; simp
end Go.Proofs.YtanhkeeifnimgaaDoor
