/- Plain Lean: how many references and numbers a parser can have read. No program in sight. Conditions: none. Plain Lean: what a parser can have read of the field By; the rule of a token. No program in sight. Conditions: none. Plain Lean: the sizes of what a parser reads; reading a declaration consumes tokens. No program in sight. Conditions: none. -/
import Derived.Test.YtanhkeeifnimgaaDoorPar18d
import Derived.Test.YtanhkeeifnimgaaDoorPar18f

namespace Go.Proofs.YtanhkeeifnimgaaDoor
open Go Go.RowKit Go.Proofs

/-- what a parser can still read -/
def PS.left (s : PS) : Nat := s.toks.length + (if s.e = 0 then 1 else 0)
/-- no more was read than what was there -/
def Sz (s r : PS) : Prop := r.d.refs.length + r.left ≤ s.d.refs.length + s.left ∧ r.d.nums.length + r.left ≤ s.d.nums.length + s.left
theorem Sz.refl (s : PS) : Sz s s := ⟨Nat.le_refl _, Nat.le_refl _⟩
theorem Sz.trans {a b c : PS} (h : Sz a b) (k : Sz b c) : Sz a c := ⟨Nat.le_trans k.1 h.1, Nat.le_trans k.2 h.2⟩
theorem fail_left (s : PS) (e : Int) : (s.fail e).left ≤ s.left := by
  unfold PS.fail PS.left
  split
  · rename_i h
    dsimp only
    split <;> omega
  · exact Nat.le_refl _
theorem take_left (s : PS) {k : Int} (hk : k ≠ 0) (tx : List ByteArray) : (s.take k tx).2.left ≤ s.left ∧ (s.e = 0 → (s.take k tx).2.left + 1 ≤ s.left) := by
  unfold PS.take
  split
  · refine ⟨fail_left s 3, fun h => ?_⟩
    unfold PS.fail PS.left
    rw [if_pos h]
    simp [h]
  · rename_i h
    simp only [not_or, Decidable.not_not] at h
    obtain ⟨toks, e, d⟩ := s
    obtain ⟨h1, h2, _⟩ := h
    cases toks with
    | nil => exact absurd h2.symm hk
    | cons t r =>
      unfold PS.left
      simp only [List.tail_cons, List.length_cons]
      exact ⟨by omega, fun _ => by omega⟩
theorem comma_left {s : PS} (h : s.comma.1 = true) : s.comma.2.left + 1 ≤ s.left ∧ s.comma.2.d = s.d := by
  refine ⟨?_, comma_d s⟩
  unfold PS.comma at h ⊢
  split
  · rename_i hc
    rw [if_pos hc] at h
    cases h
  · rename_i hc
    simp only [not_or, Decidable.not_not] at hc
    exact (take_left s (by decide) []).2 hc.1
theorem comma_sz (s : PS) : Sz s s.comma.2 := by
  cases h : s.comma.1 with
  | true =>
    obtain ⟨h1, h2⟩ := comma_left h
    unfold Sz
    rw [h2]
    omega
  | false =>
    have : s.comma.2 = s := by
      unfold PS.comma at h ⊢
      split
      · rfl
      · rename_i hc
        rw [if_neg hc] at h
        cases h
    rw [this]
    exact Sz.refl s
theorem ref_left (s : PS) : s.ref.left ≤ s.left ∧ (s.e = 0 → s.ref.left + 1 ≤ s.left) ∧ s.ref.d.refs.length = s.d.refs.length + 1 ∧ s.ref.d.nums = s.d.nums := by
  have h := take_left s (k := 1) (by decide) []
  have hd := take_d s 1 []
  refine ⟨h.1, h.2, ?_, ?_⟩
  · show ((s.take 1 []).2.d.refs ++ [_]).length = _
    rw [hd]; simp
  · show (s.take 1 []).2.d.nums = _
    rw [hd]
theorem listGo_sz : ∀ (f n : Nat) (s : PS), Sz s (PS.listGo f n s)
  | 0, _, s => Sz.refl s
  | f + 1, n, s => by
    rw [PS.listGo]
    split
    · rename_i hc
      obtain ⟨h1, h2⟩ := comma_left hc
      refine Sz.trans ?_ (listGo_sz f (n + 1) _)
      generalize hq : (if n = 16 ∧ s.comma.2.next.kind = 1 then s.comma.2.fail 8 else s.comma.2) = q
      have hl : q.left ≤ s.comma.2.left ∧ q.d = s.d := by
        rw [← hq]
        split
        · exact ⟨fail_left _ 8, (fail_d _ 8).trans h2⟩
        · exact ⟨Nat.le_refl _, h2⟩
      obtain ⟨r1, _, r3, r4⟩ := ref_left q
      unfold Sz
      rw [r3, r4, hl.2]
      omega
    · exact Sz.refl s
theorem by_sz {s r : PS} (h : r.left ≤ s.left) (hr : r.d.refs = s.d.refs) (hn : r.d.nums = s.d.nums) : Sz s r := by
  unfold Sz
  rw [hr, hn]
  omega
theorem classes_sz : ∀ (f : Nat) (left : List ByteArray) (s : PS), Sz s (PS.classesGo f left s)
  | 0, _, s => Sz.refl s
  | f + 1, left, s => by
    rw [PS.classesGo]
    split
    · exact by_sz (fail_left s 3) (by rw [fail_d]) (by rw [fail_d])
    · have h1 : Sz s ({ (s.take 2 left).2 with d := { (s.take 2 left).2.d with by_ := (s.take 2 left).2.d.by_ + bitOf (s.take 2 left).1.text } } : PS) := by_sz (take_left s (by decide) left).1 (by simp only [take_d]) (by simp only [take_d])
      simp only
      split
      · exact h1.trans ((comma_sz _).trans (classes_sz f _ _))
      · exact h1
theorem part_sz (s : PS) (p : Part) (h0 : s.e = 0) : Sz s (s.part p) := by
  cases p with
  | name => exact by_sz (take_left s (k := 1) (by decide) []).1 (by show (s.take 1 []).2.d.refs = _; rw [take_d]) (by show (s.take 1 []).2.d.nums = _; rw [take_d])
  | ref =>
    obtain ⟨_, h2, h3, h4⟩ := ref_left s
    have := h2 h0
    show Sz s s.ref
    unfold Sz
    rw [h3, h4]
    omega
  | number =>
    have h := (take_left s (k := 3) (by decide) []).2 h0
    show Sz s s.number
    have e1 : s.number.d.refs = s.d.refs := by show (s.take 3 []).2.d.refs = _; rw [take_d]
    have e2 : s.number.d.nums.length = s.d.nums.length + 1 := by show ((s.take 3 []).2.d.nums ++ [_]).length = _; rw [take_d]; simp
    have e3 : s.number.left = (s.take 3 []).2.left := rfl
    unfold Sz
    rw [e1, e2, e3]
    omega
  | list =>
    obtain ⟨_, h2, h3, h4⟩ := ref_left s
    have := h2 h0
    refine Sz.trans ?_ (listGo_sz _ _ _)
    unfold Sz
    rw [h3, h4]
    omega
  | classes => exact classes_sz _ _ s
  | domain => exact by_sz (take_left s (k := 2) (by decide) _).1 (by show (s.take 2 _).2.d.refs = _; rw [take_d]) (by show (s.take 2 _).2.d.nums = _; rw [take_d])
  | always =>
    show Sz s s.always
    unfold PS.always
    split
    · exact by_sz (take_left s (k := 2) (by decide) []).1 (by show (s.take 2 []).2.d.refs = _; rw [take_d]) (by show (s.take 2 []).2.d.nums = _; rw [take_d])
    · exact Sz.refl s
  | word w => exact by_sz (take_left s (k := 2) (by decide) _).1 (by show (s.take 2 _).2.d.refs = _; rw [take_d]) (by show (s.take 2 _).2.d.nums = _; rw [take_d])
end Go.Proofs.YtanhkeeifnimgaaDoor

namespace Go.Proofs.YtanhkeeifnimgaaDoor
open Go Go.RowKit Go.Proofs

theorem bit_in (k : ByteArray) : 0 ≤ bitOf k ∧ bitOf k ≤ 4 := by
  unfold bitOf
  split
  · exact ⟨by decide, by decide⟩
  split
  · exact ⟨by decide, by decide⟩
  split
  · exact ⟨by decide, by decide⟩
  · exact ⟨by decide, by decide⟩
theorem dom_in (k : ByteArray) : 0 ≤ domOf k ∧ domOf k ≤ 4 := by
  unfold domOf
  split
  · exact ⟨by decide, by decide⟩
  split
  · exact ⟨by decide, by decide⟩
  split
  · exact ⟨by decide, by decide⟩
  · exact ⟨by decide, by decide⟩
theorem listGo_by : ∀ (f n : Nat) (s : PS), (PS.listGo f n s).d.by_ = s.d.by_
  | 0, _, _ => rfl
  | f + 1, n, s => by
    rw [PS.listGo]
    split
    · rw [listGo_by f]
      have h1 : ∀ q : PS, q.ref.d.by_ = q.d.by_ := fun q => by show (q.take 1 []).2.d.by_ = _; rw [take_d]
      rw [h1]
      split
      · rw [fail_d, comma_d]
      · rw [comma_d]
    · rfl
theorem classes_by : ∀ (f : Nat) (left : List ByteArray) (s : PS), s.d.by_ ≤ (PS.classesGo f left s).d.by_ ∧ (PS.classesGo f left s).d.by_ ≤ s.d.by_ + 4 * f
  | 0, _, _ => ⟨Int.le_refl _, by simp [PS.classesGo]⟩
  | f + 1, left, s => by
    rw [PS.classesGo]
    have hb := bit_in (s.take 2 left).1.text
    have hd := take_d s 2 left
    split
    · rw [fail_d]; omega
    · simp only
      split
      · have ih := classes_by f (left.filter fun x => decide (x ≠ (s.take 2 left).1.text)) ({ (s.take 2 left).2 with d := { (s.take 2 left).2.d with by_ := (s.take 2 left).2.d.by_ + bitOf (s.take 2 left).1.text } } : PS).comma.2
        rw [comma_d] at ih
        simp only [hd] at ih ⊢
        omega
      · simp only [hd]
        omega
theorem part_by (s : PS) (p : Part) (h : 0 ≤ s.d.by_) : 0 ≤ (s.part p).d.by_ ∧ (s.part p).d.by_ ≤ s.d.by_ + 20 := by
  cases p with
  | name => show 0 ≤ (s.take 1 []).2.d.by_ ∧ (s.take 1 []).2.d.by_ ≤ _; rw [take_d]; omega
  | ref => show 0 ≤ (s.take 1 []).2.d.by_ ∧ (s.take 1 []).2.d.by_ ≤ _; rw [take_d]; omega
  | number => show 0 ≤ (s.take 3 []).2.d.by_ ∧ (s.take 3 []).2.d.by_ ≤ _; rw [take_d]; omega
  | list =>
    show 0 ≤ (PS.listGo _ 1 s.ref).d.by_ ∧ (PS.listGo _ 1 s.ref).d.by_ ≤ _
    rw [listGo_by]
    show 0 ≤ (s.take 1 []).2.d.by_ ∧ (s.take 1 []).2.d.by_ ≤ _
    rw [take_d]; omega
  | classes =>
    have := classes_by 5 [(⟨#[109, 97, 99, 104, 105, 110, 101]⟩ : ByteArray), (⟨#[114, 97, 99, 107]⟩ : ByteArray), (⟨#[102, 101, 101, 100]⟩ : ByteArray)] s
    show 0 ≤ (PS.classesGo 5 _ s).d.by_ ∧ (PS.classesGo 5 _ s).d.by_ ≤ _
    omega
  | domain =>
    have := dom_in (s.take 2 [(⟨#[114, 97, 99, 107]⟩ : ByteArray), (⟨#[102, 101, 101, 100]⟩ : ByteArray), (⟨#[115, 105, 116, 101]⟩ : ByteArray)]).1.text
    show 0 ≤ domOf _ ∧ domOf _ ≤ _
    omega
  | always =>
    show 0 ≤ s.always.d.by_ ∧ s.always.d.by_ ≤ _
    unfold PS.always
    split
    · show 0 ≤ (s.take 2 []).2.d.by_ ∧ (s.take 2 []).2.d.by_ ≤ _; rw [take_d]; omega
    · omega
  | word w => show 0 ≤ (s.take 2 [w]).2.d.by_ ∧ (s.take 2 [w]).2.d.by_ ≤ _; rw [take_d]; omega
/-- does a rule begin with a token? -/
def isRule (t : Tok) (r : ByteArray × Int × List Part) : Bool := decide (t.kind = 2) && decide (r.1 = t.text)
theorem ruleOf_first (t : Tok) : (ruleOf t = none ∧ firstI (isRule t) rulesT = -1) ∨ ∃ (i : Nat) (hi : i < rulesT.length), ruleOf t = some rulesT[i] ∧ firstI (isRule t) rulesT = (i : Int) := by
  unfold ruleOf firstI
  cases h : rulesT.findIdx? (isRule t) with
  | none =>
    refine .inl ⟨?_, rfl⟩
    rw [List.find?_eq_none]
    rw [List.findIdx?_eq_none_iff] at h
    intro x hx
    have := h x hx
    simpa [isRule] using this
  | some i =>
    obtain ⟨hi, hp, hb⟩ := List.findIdx?_eq_some_iff_getElem.1 h
    refine .inr ⟨i, hi, ?_, rfl⟩
    rw [List.find?_eq_some_iff_getElem]
    exact ⟨hp, i, hi, rfl, fun j hj => by have := hb j hj; show (!isRule t rulesT[j]) = true; simpa using this⟩
theorem any_rule (t : Tok) : rulesT.any (isRule t) = (ruleOf t).isSome := by
  unfold ruleOf
  cases h : rulesT.find? (fun r => decide (t.kind = 2) && decide (r.1 = t.text)) with
  | none =>
    rw [List.find?_eq_none] at h
    have e : rulesT.any (isRule t) = false := List.any_eq_false.2 fun x hx => by have := h x hx; exact this
    rw [e]; rfl
  | some r =>
    have e : rulesT.any (isRule t) = true := List.any_eq_true.2 ⟨r, List.mem_of_find?_eq_some h, List.find?_some h⟩
    rw [e]; rfl
theorem rules_short : ∀ r ∈ rulesT, r.2.2.length ≤ 12 := by decide +kernel
end Go.Proofs.YtanhkeeifnimgaaDoor

namespace Go.Proofs.YtanhkeeifnimgaaDoor
open Go Go.RowKit Go.Proofs

/-- all texts are short -/
def TS (M : Nat) (s : PS) : Prop := (∀ t ∈ s.toks, t.text.size ≤ M) ∧ s.d.name.size ≤ M ∧ ∀ r ∈ s.d.refs, r.size ≤ M
theorem fail_ts {M : Nat} {s : PS} (h : TS M s) (e : Int) : TS M (s.fail e) := by
  unfold TS
  rw [fail_toks, fail_d]
  exact h
theorem take_ts {M : Nat} {s : PS} (h : TS M s) (k : Int) (tx : List ByteArray) : (s.take k tx).1.text.size ≤ M ∧ TS M (s.take k tx).2 := by
  unfold PS.take
  split
  · exact ⟨Nat.zero_le _, fail_ts h 3⟩
  · obtain ⟨toks, e, d⟩ := s
    obtain ⟨h1, h2, h3⟩ := h
    cases toks with
    | nil => exact ⟨Nat.zero_le _, fun t ht => absurd ht (by simp), h2, h3⟩
    | cons t r => exact ⟨h1 t (by simp), fun u hu => h1 u (by simp at hu; simp [hu]), h2, h3⟩
theorem comma_ts {M : Nat} {s : PS} (h : TS M s) : TS M s.comma.2 := by
  unfold PS.comma
  split
  · exact h
  · exact (take_ts h 4 []).2
theorem ref_ts {M : Nat} {s : PS} (h : TS M s) : TS M s.ref := by
  obtain ⟨h1, h2, h3, h4⟩ := take_ts h 1 []
  refine ⟨h2, h3, fun r hr => ?_⟩
  rcases List.mem_append.1 (show r ∈ (s.take 1 []).2.d.refs ++ [(s.take 1 []).1.text] from hr) with hr | hr
  · exact h4 r hr
  · rw [List.mem_singleton.1 hr]; exact h1
theorem listGo_ts {M : Nat} : ∀ (f n : Nat) (s : PS), TS M s → TS M (PS.listGo f n s)
  | 0, _, _, h => h
  | f + 1, n, s, h => by
    rw [PS.listGo]
    split
    · refine listGo_ts f (n + 1) _ (ref_ts ?_)
      split
      · exact fail_ts (comma_ts h) 8
      · exact comma_ts h
    · exact h
theorem classes_ts {M : Nat} : ∀ (f : Nat) (left : List ByteArray) (s : PS), TS M s → TS M (PS.classesGo f left s)
  | 0, _, _, h => h
  | f + 1, left, s, h => by
    rw [PS.classesGo]
    split
    · exact fail_ts h 3
    · obtain ⟨_, h2, h3, h4⟩ := take_ts h 2 left
      have h5 : TS M ({ (s.take 2 left).2 with d := { (s.take 2 left).2.d with by_ := (s.take 2 left).2.d.by_ + bitOf (s.take 2 left).1.text } } : PS) := ⟨h2, h3, h4⟩
      simp only
      split
      · exact classes_ts f _ _ (comma_ts h5)
      · exact h5
theorem part_ts {M : Nat} {s : PS} (h : TS M s) (p : Part) : TS M (s.part p) := by
  cases p with
  | name =>
    obtain ⟨h1, h2, h3, h4⟩ := take_ts h 1 []
    exact ⟨h2, h1, h4⟩
  | ref => exact ref_ts h
  | number =>
    obtain ⟨_, h2, h3, h4⟩ := take_ts h 3 []
    exact ⟨h2, h3, h4⟩
  | list => exact listGo_ts _ _ _ (ref_ts h)
  | classes => exact classes_ts _ _ s h
  | domain =>
    obtain ⟨_, h2, h3, h4⟩ := take_ts h 2 [(⟨#[114, 97, 99, 107]⟩ : ByteArray), (⟨#[102, 101, 101, 100]⟩ : ByteArray), (⟨#[115, 105, 116, 101]⟩ : ByteArray)]
    exact ⟨h2, h3, h4⟩
  | always =>
    show TS M s.always
    unfold PS.always
    split
    · obtain ⟨_, h2, h3, h4⟩ := take_ts h 2 []
      exact ⟨h2, h3, h4⟩
    · exact h
  | word w => exact (take_ts h 2 [w]).2
theorem parts_ts {M : Nat} : ∀ (ps : List Part) (s : PS), TS M s → TS M (s.parts ps)
  | [], _, h => h
  | p :: ps, s, h => by
    rw [PS.parts]
    split
    · exact parts_ts ps _ (part_ts h p)
    · exact parts_ts ps _ h
theorem decl_ts {M : Nat} {s : PS} (h : TS M s) : TS M s.decl.2 ∧ s.decl.1.name.size ≤ M ∧ ∀ r ∈ s.decl.1.refs, r.size ≤ M := by
  unfold PS.decl
  split
  · exact ⟨fail_ts h 3, Nat.zero_le _, fun r hr => absurd hr (by simp [zeroD])⟩
  · rename_i r _
    obtain ⟨_, h2, _, _⟩ := take_ts h 2 []
    have h5 : TS M ({ (s.take 2 []).2 with d := { zeroD with kind := r.2.1 } } : PS) := ⟨h2, Nat.zero_le _, fun r hr => absurd hr (by simp [zeroD])⟩
    have h6 := (take_ts (parts_ts r.2.2 _ h5) 4 [(⟨#[59]⟩ : ByteArray)]).2
    exact ⟨h6, h6.2.1, h6.2.2⟩
theorem decl_less {s : PS} (h : s.decl.2.e = 0) : s.decl.2.toks.length < s.toks.length := by
  obtain ⟨_, _, hd⟩ := decl_R s h
  obtain ⟨c, e, hc, _⟩ := declR_local hd
  have := congrArg List.length e
  simp only [List.length_append, List.length_map] at this
  have := List.length_pos_iff.2 hc
  omega
theorem cost_len : ∀ l : List Tk, (∀ t ∈ l, 1 ≤ t.2.1.size) → l.length ≤ cost l
  | [], _ => Nat.zero_le _
  | t :: l, h => by
    have h1 := cost_ge t l
    have h2 := cost_len l fun u hu => h u (by simp [hu])
    have h3 := h t (by simp)
    simp only [List.length_cons]
    omega
theorem cost_mem {t : Tk} : ∀ {l : List Tk}, t ∈ l → t.2.1.size ≤ cost l
  | u :: l, h => by
    have h1 := cost_ge u l
    rcases List.mem_cons.1 h with rfl | h
    · omega
    · have := cost_mem h; omega
/-- the tokens of a source: how many, and how long -/
theorem scan_short {s : ByteArray} (h : (scanT s).2.2 = 0) : EndT (scanT s).1 ∧ (scanT s).1.length ≤ 16385 ∧ ∀ t ∈ (scanT s).1, t.text.size ≤ 16384 := by
  obtain ⟨toks, p, e⟩ : ∃ toks p, scanT s = (toks, p, 0) := ⟨(scanT s).1, (scanT s).2.1, by rw [← h]⟩
  obtain ⟨h1, h2, X, rfl, hX⟩ := scanT_lex e
  have hz := lexTo_size hX
  have hc := lex_cost hX
  have hl := skipL_le (bs s)
  have hsb : (bs s).length = s.size := rfl
  have hn := cost_len _ hz
  rw [e]
  refine ⟨⟨X, _, rfl, rfl⟩, ?_, ?_⟩
  · simp only [List.length_append, List.length_map] at hn ⊢
    simp only [List.length_cons, List.length_nil]
    omega
  · intro t ht
    rcases List.mem_append.1 ht with ht | ht
    · have := cost_mem (l := X.map tkOf) (t := tkOf t) (List.mem_map.2 ⟨t, ht, rfl⟩)
      have e2 : (tkOf t).2.1.size = t.text.size := rfl
      omega
    · rw [List.mem_singleton.1 ht]
      exact Nat.zero_le _
end Go.Proofs.YtanhkeeifnimgaaDoor
