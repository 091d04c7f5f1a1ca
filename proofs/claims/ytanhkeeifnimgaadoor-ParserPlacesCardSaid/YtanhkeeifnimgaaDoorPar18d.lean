/- Plain Lean: the parser's functions leave a part of the tokens, whatever they meet; the places of tokens do not matter; what they do depends on the tokens that they read. No program in sight. Conditions: none. -/
import Derived.Test.YtanhkeeifnimgaaDoorPar18c
namespace Go.Proofs.YtanhkeeifnimgaaDoor
open Go Go.RowKit Go.Proofs

/-- the last token is the end -/
def EndT (l : List Tok) : Prop := ∃ X E, l = X ++ [E] ∧ E.kind = 0
theorem EndT.ne {l : List Tok} (h : EndT l) : l ≠ [] := by obtain ⟨X, E, rfl, _⟩ := h; simp
theorem EndT.tail {t : Tok} {l : List Tok} (h : EndT (t :: l)) (ht : t.kind ≠ 0) : EndT l := by
  obtain ⟨X, E, e, hE⟩ := h
  cases X with
  | nil =>
    simp only [List.nil_append, List.cons.injEq] at e
    rw [e.1] at ht; exact absurd hE ht
  | cons x X =>
    simp only [List.cons_append, List.cons.injEq] at e
    exact ⟨X, E, e.2, hE⟩
/-- what is left behind a step -/
def Aft (s r : PS) : Prop := (∃ k, r.toks = s.toks.drop k) ∧ (EndT s.toks → EndT r.toks)
theorem Aft.refl (s : PS) : Aft s s := ⟨⟨0, rfl⟩, id⟩
theorem Aft.trans {a b c : PS} (h1 : Aft a b) (h2 : Aft b c) : Aft a c := by
  obtain ⟨⟨k, e1⟩, f1⟩ := h1
  obtain ⟨⟨m, e2⟩, f2⟩ := h2
  exact ⟨⟨k + m, by rw [e2, e1, List.drop_drop]⟩, fun h => f2 (f1 h)⟩
theorem Aft.same {s r : PS} (h : r.toks = s.toks) : Aft s r := ⟨⟨0, h⟩, fun h' => h ▸ h'⟩
theorem fail_toks (s : PS) (e : Int) : (s.fail e).toks = s.toks := by unfold PS.fail; split <;> rfl
theorem fail_d (s : PS) (e : Int) : (s.fail e).d = s.d := by unfold PS.fail; split <;> rfl
theorem take_aft (s : PS) {k : Int} (hk : k ≠ 0) (tx : List ByteArray) : Aft s (s.take k tx).2 := by
  unfold PS.take
  split
  · exact Aft.same (fail_toks s 3)
  · rename_i h
    simp only [not_or, Decidable.not_not] at h
    obtain ⟨toks, e, d⟩ := s
    cases toks with
    | nil => exact Aft.same rfl
    | cons t r =>
      refine ⟨⟨1, rfl⟩, fun hE => hE.tail ?_⟩
      have : t.kind = k := h.2.1
      rw [this]; exact hk
theorem take_d (s : PS) (k : Int) (tx : List ByteArray) : (s.take k tx).2.d = s.d := by
  unfold PS.take
  split
  · exact fail_d s 3
  · rfl
theorem comma_aft (s : PS) : Aft s s.comma.2 := by
  unfold PS.comma
  split
  · exact Aft.refl s
  · exact take_aft s (by decide) []
theorem ref_aft (s : PS) : Aft s s.ref := take_aft s (by decide) []
theorem listGo_aft : ∀ (f n : Nat) (s : PS), Aft s (PS.listGo f n s)
  | 0, _, s => Aft.refl s
  | f + 1, n, s => by
    rw [PS.listGo]
    split
    · refine (comma_aft s).trans (Aft.trans ?_ ((ref_aft _).trans (listGo_aft f (n + 1) _)))
      split
      · exact Aft.same (fail_toks _ 8)
      · exact Aft.refl _
    · exact Aft.refl s
theorem classes_aft : ∀ (f : Nat) (left : List ByteArray) (s : PS), Aft s (PS.classesGo f left s)
  | 0, _, s => Aft.refl s
  | f + 1, left, s => by
    rw [PS.classesGo]
    split
    · exact Aft.same (fail_toks s 3)
    · have h1 : Aft s ({ (s.take 2 left).2 with d := { (s.take 2 left).2.d with by_ := (s.take 2 left).2.d.by_ + bitOf (s.take 2 left).1.text } } : PS) := take_aft s (by decide) left
      simp only
      split
      · exact h1.trans ((comma_aft _).trans (classes_aft f _ _))
      · exact h1
theorem part_aft (s : PS) (p : Part) : Aft s (s.part p) := by
  cases p with
  | name => exact take_aft s (by decide) []
  | ref => exact ref_aft s
  | number => exact take_aft s (by decide) []
  | list => exact (ref_aft s).trans (listGo_aft _ _ _)
  | classes => exact classes_aft _ _ s
  | domain => exact take_aft s (by decide) _
  | always =>
    show Aft s s.always
    unfold PS.always
    split
    · exact take_aft s (by decide) []
    · exact Aft.refl s
  | word w => exact take_aft s (by decide) _
theorem parts_aft : ∀ (ps : List Part) (s : PS), Aft s (s.parts ps)
  | [], s => Aft.refl s
  | p :: ps, s => by
    rw [PS.parts]
    split
    · exact (part_aft s p).trans (parts_aft ps _)
    · exact parts_aft ps s
theorem decl_aft (s : PS) : Aft s s.decl.2 := by
  unfold PS.decl
  split
  · exact Aft.same (fail_toks s 3)
  · rename_i r _
    exact (take_aft s (by decide) []).trans ((Aft.same rfl).trans ((parts_aft r.2.2 { (s.take 2 []).2 with d := { zeroD with kind := r.2.1 } }).trans (take_aft _ (by decide) _)))

/-! ### the places of tokens do not matter -/
def shT (K : Int) (t : Tok) : Tok := { t with pos := t.pos + K }
def PS.sh (K : Int) (d : Decl) (s : PS) : PS := ⟨s.toks.map (shT K), s.e, d⟩
theorem next_sh (K : Int) (d : Decl) (s : PS) : (s.sh K d).next.kind = s.next.kind ∧ (s.sh K d).next.text = s.next.text ∧ (s.sh K d).next.n = s.next.n := by
  obtain ⟨toks, e, d0⟩ := s
  cases toks <;> exact ⟨rfl, rfl, rfl⟩
theorem fail_sh (K : Int) (d : Decl) (s : PS) (e : Int) : (s.sh K d).fail e = (s.fail e).sh K d := by
  unfold PS.fail
  by_cases h : s.e = 0
  · rw [if_pos h, if_pos (show (s.sh K d).e = 0 from h)]; rfl
  · rw [if_neg h, if_neg (show ¬ (s.sh K d).e = 0 from h)]
theorem take_sh (K : Int) (d : Decl) (s : PS) (k : Int) (tx : List ByteArray) : ((s.sh K d).take k tx).1.text = (s.take k tx).1.text ∧ ((s.sh K d).take k tx).1.n = (s.take k tx).1.n ∧ ((s.sh K d).take k tx).2 = (s.take k tx).2.sh K d := by
  obtain ⟨h1, h2, h3⟩ := next_sh K d s
  unfold PS.take
  rw [h1, h2, show (s.sh K d).e = s.e from rfl]
  split
  · exact ⟨rfl, rfl, fail_sh K d s 3⟩
  · refine ⟨h2, h3, ?_⟩
    obtain ⟨toks, e, d0⟩ := s
    cases toks <;> rfl
theorem comma_sh (K : Int) (d : Decl) (s : PS) : (s.sh K d).comma = (s.comma.1, s.comma.2.sh K d) := by
  obtain ⟨h1, h2, h3⟩ := next_sh K d s
  unfold PS.comma
  rw [h1, h2, show (s.sh K d).e = s.e from rfl]
  split
  · rfl
  · rw [(take_sh K d s 4 []).2.2]
theorem ref_sh (K : Int) (s : PS) : (s.sh K s.d).ref = s.ref.sh K s.ref.d := by
  obtain ⟨h1, h2, h3⟩ := take_sh K s.d s 1 []
  unfold PS.ref
  rw [h1, h3]
  show _ = (⟨_, _, _⟩ : PS)
  rw [take_d]; rfl
theorem comma_d (s : PS) : s.comma.2.d = s.d := by
  unfold PS.comma
  split
  · rfl
  · exact take_d s 4 []
theorem listGo_sh (K : Int) : ∀ (f n : Nat) (s : PS), PS.listGo f n (s.sh K s.d) = (PS.listGo f n s).sh K (PS.listGo f n s).d
  | 0, _, _ => rfl
  | f + 1, n, s => by
    rw [PS.listGo, PS.listGo, comma_sh]
    simp only
    by_cases hc : s.comma.1 = true
    · rw [if_pos hc, if_pos hc, (next_sh K s.d s.comma.2).1]
      by_cases hn : n = 16 ∧ s.comma.2.next.kind = 1
      · rw [if_pos hn, if_pos hn, fail_sh]
        have e : s.d = (s.comma.2.fail 8).d := by rw [fail_d, comma_d]
        conv => lhs; rw [e]
        rw [ref_sh, listGo_sh K f (n + 1)]
      · rw [if_neg hn, if_neg hn]
        have e : s.d = s.comma.2.d := (comma_d s).symm
        conv => lhs; rw [e]
        rw [ref_sh, listGo_sh K f (n + 1)]
    · rw [if_neg hc, if_neg hc]
theorem classes_sh (K : Int) : ∀ (f : Nat) (left : List ByteArray) (s : PS), PS.classesGo f left (s.sh K s.d) = (PS.classesGo f left s).sh K (PS.classesGo f left s).d
  | 0, _, _ => rfl
  | f + 1, left, s => by
    rw [PS.classesGo, PS.classesGo]
    by_cases hl : left = []
    · rw [if_pos hl, if_pos hl, fail_sh, fail_d]
    · rw [if_neg hl, if_neg hl]
      obtain ⟨h1, h2, h3⟩ := take_sh K s.d s 2 left
      simp only
      rw [h1, h3]
      generalize hs2 : ({ (s.take 2 left).2 with d := { (s.take 2 left).2.d with by_ := (s.take 2 left).2.d.by_ + bitOf (s.take 2 left).1.text } } : PS) = s2
      have e2 : ({ toks := ((s.take 2 left).2.sh K s.d).toks, e := ((s.take 2 left).2.sh K s.d).e, d := { ((s.take 2 left).2.sh K s.d).d with by_ := ((s.take 2 left).2.sh K s.d).d.by_ + bitOf (s.take 2 left).1.text } } : PS) = s2.sh K s2.d := by
        rw [← hs2]
        show (⟨_, _, _⟩ : PS) = ⟨_, _, _⟩
        have hd := take_d s 2 left
        simp only [PS.sh, hd]
      rw [e2, comma_sh]
      simp only
      by_cases hc : s2.comma.1 = true
      · rw [if_pos hc, if_pos hc]
        have e : s2.d = s2.comma.2.d := (comma_d s2).symm
        conv => lhs; rw [e]
        exact classes_sh K f _ _
      · rw [if_neg hc, if_neg hc]
theorem take_sh1 (K : Int) (s : PS) (k : Int) (tx : List ByteArray) : ((s.sh K s.d).take k tx).1.text = (s.take k tx).1.text ∧ ((s.sh K s.d).take k tx).1.n = (s.take k tx).1.n ∧ ((s.sh K s.d).take k tx).2 = (s.take k tx).2.sh K (s.take k tx).2.d := by
  have := take_sh K s.d s k tx
  rw [take_d]
  exact this
theorem part_sh (K : Int) (s : PS) (p : Part) : (s.sh K s.d).part p = (s.part p).sh K (s.part p).d := by
  cases p with
  | name =>
    obtain ⟨h1, h2, h3⟩ := take_sh1 K s 1 []
    show (s.sh K s.d).name = s.name.sh K s.name.d
    unfold PS.name
    rw [h1, h3]; rfl
  | ref => exact ref_sh K s
  | number =>
    obtain ⟨h1, h2, h3⟩ := take_sh1 K s 3 []
    show (s.sh K s.d).number = s.number.sh K s.number.d
    unfold PS.number
    rw [h2, h3]; rfl
  | list =>
    show (s.sh K s.d).list = s.list.sh K s.list.d
    unfold PS.list
    rw [ref_sh, show (s.sh K s.d).toks.length = s.toks.length by simp [PS.sh]]
    exact listGo_sh K _ _ _
  | classes => exact classes_sh K _ _ s
  | domain =>
    obtain ⟨h1, h2, h3⟩ := take_sh1 K s 2 [(⟨#[114, 97, 99, 107]⟩ : ByteArray), (⟨#[102, 101, 101, 100]⟩ : ByteArray), (⟨#[115, 105, 116, 101]⟩ : ByteArray)]
    show (s.sh K s.d).domain = s.domain.sh K s.domain.d
    unfold PS.domain
    simp only
    rw [h1, h3]; rfl
  | always =>
    obtain ⟨h1, h2, h3⟩ := next_sh K s.d s
    show (s.sh K s.d).always = s.always.sh K s.always.d
    unfold PS.always
    rw [h1, h2, show (s.sh K s.d).e = s.e from rfl]
    split
    · rw [(take_sh1 K s 2 []).2.2]; rfl
    · rfl
  | word w => exact (take_sh1 K s 2 [w]).2.2
theorem parts_sh (K : Int) : ∀ (ps : List Part) (s : PS), (s.sh K s.d).parts ps = (s.parts ps).sh K (s.parts ps).d
  | [], _ => rfl
  | p :: ps, s => by
    rw [PS.parts, PS.parts, show (s.sh K s.d).e = s.e from rfl]
    split
    · rw [part_sh]; exact parts_sh K ps _
    · exact parts_sh K ps s
theorem ruleOf_sh (K : Int) (d : Decl) (s : PS) : ruleOf (s.sh K d).next = ruleOf s.next := by
  obtain ⟨h1, h2, _⟩ := next_sh K d s
  unfold ruleOf
  rw [h1, h2]
theorem decl_sh (K : Int) (d : Decl) (s : PS) : (s.sh K d).decl.1 = s.decl.1 ∧ ∃ d', (s.sh K d).decl.2 = s.decl.2.sh K d' := by
  unfold PS.decl
  rw [ruleOf_sh]
  cases hr : ruleOf s.next with
  | none => exact ⟨rfl, d, fail_sh K d s 3⟩
  | some r =>
    simp only
    obtain ⟨_, _, h3⟩ := take_sh K d s 2 []
    have e : ({ ((s.sh K d).take 2 []).2 with d := { zeroD with kind := r.2.1 } } : PS) = ({ (s.take 2 []).2 with d := { zeroD with kind := r.2.1 } } : PS).sh K ({ (s.take 2 []).2 with d := { zeroD with kind := r.2.1 } } : PS).d := by
      rw [h3]; rfl
    rw [e, parts_sh]
    obtain ⟨_, _, h4⟩ := take_sh1 K (PS.parts { (s.take 2 []).2 with d := { zeroD with kind := r.2.1 } } r.2.2) 4 [(⟨#[59]⟩ : ByteArray)]
    rw [h4]
    exact ⟨rfl, _, rfl⟩

/-! ### what is read does not depend on what stands behind -/
theorem tailR_local {tk : List Tk} {l : List ByteArray} {rest : List Tk} (h : TailR tk l rest) : ∃ c, tk = c ++ rest ∧ (∀ t ∈ c, t.1 ≠ 0) ∧ ∀ v : List Tk, v.head? = rest.head? → TailR (c ++ v) l v := by
  induction h with
  | @nil r hno => exact ⟨[], rfl, by simp, fun v hv => TailR.nil (by show noComma v; unfold noComma; rw [hv]; exact hno)⟩
  | @cons x n m r l rest _ ih =>
    obtain ⟨c, rfl, h2, h3⟩ := ih
    refine ⟨(4, (⟨#[44]⟩ : ByteArray), m) :: (1, x, n) :: c, rfl, ?_, fun v hv => TailR.cons (h3 v hv)⟩
    intro t ht
    simp only [List.mem_cons] at ht
    rcases ht with rfl | rfl | ht
    · exact (by decide : (4 : Int) ≠ 0)
    · exact (by decide : (1 : Int) ≠ 0)
    · exact h2 t ht
theorem clsR_local {left : List ByteArray} {tk : List Tk} {b : Int} {rest : List Tk} (h : ClsR left tk b rest) : ∃ c, tk = c ++ rest ∧ (∀ t ∈ c, t.1 ≠ 0) ∧ ∀ v : List Tk, v.head? = rest.head? → ClsR left (c ++ v) b v := by
  induction h with
  | @one left x n r hx hno =>
    exact ⟨[(2, x, n)], rfl, by simp, fun v hv => ClsR.one hx (by show noComma v; unfold noComma; rw [hv]; exact hno)⟩
  | @cons left x n m b r rest hx _ ih =>
    obtain ⟨c, rfl, h2, h3⟩ := ih
    refine ⟨(2, x, n) :: (4, (⟨#[44]⟩ : ByteArray), m) :: c, rfl, ?_, fun v hv => ClsR.cons hx (h3 v hv)⟩
    intro t ht
    simp only [List.mem_cons] at ht
    rcases ht with rfl | rfl | ht
    · exact (by decide : (2 : Int) ≠ 0)
    · exact (by decide : (4 : Int) ≠ 0)
    · exact h2 t ht
theorem partR_local {p : Part} {tk : List Tk} {d : Decl} {rest : List Tk} {d' : Decl} (h : PartR p tk d rest d') : ∃ c, tk = c ++ rest ∧ (∀ t ∈ c, t.1 ≠ 0) ∧ ∀ v : List Tk, v.head? = rest.head? → PartR p (c ++ v) d v d' := by
  cases h with
  | @name x n r d => exact ⟨[(1, x, n)], rfl, by simp, fun v _ => PartR.name⟩
  | @ref x n r d => exact ⟨[(1, x, n)], rfl, by simp, fun v _ => PartR.ref⟩
  | @number x n r d => exact ⟨[(3, x, n)], rfl, by simp, fun v _ => PartR.number⟩
  | @list x n r l rest d ht hl =>
    obtain ⟨c, rfl, h2, h3⟩ := tailR_local ht
    refine ⟨(1, x, n) :: c, rfl, ?_, fun v hv => PartR.list (h3 v hv) hl⟩
    intro t ht
    rcases List.mem_cons.1 ht with rfl | ht
    · exact (by decide : (1 : Int) ≠ 0)
    · exact h2 t ht
  | classes hc =>
    obtain ⟨c, rfl, h2, h3⟩ := clsR_local hc
    exact ⟨c, rfl, h2, fun v hv => PartR.classes (h3 v hv)⟩
  | @domain x n r d hx => exact ⟨[(2, x, n)], rfl, by simp, fun v _ => PartR.domain hx⟩
  | @always1 n r d => exact ⟨[(2, (⟨#[97, 108, 119, 97, 121, 115]⟩ : ByteArray), n)], rfl, by simp, fun v _ => PartR.always1⟩
  | always0 hno => exact ⟨[], rfl, by simp, fun v hv => PartR.always0 (by show noAlways v; unfold noAlways; rw [hv]; exact hno)⟩
  | @word w n r d => exact ⟨[(2, w, n)], rfl, by simp, fun v _ => PartR.word⟩
theorem partsR_local : ∀ {ps : List Part} {tk : List Tk} {d : Decl} {rest : List Tk} {d' : Decl} (_ : PartsR ps tk d rest d'), ∃ c, tk = c ++ rest ∧ (∀ t ∈ c, t.1 ≠ 0) ∧ ∀ v : List Tk, v.head? = rest.head? → PartsR ps (c ++ v) d v d'
  | _, _, _, _, _, .nil => ⟨[], rfl, by simp, fun _ _ => .nil⟩
  | _, _, _, _, _, .cons h1 h2 => by
    obtain ⟨c1, rfl, a2, a3⟩ := partR_local h1
    obtain ⟨c2, rfl, b2, b3⟩ := partsR_local h2
    refine ⟨c1 ++ c2, by simp, ?_, fun v hv => ?_⟩
    · intro t ht
      rcases List.mem_append.1 ht with ht | ht
      · exact a2 t ht
      · exact b2 t ht
    · rw [List.append_assoc]
      refine .cons (a3 (c2 ++ v) ?_) (b3 v hv)
      cases c2 with
      | nil => exact hv
      | cons => rfl
theorem declR_local {tk : List Tk} {d : Decl} {rest : List Tk} (h : DeclR tk d rest) : ∃ c, tk = c ++ rest ∧ c ≠ [] ∧ (∀ t ∈ c, t.1 ≠ 0) ∧ ∀ v, DeclR (c ++ v) d v := by
  cases h with
  | @mk w k ps n m r rest d hm hp =>
    obtain ⟨c, rfl, h2, h3⟩ := partsR_local hp
    refine ⟨(2, w, n) :: (c ++ [(4, (⟨#[59]⟩ : ByteArray), m)]), by simp, by simp, ?_, fun v => ?_⟩
    · intro t ht
      simp only [List.mem_cons, List.mem_append, List.not_mem_nil, or_false] at ht
      rcases ht with rfl | ht | rfl
      · exact (by decide : (2 : Int) ≠ 0)
      · exact h2 t ht
      · exact (by decide : (4 : Int) ≠ 0)
    · simp only [List.cons_append, List.append_assoc, List.nil_append]
      exact DeclR.mk hm (h3 _ rfl)
/-- the declarations of tokens that stand ahead of others -/
theorem parse_prefix {tk : List Tk} {l : List Decl} (h : ParseR tk l) : ∀ (A : List Tk) (E : Tk), tk = A ++ [E] → E.1 = 0 → (∀ t ∈ A, t.1 ≠ 0) → ∀ (toks : List Tok) (U : List Tk) (out : List Decl) (d : Decl) (f : Nat), U ≠ [] → toks.map tkOf = A ++ U → toks.length < f → out.length + l.length ≤ 1024 →
    ∃ f' d', U.length < f' ∧ parseGo f out ⟨toks, 0, d⟩ = parseGo f' (out ++ l) ⟨toks.drop A.length, 0, d'⟩ := by
  induction h with
  | @nil tk hn =>
    intro A E e hE hA toks U out d f _ ht hf _
    have hA0 : A = [] := by
      cases A with
      | nil => rfl
      | cons a A =>
        rw [e] at hn
        exact absurd (hn a (by simp)) (hA a (by simp))
    subst hA0
    refine ⟨f, d, ?_, by simp⟩
    have := congrArg List.length ht
    simp only [List.length_map, List.nil_append] at this
    omega
  | @cons tk rest dd ds hd _ ih =>
    intro A E e hE hA toks U out d f hU ht hf ho
    obtain ⟨c, e2, hc, hk, hv⟩ := declR_local hd
    have hsplit : ∃ A2, A = c ++ A2 ∧ rest = A2 ++ [E] := by
      rw [e] at e2
      rcases List.append_eq_append_iff.1 e2 with ⟨a, h1, h2⟩ | ⟨a, h1, h2⟩
      · cases a with
        | nil => exact ⟨[], by simpa using h1.symm, by simpa using h2.symm⟩
        | cons x a =>
          simp only [List.cons_append, List.cons.injEq, List.nil_eq, List.append_eq_nil_iff] at h2
          obtain ⟨rfl, rfl, rfl⟩ := h2
          exact absurd hE (hk E (by rw [h1]; simp))
      · exact ⟨a, h1, h2⟩
    obtain ⟨A2, rfl, rfl⟩ := hsplit
    obtain ⟨f', rfl⟩ : ∃ f', f = f' + 1 := ⟨f - 1, by omega⟩
    have hD := hv (A2 ++ U)
    rw [← List.append_assoc, ← ht] at hD
    obtain ⟨k, a1, a2, a3⟩ := decl_go hD toks rfl d
    obtain ⟨t, r, e1, e2'⟩ := declR_head hD
    have hlen := congrArg List.length a2
    have hlen2 := congrArg List.length ht
    have hcl := List.length_pos_iff.2 hc
    simp only [List.length_map, List.length_drop, List.length_append] at hlen hlen2
    have hkn : (PS.next ⟨toks, 0, d⟩).kind ≠ 0 := by
      cases toks with
      | nil => simp at e1
      | cons t0 ts =>
        rw [List.map_cons, List.cons.injEq] at e1
        have h3 : t0.kind = 2 := by have : (tkOf t0).1 = 2 := by rw [e1.1]; exact e2'
                                    exact this
        show t0.kind ≠ 0
        omega
    have hUl := List.length_pos_iff.2 hU
    have hkc : k = c.length := by omega
    subst hkc
    simp only [List.length_cons] at ho
    obtain ⟨f2, d2, g1, g2⟩ := ih A2 E rfl hE (fun t ht => hA t (by simp [ht])) (toks.drop c.length) U (out ++ [dd]) dd f' hU a2 (by rw [List.length_drop]; omega) (by simp; omega)
    refine ⟨f2, d2, g1, ?_⟩
    rw [parseGo, if_neg hkn]
    simp only [if_neg (show ¬ out.length = 1024 by omega)]
    rw [a1]
    simp only [ne_eq, not_true_eq_false, if_false]
    rw [g2, List.drop_drop, List.length_append]
    simp
end Go.Proofs.YtanhkeeifnimgaaDoor
