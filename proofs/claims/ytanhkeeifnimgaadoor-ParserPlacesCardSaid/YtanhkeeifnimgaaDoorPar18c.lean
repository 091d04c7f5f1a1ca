/- Plain Lean: the grammar reads the text of a valid declaration as this declaration, and what it reads from proper tokens is valid. No program in sight. Conditions: none. -/
import Derived.Test.YtanhkeeifnimgaaDoorPar18b
namespace Go.Proofs.YtanhkeeifnimgaaDoor
open Go Go.RowKit Go.Proofs

theorem kd_name {s : ByteArray} (h : isName s = true) : kd s = 1 := (name_wordB h).2
theorem nm_empty {s : ByteArray} (h : s.toList.isEmpty = true) : s = ⟨#[]⟩ := by
  rw [ByteArray.toList_eq, List.isEmpty_iff] at h
  rw [← data_S s, h]; rfl
section
variable {α : Type}
theorem lenI1 {l : List α} (h : (l.length : Int) = 1) : ∃ a, l = [a] := by
  match l, h with
  | [a], _ => exact ⟨a, rfl⟩
  | a :: b :: l, h => simp at h; omega
theorem lenI2 {l : List α} (h : (l.length : Int) = 2) : ∃ a b, l = [a, b] := by
  match l, h with
  | [a, b], _ => exact ⟨a, b, rfl⟩
  | [a], h => simp at h
  | a :: b :: c :: l, h => simp at h; omega
theorem lenI3 {l : List α} (h : (l.length : Int) = 3) : ∃ a b c, l = [a, b, c] := by
  match l, h with
  | [a, b, c], _ => exact ⟨a, b, c, rfl⟩
  | [a], h => simp at h
  | [a, b], h => simp at h
  | a :: b :: c :: d :: l, h => simp at h; omega
theorem lenI4 {l : List α} (h : (l.length : Int) = 4) : ∃ a b c d, l = [a, b, c, d] := by
  match l, h with
  | [a, b, c, d], _ => exact ⟨a, b, c, d, rfl⟩
  | [a], h => simp at h
  | [a, b], h => simp at h
  | [a, b, c], h => simp at h
  | a :: b :: c :: d :: e :: l, h => simp at h; omega
theorem len_pos {l : List α} (h : 1 ≤ (l.length : Int)) : ∃ a r, l = a :: r := by
  match l, h with
  | a :: r, _ => exact ⟨a, r, rfl⟩
theorem len_pos2 {l : List α} (h : 2 ≤ (l.length : Int)) : ∃ a b r, l = a :: b :: r := by
  match l, h with
  | a :: b :: r, _ => exact ⟨a, b, r, rfl⟩
end
/-- the tokens behind the first name of a list -/
def tailTk : List ByteArray → List Tk
  | [] => []
  | x :: l => (4, (⟨#[44]⟩ : ByteArray), 0) :: (1, x, 0) :: tailTk l
theorem listTk_names : ∀ (x : ByteArray) (l : List ByteArray), (x :: l).all isName = true → listTk (x :: l) = (1, x, 0) :: tailTk l
  | x, [], h => by
    simp only [List.all_cons, List.all_nil, Bool.and_true] at h
    simp [listTk, tailTk, kd_name h]
  | x, y :: l, h => by
    rw [List.all_cons, Bool.and_eq_true] at h
    rw [listTk, listTk_names y l h.2, kd_name h.1]
    rfl
theorem tailR_of : ∀ (l : List ByteArray) (rest : List Tk), noComma rest → TailR (tailTk l ++ rest) l rest
  | [], _, h => TailR.nil h
  | _ :: l, rest, h => TailR.cons (tailR_of l rest h)
theorem noComma_semi {m : Int} (rest : List Tk) : noComma ((4, (⟨#[59]⟩ : ByteArray), m) :: rest) := by
  intro t ht hc
  simp only [List.head?_cons, Option.mem_def, Option.some.injEq] at ht
  subst ht
  exact absurd hc.2 (show ¬ ((⟨#[59]⟩ : ByteArray) : ByteArray) = (⟨#[44]⟩ : ByteArray) by decide)
theorem noComma_word {m : Int} (w : ByteArray) (rest : List Tk) : noComma ((2, w, m) :: rest) := by
  intro t ht hc
  simp only [List.head?_cons, Option.mem_def, Option.some.injEq] at ht
  subst ht
  exact absurd hc.1 (show ¬ (2 : Int) = 4 by decide)
theorem noAlways_semi {m : Int} (rest : List Tk) : noAlways ((4, (⟨#[59]⟩ : ByteArray), m) :: rest) := by
  intro t ht hc
  simp only [List.head?_cons, Option.mem_def, Option.some.injEq] at ht
  subst ht
  exact absurd hc.1 (show ¬ (4 : Int) = 2 by decide)
theorem declR_of {w : ByteArray} {ps : List Part} {d : Decl} {mid : List Tk} (hm : (w, d.kind, ps) ∈ rulesT) (hw : kindName d.kind = w)
    (hmid : ((wordsP d.kind d.name d.refs d.nums d.by_ d.always).map (·.2)).flatten = mid) (h : ∀ rest, PartsR ps (mid ++ (4, (⟨#[59]⟩ : ByteArray), 0) :: rest) { zeroD with kind := d.kind } ((4, (⟨#[59]⟩ : ByteArray), 0) :: rest) d) : ∀ rest, DeclR (textTk d ++ rest) d rest := by
  intro rest
  have e : textTk d ++ rest = (2, w, 0) :: (mid ++ (4, (⟨#[59]⟩ : ByteArray), 0) :: rest) := by
    unfold textTk
    rw [hmid, hw]
    simp [S]
  rw [e]
  exact DeclR.mk hm (h rest)

/-- what a token that Scan reads is -/
def GoodT (t : Tk) : Prop := (t.1 = 1 → isName t.2.1 = true) ∧ (t.1 = 3 → numOk t.2.2 = true ∧ t.2.1 = itoaS t.2.2) ∧ (t.1 ≠ 3 → t.2.2 = 0)
theorem good1 {x : ByteArray} {n : Int} (h : GoodT (1, x, n)) : isName x = true ∧ n = 0 := ⟨h.1 rfl, h.2.2 (show (1 : Int) ≠ 3 by decide)⟩
theorem good2 {x : ByteArray} {n : Int} (h : GoodT (2, x, n)) : n = 0 := h.2.2 (show (2 : Int) ≠ 3 by decide)
theorem good3 {x : ByteArray} {n : Int} (h : GoodT (3, x, n)) : numOk n = true ∧ x = itoaS n := h.2.1 rfl
theorem good4 {x : ByteArray} {n : Int} (h : GoodT (4, x, n)) : n = 0 := h.2.2 (show (4 : Int) ≠ 3 by decide)
section
variable {ps : List Part} {tk rest : List Tk} {d d2 : Decl}
theorem g_name (hg : ∀ t ∈ tk, GoodT t) (h : PartsR (.name :: ps) tk d rest d2) : ∃ (x : ByteArray) (r : List Tk), tk = (1, x, 0) :: r ∧ isName x = true ∧ (∀ t ∈ r, GoodT t) ∧ PartsR ps r { d with name := x } rest d2 := by
  cases h with | cons h1 h2 =>
  cases h1 with | @name x n r d =>
  obtain ⟨g, rfl⟩ := good1 (hg _ (List.mem_cons_self ..))
  exact ⟨x, _, rfl, g, fun t ht => hg t (by simp [ht]), h2⟩
theorem g_ref (hg : ∀ t ∈ tk, GoodT t) (h : PartsR (.ref :: ps) tk d rest d2) : ∃ (x : ByteArray) (r : List Tk), tk = (1, x, 0) :: r ∧ isName x = true ∧ (∀ t ∈ r, GoodT t) ∧ PartsR ps r { d with refs := d.refs ++ [x] } rest d2 := by
  cases h with | cons h1 h2 =>
  cases h1 with | @ref x n r d =>
  obtain ⟨g, rfl⟩ := good1 (hg _ (List.mem_cons_self ..))
  exact ⟨x, _, rfl, g, fun t ht => hg t (by simp [ht]), h2⟩
theorem g_number (hg : ∀ t ∈ tk, GoodT t) (h : PartsR (.number :: ps) tk d rest d2) : ∃ (n : Int) (r : List Tk), tk = (3, itoaS n, n) :: r ∧ numOk n = true ∧ (∀ t ∈ r, GoodT t) ∧ PartsR ps r { d with nums := d.nums ++ [n] } rest d2 := by
  cases h with | cons h1 h2 =>
  cases h1 with | @number x n r d =>
  obtain ⟨g, rfl⟩ := good3 (hg _ (List.mem_cons_self ..))
  exact ⟨n, _, rfl, g, fun t ht => hg t (by simp [ht]), h2⟩
theorem g_word {w : ByteArray} (hg : ∀ t ∈ tk, GoodT t) (h : PartsR (.word w :: ps) tk d rest d2) : ∃ (r : List Tk), tk = (2, w, 0) :: r ∧ (∀ t ∈ r, GoodT t) ∧ PartsR ps r d rest d2 := by
  cases h with | cons h1 h2 =>
  cases h1 with | @word w n r d =>
  obtain rfl := good2 (hg _ (List.mem_cons_self ..))
  exact ⟨_, rfl, fun t ht => hg t (by simp [ht]), h2⟩
theorem g_domain (hg : ∀ t ∈ tk, GoodT t) (h : PartsR (.domain :: ps) tk d rest d2) : ∃ (x : ByteArray) (r : List Tk), tk = (2, x, 0) :: r ∧ hasS domL x = true ∧ (∀ t ∈ r, GoodT t) ∧ PartsR ps r { d with by_ := domOf x } rest d2 := by
  cases h with | cons h1 h2 =>
  cases h1 with | @domain x n r d hx =>
  obtain rfl := good2 (hg _ (List.mem_cons_self ..))
  exact ⟨x, _, rfl, hx, fun t ht => hg t (by simp [ht]), h2⟩
theorem g_always (hg : ∀ t ∈ tk, GoodT t) (h : PartsR (.always :: ps) tk d rest d2) : (∃ (r : List Tk), tk = (2, (⟨#[97, 108, 119, 97, 121, 115]⟩ : ByteArray), 0) :: r ∧ (∀ t ∈ r, GoodT t) ∧ PartsR ps r { d with always := true } rest d2) ∨ PartsR ps tk d rest d2 := by
  cases h with | cons h1 h2 =>
  cases h1 with
  | @always1 n r d =>
    obtain rfl := good2 (hg _ (List.mem_cons_self ..))
    exact .inl ⟨_, rfl, fun t ht => hg t (by simp [ht]), h2⟩
  | always0 => exact .inr h2
theorem tailR_inv {l : List ByteArray} (h : TailR tk l rest) : (∀ t ∈ tk, GoodT t) → tk = tailTk l ++ rest ∧ l.all isName = true ∧ (∀ t ∈ rest, GoodT t) := by
  induction h with
  | nil h => intro hg; exact ⟨rfl, rfl, hg⟩
  | @cons x n m r l rest _ ih =>
    intro hg
    obtain rfl := good4 (hg (4, (⟨#[44]⟩ : ByteArray), m) (by simp))
    obtain ⟨g, rfl⟩ := good1 (hg (1, x, n) (by simp))
    obtain ⟨rfl, e2, e3⟩ := ih fun t ht => hg t (by simp [ht])
    exact ⟨rfl, by rw [List.all_cons, g, e2]; rfl, e3⟩
theorem g_list (hg : ∀ t ∈ tk, GoodT t) (h : PartsR (.list :: ps) tk d rest d2) : ∃ (x : ByteArray) (l : List ByteArray) (r : List Tk), tk = (1, x, 0) :: (tailTk l ++ r) ∧ (x :: l).all isName = true ∧ l.length ≤ 15 ∧ (∀ t ∈ r, GoodT t) ∧ PartsR ps r { d with refs := d.refs ++ (x :: l) } rest d2 := by
  cases h with | cons h1 h2 =>
  cases h1 with | @list x n r l rest d ht hl =>
  obtain ⟨g, rfl⟩ := good1 (hg _ (List.mem_cons_self ..))
  obtain ⟨rfl, e2, e3⟩ := tailR_inv ht fun t ht => hg t (by simp [ht])
  exact ⟨x, l, _, rfl, by rw [List.all_cons, g, e2]; rfl, hl, e3, h2⟩
theorem g_end {m : Int} (hg : ∀ t ∈ tk, GoodT t) (h : PartsR [] tk d ((4, (⟨#[59]⟩ : ByteArray), m) :: rest) d2) : tk = (4, (⟨#[59]⟩ : ByteArray), 0) :: rest ∧ d2 = d := by
  cases h
  obtain rfl := good4 (hg _ (List.mem_cons_self ..))
  exact ⟨rfl, rfl⟩
end
/-- the tokens of classes of failures in some order -/
def clsTk : List ByteArray → List Tk
  | [] => []
  | [x] => [(2, x, 0)]
  | x :: y :: l => (2, x, 0) :: (4, (⟨#[44]⟩ : ByteArray), 0) :: clsTk (y :: l)
def sumBits (l : List ByteArray) : Int := (l.map bitOf).foldr (· + ·) 0
/-- the sequences of words that may be read -/
def enum : Nat → List ByteArray → List (List ByteArray)
  | 0, _ => []
  | f + 1, left => left.flatMap fun x => [x] :: (enum f (left.filter fun y => decide (y ≠ x))).map (x :: ·)
theorem enum_ne : ∀ (f : Nat) (left : List ByteArray), ∀ ws ∈ enum f left, ws ≠ []
  | 0, _, _, h => absurd h (by simp [enum])
  | f + 1, left, ws, h => by
    simp only [enum, List.mem_flatMap, List.mem_cons, List.mem_map] at h
    obtain ⟨x, _, rfl | ⟨a, _, rfl⟩⟩ := h <;> simp
theorem clsR_enum {left : List ByteArray} {tk : List Tk} {b : Int} {rest : List Tk} (h : ClsR left tk b rest) : ∀ f, left.length ≤ f → (∀ t ∈ tk, GoodT t) → ∃ ws ∈ enum f left, tk = clsTk ws ++ rest ∧ b = sumBits ws ∧ (∀ t ∈ rest, GoodT t) := by
  induction h with
  | @one left x n r hx _ =>
    intro f hf hg
    have hm := hasS_iff.1 hx
    obtain ⟨f', rfl⟩ : ∃ f', f = f' + 1 := ⟨f - 1, by have := List.length_pos_of_mem hm; omega⟩
    obtain rfl := good2 (hg (2, x, n) (by simp))
    refine ⟨[x], ?_, rfl, by simp [sumBits], fun t ht => hg t (by simp [ht])⟩
    simp only [enum, List.mem_flatMap, List.mem_cons]
    exact ⟨x, hm, .inl rfl⟩
  | @cons left x n m b r rest hx _ ih =>
    intro f hf hg
    have hm := hasS_iff.1 hx
    have hlt := hasS_filter_lt hx
    obtain ⟨f', rfl⟩ : ∃ f', f = f' + 1 := ⟨f - 1, by omega⟩
    obtain rfl := good2 (hg (2, x, n) (by simp))
    obtain rfl := good4 (hg (4, (⟨#[44]⟩ : ByteArray), m) (by simp))
    obtain ⟨ws, h1, h2, h3, h4⟩ := ih f' (by omega) fun t ht => hg t (by simp [ht])
    have hne := enum_ne _ _ _ h1
    refine ⟨x :: ws, ?_, ?_, by simp [sumBits, h3], h4⟩
    · simp only [enum, List.mem_flatMap, List.mem_cons, List.mem_map]
      exact ⟨x, hm, .inr ⟨ws, h1, rfl⟩⟩
    · obtain ⟨y, l, rfl⟩ := List.exists_cons_of_ne_nil hne
      rw [h2]; rfl
theorem g_classes {ps : List Part} {tk rest : List Tk} {d d2 : Decl} (hg : ∀ t ∈ tk, GoodT t) (h : PartsR (.classes :: ps) tk d rest d2) : ∃ (ws : List ByteArray) (r : List Tk), ws ∈ enum 3 clsL ∧ tk = clsTk ws ++ r ∧ (∀ t ∈ r, GoodT t) ∧ PartsR ps r { d with by_ := d.by_ + sumBits ws } rest d2 := by
  cases h with | cons h1 h2 =>
  cases h1 with | classes hc =>
  obtain ⟨ws, a1, rfl, rfl, a4⟩ := clsR_enum hc 3 (by decide) hg
  exact ⟨ws, _, a1, rfl, a4, h2⟩
/-- twice the bytes of tokens -/
def wt : List Tk → Nat
  | [] => 0
  | t :: l => 2 * t.2.1.size + wt l
theorem fmt_len : ∀ l : List Tk, (∀ t ∈ l, 1 ≤ t.2.1.size) → (fmtGo false l).length ≤ wt l
  | [], _ => by simp [fmtGo, wt]
  | t :: l, h => by
    have ih := fmt_len l fun x hx => h x (by simp [hx])
    have h1 := h t (by simp)
    have hb : (bs t.2.1).length = t.2.1.size := rfl
    rw [fmtGo, wt]
    split
    · omega
    · rw [List.length_append, List.length_append]
      split <;> simp <;> omega
theorem lexTo_size {l : List UInt8} {ts : List Tk} (h : LexTo l ts) : ∀ t ∈ ts, 1 ≤ t.2.1.size := by
  induction h with
  | nil => simp
  | @cons l t ts hne htok _ ih =>
    intro x hx
    rcases List.mem_cons.1 hx with rfl | hx
    · have := tok_size (s := S l) (List.length_pos_iff.2 hne) (by rw [htok])
      rw [htok] at this
      exact this.1
    · exact ih x hx
theorem text_wt {d : Decl} (h : okD d = true) : (bs (textD d)).length + 1 ≤ wt (textTk d) := by
  have hz := lexTo_size (text_lex h)
  rw [← fmt_text h]
  unfold textTk at hz ⊢
  rw [List.cons_append] at hz ⊢
  rw [fmtGo, if_neg (show ¬ (2 : Int) = 0 by decide), wt]
  have h1 := fmt_len _ (fun t ht => hz t (List.mem_cons_of_mem _ ht))
  have h2 := hz _ (List.mem_cons_self ..)
  have hb : (bs (kindName d.kind)).length = (kindName d.kind).size := rfl
  simp only [Bool.not_true, Bool.false_and, Bool.false_eq_true, if_false, List.nil_append, List.length_append]
  simp only at h2
  omega
theorem cls_all : ∀ ws ∈ enum 3 clsL, ∃ t c, clsTk ws = t :: c ∧ t.1 = 2 ∧ okD ⟨9, ⟨#[]⟩, [], [], sumBits ws, false⟩ = true ∧ (bs (textD ⟨9, ⟨#[]⟩, [], [], sumBits ws, false⟩)).length + 1 ≤ wt ((2, (⟨#[102, 97, 105, 108, 117, 114, 101, 115]⟩ : ByteArray), 0) :: (clsTk ws ++ [(4, (⟨#[59]⟩ : ByteArray), 0)])) := by
  have key : ∀ ws ∈ enum 3 clsL, ((clsTk ws).head?.map (·.1)) = some 2 ∧ okD ⟨9, ⟨#[]⟩, [], [], sumBits ws, false⟩ = true ∧ (bs (textD ⟨9, ⟨#[]⟩, [], [], sumBits ws, false⟩)).length + 1 ≤ wt ((2, (⟨#[102, 97, 105, 108, 117, 114, 101, 115]⟩ : ByteArray), 0) :: (clsTk ws ++ [(4, (⟨#[59]⟩ : ByteArray), 0)])) := by decide +kernel
  intro ws hws
  obtain ⟨h1, h2, h3⟩ := key ws hws
  cases hc : clsTk ws with
  | nil => rw [hc] at h1; simp at h1
  | cons t c =>
    rw [hc] at h1 h3
    exact ⟨t, c, rfl, by simpa using h1, h2, h3⟩

theorem text_declR {d : Decl} (h : okD d = true) : ∀ rest, DeclR (textTk d ++ rest) d rest := by
  obtain ⟨k, nm, refs, nums, bY, al⟩ := d
  have h' : validB k nm refs nums bY al = true := h
  cases hfm : form? k with
  | none => rw [validB_none hfm] at h'; cases h'
  | some f =>
  have hr : 0 ≤ k ∧ k < 17 := Classical.byContradiction fun hn => by rw [form_none hn] at hfm; cases hfm
  have hk : k = 0 ∨ k = 1 ∨ k = 2 ∨ k = 3 ∨ k = 4 ∨ k = 5 ∨ k = 6 ∨ k = 7 ∨ k = 8 ∨ k = 9 ∨ k = 10 ∨ k = 11 ∨ k = 12 ∨ k = 13 ∨ k = 14 ∨ k = 15 ∨ k = 16 := by omega
  rw [validB_form hfm] at h'
  simp only [Bool.and_eq_true, decide_eq_true_eq] at h'
  obtain ⟨⟨⟨⟨⟨⟨⟨h1, h2⟩, h3⟩, h4⟩, h5⟩, h6⟩, h7⟩, h8⟩ := h'
  clear h hr
  rcases hk with rfl | rfl | rfl | rfl | rfl | rfl | rfl | rfl | rfl | rfl | rfl | rfl | rfl | rfl | rfl | rfl | rfl
  all_goals
    obtain rfl : _ = f := Option.some.inj hfm
    clear hfm
    simp only [if_true, Bool.false_eq_true, if_false] at h1 h2 h3 h4 h5 h6
  · -- site
    have hn := kd_name h6
    obtain rfl : bY = 0 := by simpa [zeroI] using h4
    obtain rfl : al = false := by simpa using h5
    obtain rfl : refs = [] := List.eq_nil_of_length_eq_zero (by omega)
    obtain rfl : nums = [] := List.eq_nil_of_length_eq_zero (by omega)
    exact declR_of (mid := [(1, nm, 0)]) (List.mem_of_getElem? (show rulesT[0]? = some _ from rfl)) rfl (by simp [wordsP, wordTk, hn]) fun rest => .cons .name .nil
  · -- feed
    have hn := kd_name h6
    obtain rfl : bY = 0 := by simpa [zeroI] using h4
    obtain rfl : al = false := by simpa using h5
    obtain rfl : refs = [] := List.eq_nil_of_length_eq_zero (by omega)
    obtain rfl : nums = [] := List.eq_nil_of_length_eq_zero (by omega)
    exact declR_of (mid := [(1, nm, 0)]) (List.mem_of_getElem? (show rulesT[1]? = some _ from rfl)) rfl (by simp [wordsP, wordTk, hn]) fun rest => .cons .name .nil
  · -- rack
    have hn := kd_name h6
    obtain rfl : bY = 0 := by simpa [zeroI] using h4
    obtain rfl : al = false := by simpa using h5
    obtain ⟨a, b, rfl⟩ := lenI2 (l := refs) (by omega)
    obtain rfl : nums = [] := List.eq_nil_of_length_eq_zero (by omega)
    simp only [List.all_cons, List.all_nil, Bool.and_true, Bool.and_eq_true] at h7
    have ka := kd_name h7.1
    have kb := kd_name h7.2
    exact declR_of (mid := [(1, nm, 0), (2, (⟨#[105, 110]⟩ : ByteArray), 0), (1, a, 0), (2, (⟨#[111, 110]⟩ : ByteArray), 0), (1, b, 0)]) (List.mem_of_getElem? (show rulesT[2]? = some _ from rfl)) rfl (by simp [wordsP, wordTk, hn, ka, kb]; decide) fun rest => .cons .name (.cons .word (.cons .ref (.cons .word (.cons .ref .nil))))
  · -- machine
    have hn := kd_name h6
    obtain rfl : bY = 0 := by simpa [zeroI] using h4
    obtain rfl : al = false := by simpa using h5
    obtain ⟨a, rfl⟩ := lenI1 (l := refs) (by omega)
    obtain ⟨i, rfl⟩ := lenI1 (l := nums) (by omega)
    simp only [List.all_cons, List.all_nil, Bool.and_true] at h7
    have ka := kd_name h7
    exact declR_of (mid := [(1, nm, 0), (2, (⟨#[105, 110]⟩ : ByteArray), 0), (1, a, 0), (2, (⟨#[99, 97, 112, 97, 99, 105, 116, 121]⟩ : ByteArray), 0), (3, itoaS i, i)]) (List.mem_of_getElem? (show rulesT[3]? = some _ from rfl)) rfl (by simp [wordsP, wordTk, numTk, hn, ka]; decide) fun rest => .cons .name (.cons .word (.cons .ref (.cons .word (.cons .number .nil))))
  · -- link
    obtain rfl := nm_empty h6
    obtain rfl : bY = 0 := by simpa [zeroI] using h4
    obtain rfl : al = false := by simpa using h5
    obtain ⟨a, b, rfl⟩ := lenI2 (l := refs) (by omega)
    obtain ⟨i, rfl⟩ := lenI1 (l := nums) (by omega)
    simp only [List.all_cons, List.all_nil, Bool.and_true, Bool.and_eq_true] at h7
    have ka := kd_name h7.1
    have kb := kd_name h7.2
    exact declR_of (mid := [(1, a, 0), (1, b, 0), (3, itoaS i, i)]) (List.mem_of_getElem? (show rulesT[4]? = some _ from rfl)) rfl (by simp [wordsP, wordTk, numTk, ka, kb]) fun rest => .cons .ref (.cons .ref (.cons .number .nil))
  · -- group
    have hn := kd_name h6
    obtain rfl : bY = 0 := by simpa [zeroI] using h4
    obtain rfl : al = false := by simpa using h5
    obtain ⟨x, l, rfl⟩ := len_pos (l := refs) (by omega)
    obtain ⟨i, j, m, rfl⟩ := lenI3 (l := nums) (by omega)
    simp only [List.all_cons, Bool.and_eq_true] at h7
    have hl := listTk_names x l (by simp [h7])
    have hlen : l.length ≤ 15 := by simp at h2; omega
    refine declR_of (mid := (1, nm, 0) :: (2, (⟨#[111, 110]⟩ : ByteArray), 0) :: (1, x, 0) :: (tailTk l ++ [(2, (⟨#[108, 111, 97, 100]⟩ : ByteArray), 0), (3, itoaS i, i), (2, (⟨#[115, 105, 122, 101]⟩ : ByteArray), 0), (3, itoaS j, j), (2, (⟨#[115, 104, 97, 114, 101]⟩ : ByteArray), 0), (3, itoaS m, m)])) (List.mem_of_getElem? (show rulesT[5]? = some _ from rfl)) rfl (by simp [wordsP, wordTk, numTk, commaTk, loadP, hn, hl]; decide) fun rest => ?_
    simp only [List.cons_append, List.append_assoc, List.nil_append]
    exact (.cons .name (.cons .word (.cons (.list (tailR_of l _ (noComma_word _ _)) hlen) (.cons .word (.cons .number (.cons .word (.cons .number (.cons .word (.cons .number .nil)))))))))
  · -- pool
    have hn := kd_name h6
    obtain rfl : bY = 0 := by simpa [zeroI] using h4
    obtain rfl : al = false := by simpa using h5
    obtain ⟨x, l, rfl⟩ := len_pos (l := refs) (by omega)
    obtain ⟨i, j, m, q, rfl⟩ := lenI4 (l := nums) (by omega)
    simp only [List.all_cons, Bool.and_eq_true] at h7
    have hl := listTk_names x l (by simp [h7])
    have hlen : l.length ≤ 15 := by simp at h2; omega
    refine declR_of (mid := (1, nm, 0) :: (3, itoaS i, i) :: (2, (⟨#[111, 110]⟩ : ByteArray), 0) :: (1, x, 0) :: (tailTk l ++ [(2, (⟨#[108, 111, 97, 100]⟩ : ByteArray), 0), (3, itoaS j, j), (2, (⟨#[115, 105, 122, 101]⟩ : ByteArray), 0), (3, itoaS m, m), (2, (⟨#[115, 104, 97, 114, 101]⟩ : ByteArray), 0), (3, itoaS q, q)])) (List.mem_of_getElem? (show rulesT[6]? = some _ from rfl)) rfl (by simp [wordsP, wordTk, numTk, commaTk, loadP, hn, hl]; decide) fun rest => ?_
    simp only [List.cons_append, List.append_assoc, List.nil_append]
    exact (.cons .name (.cons .number (.cons .word (.cons (.list (tailR_of l _ (noComma_word _ _)) hlen) (.cons .word (.cons .number (.cons .word (.cons .number (.cons .word (.cons .number .nil))))))))))
  · -- job
    have hn := kd_name h6
    obtain rfl : bY = 0 := by simpa [zeroI] using h4
    obtain rfl : al = false := by simpa using h5
    obtain ⟨a, rfl⟩ := lenI1 (l := refs) (by omega)
    obtain ⟨i, j, m, rfl⟩ := lenI3 (l := nums) (by omega)
    simp only [List.all_cons, List.all_nil, Bool.and_true] at h7
    have ka := kd_name h7
    exact declR_of (mid := [(1, nm, 0), (2, (⟨#[111, 110]⟩ : ByteArray), 0), (1, a, 0), (2, (⟨#[108, 111, 97, 100]⟩ : ByteArray), 0), (3, itoaS i, i), (2, (⟨#[115, 105, 122, 101]⟩ : ByteArray), 0), (3, itoaS j, j), (2, (⟨#[115, 104, 97, 114, 101]⟩ : ByteArray), 0), (3, itoaS m, m)]) (List.mem_of_getElem? (show rulesT[7]? = some _ from rfl)) rfl (by simp [wordsP, wordTk, numTk, loadP, hn, ka]; decide) fun rest => .cons .name (.cons .word (.cons .ref (.cons .word (.cons .number (.cons .word (.cons .number (.cons .word (.cons .number .nil))))))))
  · -- dark
    obtain rfl := nm_empty h6
    obtain rfl : bY = 0 := by simpa [zeroI] using h4
    obtain rfl : al = false := by simpa using h5
    obtain ⟨a, rfl⟩ := lenI1 (l := refs) (by omega)
    obtain ⟨i, j, rfl⟩ := lenI2 (l := nums) (by omega)
    simp only [List.all_cons, List.all_nil, Bool.and_true] at h7
    have ka := kd_name h7
    exact declR_of (mid := [(1, a, 0), (2, (⟨#[115, 108, 111, 116, 115]⟩ : ByteArray), 0), (3, itoaS i, i), (2, (⟨#[114, 101, 115, 101, 114, 118, 101]⟩ : ByteArray), 0), (3, itoaS j, j)]) (List.mem_of_getElem? (show rulesT[8]? = some _ from rfl)) rfl (by simp [wordsP, wordTk, numTk, ka]; decide) fun rest => .cons .ref (.cons .word (.cons .number (.cons .word (.cons .number .nil))))
  · -- failures
    obtain rfl := nm_empty h6
    obtain rfl : al = false := by simpa using h5
    obtain rfl : refs = [] := List.eq_nil_of_length_eq_zero (by omega)
    obtain rfl : nums = [] := List.eq_nil_of_length_eq_zero (by omega)
    have hb : bY = 1 ∨ bY = 2 ∨ bY = 3 ∨ bY = 4 ∨ bY = 5 ∨ bY = 6 ∨ bY = 7 := by simp only [Bool.and_eq_true, decide_eq_true_eq] at h4; omega
    rcases hb with rfl | rfl | rfl | rfl | rfl | rfl | rfl
    · exact declR_of (ps := [.classes]) (List.mem_of_getElem? (show rulesT[9]? = some _ from rfl)) rfl rfl fun rest => .cons (.classes (ClsR.one rfl (noComma_semi _))) .nil
    · exact declR_of (ps := [.classes]) (List.mem_of_getElem? (show rulesT[9]? = some _ from rfl)) rfl rfl fun rest => .cons (.classes (ClsR.one rfl (noComma_semi _))) .nil
    · exact declR_of (ps := [.classes]) (List.mem_of_getElem? (show rulesT[9]? = some _ from rfl)) rfl rfl fun rest => .cons (.classes (ClsR.cons rfl (ClsR.one rfl (noComma_semi _)))) .nil
    · exact declR_of (ps := [.classes]) (List.mem_of_getElem? (show rulesT[9]? = some _ from rfl)) rfl rfl fun rest => .cons (.classes (ClsR.one rfl (noComma_semi _))) .nil
    · exact declR_of (ps := [.classes]) (List.mem_of_getElem? (show rulesT[9]? = some _ from rfl)) rfl rfl fun rest => .cons (.classes (ClsR.cons rfl (ClsR.one rfl (noComma_semi _)))) .nil
    · exact declR_of (ps := [.classes]) (List.mem_of_getElem? (show rulesT[9]? = some _ from rfl)) rfl rfl fun rest => .cons (.classes (ClsR.cons rfl (ClsR.one rfl (noComma_semi _)))) .nil
    · exact declR_of (ps := [.classes]) (List.mem_of_getElem? (show rulesT[9]? = some _ from rfl)) rfl rfl fun rest => .cons (.classes (ClsR.cons rfl (ClsR.cons rfl (ClsR.one rfl (noComma_semi _))))) .nil
  · -- quorum
    obtain rfl := nm_empty h6
    obtain rfl : bY = 0 := by simpa [zeroI] using h4
    obtain rfl : al = false := by simpa using h5
    obtain ⟨a, rfl⟩ := lenI1 (l := refs) (by omega)
    obtain rfl : nums = [] := List.eq_nil_of_length_eq_zero (by omega)
    simp only [List.all_cons, List.all_nil, Bool.and_true] at h7
    have ka := kd_name h7
    exact declR_of (mid := [(1, a, 0)]) (List.mem_of_getElem? (show rulesT[10]? = some _ from rfl)) rfl (by simp [wordsP, wordTk, ka]) fun rest => .cons .ref .nil
  · -- keep
    obtain rfl := nm_empty h6
    obtain rfl : bY = 0 := by simpa [zeroI] using h4
    obtain ⟨a, rfl⟩ := lenI1 (l := refs) (by omega)
    obtain ⟨i, rfl⟩ := lenI1 (l := nums) (by omega)
    simp only [List.all_cons, List.all_nil, Bool.and_true] at h7
    have ka := kd_name h7
    cases al
    · exact declR_of (mid := [(1, a, 0), (3, itoaS i, i)]) (List.mem_of_getElem? (show rulesT[11]? = some _ from rfl)) rfl (by simp [wordsP, wordTk, numTk, ka]) fun rest => .cons .ref (.cons .number (.cons (.always0 (noAlways_semi _)) .nil))
    · exact declR_of (mid := [(1, a, 0), (3, itoaS i, i), (2, (⟨#[97, 108, 119, 97, 121, 115]⟩ : ByteArray), 0)]) (List.mem_of_getElem? (show rulesT[11]? = some _ from rfl)) rfl (by simp [wordsP, wordTk, numTk, ka]; decide) fun rest => .cons .ref (.cons .number (.cons .always1 .nil))
  · -- spread
    obtain rfl := nm_empty h6
    obtain rfl : al = false := by simpa using h5
    obtain ⟨a, rfl⟩ := lenI1 (l := refs) (by omega)
    obtain ⟨i, rfl⟩ := lenI1 (l := nums) (by omega)
    simp only [List.all_cons, List.all_nil, Bool.and_true] at h7
    have ka := kd_name h7
    have hb : bY = 2 ∨ bY = 3 ∨ bY = 4 := by simp only [Bool.and_eq_true, decide_eq_true_eq] at h4; omega
    rcases hb with rfl | rfl | rfl
    · exact declR_of (mid := [(1, a, 0), (2, (⟨#[98, 121]⟩ : ByteArray), 0), (2, (⟨#[114, 97, 99, 107]⟩ : ByteArray), 0), (3, itoaS i, i)]) (List.mem_of_getElem? (show rulesT[12]? = some _ from rfl)) rfl (by simp [wordsP, wordTk, numTk, ka]; decide) fun rest => .cons .ref (.cons .word (.cons (.domain rfl) (.cons .number .nil)))
    · exact declR_of (mid := [(1, a, 0), (2, (⟨#[98, 121]⟩ : ByteArray), 0), (2, (⟨#[102, 101, 101, 100]⟩ : ByteArray), 0), (3, itoaS i, i)]) (List.mem_of_getElem? (show rulesT[12]? = some _ from rfl)) rfl (by simp [wordsP, wordTk, numTk, ka]; decide) fun rest => .cons .ref (.cons .word (.cons (.domain rfl) (.cons .number .nil)))
    · exact declR_of (mid := [(1, a, 0), (2, (⟨#[98, 121]⟩ : ByteArray), 0), (2, (⟨#[115, 105, 116, 101]⟩ : ByteArray), 0), (3, itoaS i, i)]) (List.mem_of_getElem? (show rulesT[12]? = some _ from rfl)) rfl (by simp [wordsP, wordTk, numTk, ka]; decide) fun rest => .cons .ref (.cons .word (.cons (.domain rfl) (.cons .number .nil)))
  · -- only
    obtain rfl := nm_empty h6
    obtain rfl : bY = 0 := by simpa [zeroI] using h4
    obtain rfl : al = false := by simpa using h5
    obtain ⟨a, x, l, rfl⟩ := len_pos2 (l := refs) (by omega)
    obtain rfl : nums = [] := List.eq_nil_of_length_eq_zero (by omega)
    simp only [List.all_cons, Bool.and_eq_true] at h7
    have hl := listTk_names x l (by simp [h7])
    have ka := kd_name h7.1
    have hlen : l.length ≤ 15 := by simp at h2; omega
    refine declR_of (mid := (1, a, 0) :: (2, (⟨#[111, 110]⟩ : ByteArray), 0) :: (1, x, 0) :: (tailTk l ++ [])) (List.mem_of_getElem? (show rulesT[13]? = some _ from rfl)) rfl (by simp [wordsP, wordTk, commaTk, ka, hl]; decide) fun rest => ?_
    simp only [List.cons_append, List.append_assoc, List.nil_append]
    exact (.cons .ref (.cons .word (.cons (.list (tailR_of l _ (noComma_semi _)) hlen) .nil)))
  · -- order
    obtain rfl := nm_empty h6
    obtain rfl : bY = 0 := by simpa [zeroI] using h4
    obtain rfl : al = false := by simpa using h5
    obtain ⟨a, b, rfl⟩ := lenI2 (l := refs) (by omega)
    obtain rfl : nums = [] := List.eq_nil_of_length_eq_zero (by omega)
    simp only [List.all_cons, List.all_nil, Bool.and_true, Bool.and_eq_true] at h7
    have ka := kd_name h7.1
    have kb := kd_name h7.2
    exact declR_of (mid := [(1, a, 0), (2, (⟨#[98, 101, 102, 111, 114, 101]⟩ : ByteArray), 0), (1, b, 0)]) (List.mem_of_getElem? (show rulesT[14]? = some _ from rfl)) rfl (by simp [wordsP, wordTk, ka, kb]; decide) fun rest => .cons .ref (.cons .word (.cons .ref .nil))
  · -- disturb
    obtain rfl := nm_empty h6
    obtain rfl : bY = 0 := by simpa [zeroI] using h4
    obtain rfl : al = false := by simpa using h5
    obtain rfl : refs = [] := List.eq_nil_of_length_eq_zero (by omega)
    obtain ⟨i, rfl⟩ := lenI1 (l := nums) (by omega)
    exact declR_of (mid := [(3, itoaS i, i)]) (List.mem_of_getElem? (show rulesT[15]? = some _ from rfl)) rfl (by simp [wordsP, numTk]) fun rest => .cons .number .nil
  · -- silence
    obtain rfl := nm_empty h6
    obtain rfl : bY = 0 := by simpa [zeroI] using h4
    obtain rfl : al = false := by simpa using h5
    obtain ⟨a, rfl⟩ := lenI1 (l := refs) (by omega)
    obtain ⟨i, rfl⟩ := lenI1 (l := nums) (by omega)
    simp only [List.all_cons, List.all_nil, Bool.and_true] at h7
    have ka := kd_name h7
    exact declR_of (mid := [(1, a, 0), (3, itoaS i, i)]) (List.mem_of_getElem? (show rulesT[16]? = some _ from rfl)) rfl (by simp [wordsP, wordTk, numTk, ka]) fun rest => .cons .ref (.cons .number .nil)
/-- what reading a declaration from proper tokens says of it -/
def DeclG (tk : List Tk) (d : Decl) (rest : List Tk) : Prop :=
  okD d = true ∧ ∃ (w : ByteArray) (t : Tk) (c : List Tk), tk = (2, w, 0) :: t :: (c ++ (4, (⟨#[59]⟩ : ByteArray), 0) :: rest) ∧ 3 ≤ w.size ∧ (t.1 = 1 ∨ t.1 = 2 ∨ t.1 = 3) ∧ (bs (textD d)).length + 1 ≤ wt ((2, w, 0) :: t :: (c ++ [(4, (⟨#[59]⟩ : ByteArray), 0)]))
theorem declG_of {d : Decl} {tk rest : List Tk} {w : ByteArray} {t : Tk} {c : List Tk} (h : okD d = true) (e1 : textTk d = (2, w, 0) :: t :: (c ++ [(4, (⟨#[59]⟩ : ByteArray), 0)])) (e2 : tk = (2, w, 0) :: t :: (c ++ (4, (⟨#[59]⟩ : ByteArray), 0) :: rest)) (hw : 3 ≤ w.size) (ht : t.1 = 1 ∨ t.1 = 2 ∨ t.1 = 3) : DeclG tk d rest :=
  ⟨h, w, t, c, e2, hw, ht, by rw [← e1]; exact text_wt h⟩
theorem cls_good (ws : List ByteArray) (hws : ws ∈ enum 3 clsL) (rest : List Tk) : DeclG ((2, (⟨#[102, 97, 105, 108, 117, 114, 101, 115]⟩ : ByteArray), 0) :: (clsTk ws ++ (4, (⟨#[59]⟩ : ByteArray), 0) :: rest)) ⟨9, ⟨#[]⟩, [], [], 0 + sumBits ws, false⟩ rest := by
  obtain ⟨t, c, e, h1, h2, h3⟩ := cls_all ws hws
  rw [Int.zero_add]
  rw [e] at h3 ⊢
  exact ⟨h2, _, t, c, rfl, by decide, .inr (.inl h1), h3⟩
theorem declR_good {tk : List Tk} {d : Decl} {rest : List Tk} (h : DeclR tk d rest) (hg : ∀ t ∈ tk, GoodT t) : DeclG tk d rest := by
  cases h with
  | @mk w k ps n m r rest d hm hp =>
  obtain rfl := good2 (hg _ (List.mem_cons_self ..))
  replace hg : ∀ t ∈ r, GoodT t := fun t ht => hg t (by simp [ht])
  simp only [rulesT, loadParts, List.cons_append, List.nil_append, List.mem_cons, List.not_mem_nil, or_false, Prod.mk.injEq] at hm
  rcases hm with ⟨rfl, rfl, rfl⟩ | ⟨rfl, rfl, rfl⟩ | ⟨rfl, rfl, rfl⟩ | ⟨rfl, rfl, rfl⟩ | ⟨rfl, rfl, rfl⟩ | ⟨rfl, rfl, rfl⟩ | ⟨rfl, rfl, rfl⟩ | ⟨rfl, rfl, rfl⟩ | ⟨rfl, rfl, rfl⟩ | ⟨rfl, rfl, rfl⟩ | ⟨rfl, rfl, rfl⟩ | ⟨rfl, rfl, rfl⟩ | ⟨rfl, rfl, rfl⟩ | ⟨rfl, rfl, rfl⟩ | ⟨rfl, rfl, rfl⟩ | ⟨rfl, rfl, rfl⟩ | ⟨rfl, rfl, rfl⟩
  · -- site
    obtain ⟨nm, r1, rfl, hn, hg, hp⟩ := g_name hg hp
    obtain ⟨rfl, rfl⟩ := g_end hg hp
    exact declG_of (d := ⟨0, nm, [], [], 0, false⟩) (w := (⟨#[115, 105, 116, 101]⟩ : ByteArray)) (t := (1, nm, 0)) (c := []) (by show validB _ _ _ _ _ _ = true; rw [validB_form rfl]; simp [zeroI, hn]) (by simp [textTk, wordsP, wordTk, kd_name hn]; decide) (by simp) (by decide) (by simp)
  · -- feed
    obtain ⟨nm, r1, rfl, hn, hg, hp⟩ := g_name hg hp
    obtain ⟨rfl, rfl⟩ := g_end hg hp
    exact declG_of (d := ⟨1, nm, [], [], 0, false⟩) (w := (⟨#[102, 101, 101, 100]⟩ : ByteArray)) (t := (1, nm, 0)) (c := []) (by show validB _ _ _ _ _ _ = true; rw [validB_form rfl]; simp [zeroI, hn]) (by simp [textTk, wordsP, wordTk, kd_name hn]; decide) (by simp) (by decide) (by simp)
  · -- rack
    obtain ⟨nm, r1, rfl, hn, hg, hp⟩ := g_name hg hp
    obtain ⟨r2, rfl, hg, hp⟩ := g_word hg hp
    obtain ⟨a, r3, rfl, ha, hg, hp⟩ := g_ref hg hp
    obtain ⟨r4, rfl, hg, hp⟩ := g_word hg hp
    obtain ⟨b, r5, rfl, hb, hg, hp⟩ := g_ref hg hp
    obtain ⟨rfl, rfl⟩ := g_end hg hp
    exact declG_of (d := ⟨2, nm, [a, b], [], 0, false⟩) (w := (⟨#[114, 97, 99, 107]⟩ : ByteArray)) (t := (1, nm, 0)) (c := [(2, (⟨#[105, 110]⟩ : ByteArray), 0), (1, a, 0), (2, (⟨#[111, 110]⟩ : ByteArray), 0), (1, b, 0)]) (by show validB _ _ _ _ _ _ = true; rw [validB_form rfl]; simp [zeroI, hn, ha, hb]) (by simp [textTk, wordsP, wordTk, kd_name hn, kd_name ha, kd_name hb]; decide) (by simp) (by decide) (by simp)
  · -- machine
    obtain ⟨nm, r1, rfl, hn, hg, hp⟩ := g_name hg hp
    obtain ⟨r2, rfl, hg, hp⟩ := g_word hg hp
    obtain ⟨a, r3, rfl, ha, hg, hp⟩ := g_ref hg hp
    obtain ⟨r4, rfl, hg, hp⟩ := g_word hg hp
    obtain ⟨i, r5, rfl, hi, hg, hp⟩ := g_number hg hp
    obtain ⟨rfl, rfl⟩ := g_end hg hp
    exact declG_of (d := ⟨3, nm, [a], [i], 0, false⟩) (w := (⟨#[109, 97, 99, 104, 105, 110, 101]⟩ : ByteArray)) (t := (1, nm, 0)) (c := [(2, (⟨#[105, 110]⟩ : ByteArray), 0), (1, a, 0), (2, (⟨#[99, 97, 112, 97, 99, 105, 116, 121]⟩ : ByteArray), 0), (3, itoaS i, i)]) (by show validB _ _ _ _ _ _ = true; rw [validB_form rfl]; simp [zeroI, hn, ha, hi]) (by simp [textTk, wordsP, wordTk, numTk, kd_name hn, kd_name ha]; decide) (by simp) (by decide) (by simp)
  · -- link
    obtain ⟨a, r1, rfl, ha, hg, hp⟩ := g_ref hg hp
    obtain ⟨b, r2, rfl, hb, hg, hp⟩ := g_ref hg hp
    obtain ⟨i, r3, rfl, hi, hg, hp⟩ := g_number hg hp
    obtain ⟨rfl, rfl⟩ := g_end hg hp
    exact declG_of (d := ⟨4, ⟨#[]⟩, [a, b], [i], 0, false⟩) (w := (⟨#[108, 105, 110, 107]⟩ : ByteArray)) (t := (1, a, 0)) (c := [(1, b, 0), (3, itoaS i, i)]) (by show validB _ _ _ _ _ _ = true; rw [validB_form rfl]; simp [zeroI, ha, hb, hi]) (by simp [textTk, wordsP, wordTk, numTk, kd_name ha, kd_name hb]; decide) (by simp) (by decide) (by simp)
  · -- group
    obtain ⟨nm, r1, rfl, hn, hg, hp⟩ := g_name hg hp
    obtain ⟨r2, rfl, hg, hp⟩ := g_word hg hp
    obtain ⟨x, l, r3, rfl, hx, hlen, hg, hp⟩ := g_list hg hp
    obtain ⟨r4, rfl, hg, hp⟩ := g_word hg hp
    obtain ⟨i, r5, rfl, hi, hg, hp⟩ := g_number hg hp
    obtain ⟨r6, rfl, hg, hp⟩ := g_word hg hp
    obtain ⟨j, r7, rfl, hj, hg, hp⟩ := g_number hg hp
    obtain ⟨r8, rfl, hg, hp⟩ := g_word hg hp
    obtain ⟨m, r9, rfl, hm, hg, hp⟩ := g_number hg hp
    obtain ⟨rfl, rfl⟩ := g_end hg hp
    have hx2 := List.all_cons ▸ hx
    simp only [Bool.and_eq_true] at hx2
    exact declG_of (d := ⟨5, nm, (x :: l), [i, j, m], 0, false⟩) (w := (⟨#[103, 114, 111, 117, 112]⟩ : ByteArray)) (t := (1, nm, 0)) (c := (2, (⟨#[111, 110]⟩ : ByteArray), 0) :: (1, x, 0) :: (tailTk l ++ [(2, (⟨#[108, 111, 97, 100]⟩ : ByteArray), 0), (3, itoaS i, i), (2, (⟨#[115, 105, 122, 101]⟩ : ByteArray), 0), (3, itoaS j, j), (2, (⟨#[115, 104, 97, 114, 101]⟩ : ByteArray), 0), (3, itoaS m, m)])) (by show validB _ _ _ _ _ _ = true; rw [validB_form rfl]; simp [zeroI, hn, hi, hj, hm, hx2.1, hx2.2]; omega) (by simp [textTk, wordsP, wordTk, numTk, commaTk, loadP, kd_name hn, listTk_names x l hx]; decide) (by simp) (by decide) (by simp)
  · -- pool
    obtain ⟨nm, r1, rfl, hn, hg, hp⟩ := g_name hg hp
    obtain ⟨i, r2, rfl, hi, hg, hp⟩ := g_number hg hp
    obtain ⟨r3, rfl, hg, hp⟩ := g_word hg hp
    obtain ⟨x, l, r4, rfl, hx, hlen, hg, hp⟩ := g_list hg hp
    obtain ⟨r5, rfl, hg, hp⟩ := g_word hg hp
    obtain ⟨j, r6, rfl, hj, hg, hp⟩ := g_number hg hp
    obtain ⟨r7, rfl, hg, hp⟩ := g_word hg hp
    obtain ⟨m, r8, rfl, hm, hg, hp⟩ := g_number hg hp
    obtain ⟨r9, rfl, hg, hp⟩ := g_word hg hp
    obtain ⟨q, r10, rfl, hq, hg, hp⟩ := g_number hg hp
    obtain ⟨rfl, rfl⟩ := g_end hg hp
    have hx2 := List.all_cons ▸ hx
    simp only [Bool.and_eq_true] at hx2
    exact declG_of (d := ⟨6, nm, (x :: l), [i, j, m, q], 0, false⟩) (w := (⟨#[112, 111, 111, 108]⟩ : ByteArray)) (t := (1, nm, 0)) (c := (3, itoaS i, i) :: (2, (⟨#[111, 110]⟩ : ByteArray), 0) :: (1, x, 0) :: (tailTk l ++ [(2, (⟨#[108, 111, 97, 100]⟩ : ByteArray), 0), (3, itoaS j, j), (2, (⟨#[115, 105, 122, 101]⟩ : ByteArray), 0), (3, itoaS m, m), (2, (⟨#[115, 104, 97, 114, 101]⟩ : ByteArray), 0), (3, itoaS q, q)])) (by show validB _ _ _ _ _ _ = true; rw [validB_form rfl]; simp [zeroI, hn, hi, hj, hm, hq, hx2.1, hx2.2]; omega) (by simp [textTk, wordsP, wordTk, numTk, commaTk, loadP, kd_name hn, listTk_names x l hx]; decide) (by simp) (by decide) (by simp)
  · -- job
    obtain ⟨nm, r1, rfl, hn, hg, hp⟩ := g_name hg hp
    obtain ⟨r2, rfl, hg, hp⟩ := g_word hg hp
    obtain ⟨a, r3, rfl, ha, hg, hp⟩ := g_ref hg hp
    obtain ⟨r4, rfl, hg, hp⟩ := g_word hg hp
    obtain ⟨i, r5, rfl, hi, hg, hp⟩ := g_number hg hp
    obtain ⟨r6, rfl, hg, hp⟩ := g_word hg hp
    obtain ⟨j, r7, rfl, hj, hg, hp⟩ := g_number hg hp
    obtain ⟨r8, rfl, hg, hp⟩ := g_word hg hp
    obtain ⟨m, r9, rfl, hm, hg, hp⟩ := g_number hg hp
    obtain ⟨rfl, rfl⟩ := g_end hg hp
    exact declG_of (d := ⟨7, nm, [a], [i, j, m], 0, false⟩) (w := (⟨#[106, 111, 98]⟩ : ByteArray)) (t := (1, nm, 0)) (c := [(2, (⟨#[111, 110]⟩ : ByteArray), 0), (1, a, 0), (2, (⟨#[108, 111, 97, 100]⟩ : ByteArray), 0), (3, itoaS i, i), (2, (⟨#[115, 105, 122, 101]⟩ : ByteArray), 0), (3, itoaS j, j), (2, (⟨#[115, 104, 97, 114, 101]⟩ : ByteArray), 0), (3, itoaS m, m)]) (by show validB _ _ _ _ _ _ = true; rw [validB_form rfl]; simp [zeroI, hn, ha, hi, hj, hm]) (by simp [textTk, wordsP, wordTk, numTk, loadP, kd_name hn, kd_name ha]; decide) (by simp) (by decide) (by simp)
  · -- dark
    obtain ⟨a, r1, rfl, ha, hg, hp⟩ := g_ref hg hp
    obtain ⟨r2, rfl, hg, hp⟩ := g_word hg hp
    obtain ⟨i, r3, rfl, hi, hg, hp⟩ := g_number hg hp
    obtain ⟨r4, rfl, hg, hp⟩ := g_word hg hp
    obtain ⟨j, r5, rfl, hj, hg, hp⟩ := g_number hg hp
    obtain ⟨rfl, rfl⟩ := g_end hg hp
    exact declG_of (d := ⟨8, ⟨#[]⟩, [a], [i, j], 0, false⟩) (w := (⟨#[100, 97, 114, 107]⟩ : ByteArray)) (t := (1, a, 0)) (c := [(2, (⟨#[115, 108, 111, 116, 115]⟩ : ByteArray), 0), (3, itoaS i, i), (2, (⟨#[114, 101, 115, 101, 114, 118, 101]⟩ : ByteArray), 0), (3, itoaS j, j)]) (by show validB _ _ _ _ _ _ = true; rw [validB_form rfl]; simp [zeroI, ha, hi, hj]) (by simp [textTk, wordsP, wordTk, numTk, kd_name ha]; decide) (by simp) (by decide) (by simp)
  · -- failures
    obtain ⟨ws, r1, hws, rfl, hg, hp⟩ := g_classes hg hp
    obtain ⟨rfl, rfl⟩ := g_end hg hp
    exact cls_good ws hws rest
  · -- quorum
    obtain ⟨a, r1, rfl, ha, hg, hp⟩ := g_ref hg hp
    obtain ⟨rfl, rfl⟩ := g_end hg hp
    exact declG_of (d := ⟨10, ⟨#[]⟩, [a], [], 0, false⟩) (w := (⟨#[113, 117, 111, 114, 117, 109]⟩ : ByteArray)) (t := (1, a, 0)) (c := []) (by show validB _ _ _ _ _ _ = true; rw [validB_form rfl]; simp [zeroI, ha]) (by simp [textTk, wordsP, wordTk, kd_name ha]; decide) (by simp) (by decide) (by simp)
  · -- keep
    obtain ⟨a, r1, rfl, ha, hg, hp⟩ := g_ref hg hp
    obtain ⟨i, r2, rfl, hi, hg, hp⟩ := g_number hg hp
    rcases g_always hg hp with ⟨r3, rfl, hg, hp⟩ | hp
    · obtain ⟨rfl, rfl⟩ := g_end hg hp
      exact declG_of (d := ⟨11, ⟨#[]⟩, [a], [i], 0, true⟩) (w := (⟨#[107, 101, 101, 112]⟩ : ByteArray)) (t := (1, a, 0)) (c := [(3, itoaS i, i), (2, (⟨#[97, 108, 119, 97, 121, 115]⟩ : ByteArray), 0)]) (by show validB _ _ _ _ _ _ = true; rw [validB_form rfl]; simp [zeroI, ha, hi]) (by simp [textTk, wordsP, wordTk, numTk, kd_name ha]; decide) (by simp) (by decide) (by simp)
    · obtain ⟨rfl, rfl⟩ := g_end hg hp
      exact declG_of (d := ⟨11, ⟨#[]⟩, [a], [i], 0, false⟩) (w := (⟨#[107, 101, 101, 112]⟩ : ByteArray)) (t := (1, a, 0)) (c := [(3, itoaS i, i)]) (by show validB _ _ _ _ _ _ = true; rw [validB_form rfl]; simp [zeroI, ha, hi]) (by simp [textTk, wordsP, wordTk, numTk, kd_name ha]; decide) (by simp) (by decide) (by simp)
  · -- spread
    obtain ⟨a, r1, rfl, ha, hg, hp⟩ := g_ref hg hp
    obtain ⟨r2, rfl, hg, hp⟩ := g_word hg hp
    obtain ⟨x, r3, rfl, hd, hg, hp⟩ := g_domain hg hp
    obtain ⟨i, r4, rfl, hi, hg, hp⟩ := g_number hg hp
    obtain ⟨rfl, rfl⟩ := g_end hg hp
    have hd2 : x = (⟨#[114, 97, 99, 107]⟩ : ByteArray) ∨ x = (⟨#[102, 101, 101, 100]⟩ : ByteArray) ∨ x = (⟨#[115, 105, 116, 101]⟩ : ByteArray) := by simpa [domL, hasS_iff] using hd
    rcases hd2 with rfl | rfl | rfl
    · exact declG_of (d := ⟨12, ⟨#[]⟩, [a], [i], 2, false⟩) (w := (⟨#[115, 112, 114, 101, 97, 100]⟩ : ByteArray)) (t := (1, a, 0)) (c := [(2, (⟨#[98, 121]⟩ : ByteArray), 0), (2, (⟨#[114, 97, 99, 107]⟩ : ByteArray), 0), (3, itoaS i, i)]) (by show validB _ _ _ _ _ _ = true; rw [validB_form rfl]; simp [ha, hi]) (by simp [textTk, wordsP, wordTk, numTk, kd_name ha]; decide) (by simp) (by decide) (by simp)
    · exact declG_of (d := ⟨12, ⟨#[]⟩, [a], [i], 3, false⟩) (w := (⟨#[115, 112, 114, 101, 97, 100]⟩ : ByteArray)) (t := (1, a, 0)) (c := [(2, (⟨#[98, 121]⟩ : ByteArray), 0), (2, (⟨#[102, 101, 101, 100]⟩ : ByteArray), 0), (3, itoaS i, i)]) (by show validB _ _ _ _ _ _ = true; rw [validB_form rfl]; simp [ha, hi]) (by simp [textTk, wordsP, wordTk, numTk, kd_name ha]; decide) (by simp) (by decide) (by simp)
    · exact declG_of (d := ⟨12, ⟨#[]⟩, [a], [i], 4, false⟩) (w := (⟨#[115, 112, 114, 101, 97, 100]⟩ : ByteArray)) (t := (1, a, 0)) (c := [(2, (⟨#[98, 121]⟩ : ByteArray), 0), (2, (⟨#[115, 105, 116, 101]⟩ : ByteArray), 0), (3, itoaS i, i)]) (by show validB _ _ _ _ _ _ = true; rw [validB_form rfl]; simp [ha, hi]) (by simp [textTk, wordsP, wordTk, numTk, kd_name ha]; decide) (by simp) (by decide) (by simp)
  · -- only
    obtain ⟨a, r1, rfl, ha, hg, hp⟩ := g_ref hg hp
    obtain ⟨r2, rfl, hg, hp⟩ := g_word hg hp
    obtain ⟨x, l, r3, rfl, hx, hlen, hg, hp⟩ := g_list hg hp
    obtain ⟨rfl, rfl⟩ := g_end hg hp
    have hx2 := List.all_cons ▸ hx
    simp only [Bool.and_eq_true] at hx2
    exact declG_of (d := ⟨13, ⟨#[]⟩, (a :: x :: l), [], 0, false⟩) (w := (⟨#[111, 110, 108, 121]⟩ : ByteArray)) (t := (1, a, 0)) (c := (2, (⟨#[111, 110]⟩ : ByteArray), 0) :: (1, x, 0) :: (tailTk l ++ [])) (by show validB _ _ _ _ _ _ = true; rw [validB_form rfl]; simp [zeroI, ha, hx2.1, hx2.2]; omega) (by simp [textTk, wordsP, wordTk, commaTk, kd_name ha, listTk_names x l hx]; decide) (by simp) (by decide) (by simp)
  · -- order
    obtain ⟨a, r1, rfl, ha, hg, hp⟩ := g_ref hg hp
    obtain ⟨r2, rfl, hg, hp⟩ := g_word hg hp
    obtain ⟨b, r3, rfl, hb, hg, hp⟩ := g_ref hg hp
    obtain ⟨rfl, rfl⟩ := g_end hg hp
    exact declG_of (d := ⟨14, ⟨#[]⟩, [a, b], [], 0, false⟩) (w := (⟨#[111, 114, 100, 101, 114]⟩ : ByteArray)) (t := (1, a, 0)) (c := [(2, (⟨#[98, 101, 102, 111, 114, 101]⟩ : ByteArray), 0), (1, b, 0)]) (by show validB _ _ _ _ _ _ = true; rw [validB_form rfl]; simp [zeroI, ha, hb]) (by simp [textTk, wordsP, wordTk, kd_name ha, kd_name hb]; decide) (by simp) (by decide) (by simp)
  · -- disturb
    obtain ⟨i, r1, rfl, hi, hg, hp⟩ := g_number hg hp
    obtain ⟨rfl, rfl⟩ := g_end hg hp
    exact declG_of (d := ⟨15, ⟨#[]⟩, [], [i], 0, false⟩) (w := (⟨#[100, 105, 115, 116, 117, 114, 98]⟩ : ByteArray)) (t := (3, itoaS i, i)) (c := []) (by show validB _ _ _ _ _ _ = true; rw [validB_form rfl]; simp [zeroI, hi]) (by simp [textTk, wordsP, numTk]; decide) (by simp) (by decide) (by simp)
  · -- silence
    obtain ⟨a, r1, rfl, ha, hg, hp⟩ := g_ref hg hp
    obtain ⟨i, r2, rfl, hi, hg, hp⟩ := g_number hg hp
    obtain ⟨rfl, rfl⟩ := g_end hg hp
    exact declG_of (d := ⟨16, ⟨#[]⟩, [a], [i], 0, false⟩) (w := (⟨#[115, 105, 108, 101, 110, 99, 101]⟩ : ByteArray)) (t := (1, a, 0)) (c := [(3, itoaS i, i)]) (by show validB _ _ _ _ _ _ = true; rw [validB_form rfl]; simp [zeroI, ha, hi]) (by simp [textTk, wordsP, wordTk, numTk, kd_name ha]; decide) (by simp) (by decide) (by simp)
end Go.Proofs.YtanhkeeifnimgaaDoor
