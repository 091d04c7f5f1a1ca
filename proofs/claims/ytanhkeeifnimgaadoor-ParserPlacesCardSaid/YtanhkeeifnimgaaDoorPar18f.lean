/- Plain Lean: what the tokens of a text are, and how two texts that stand one behind the other are read. No program in sight. Conditions: none. Plain Lean: what the parser answers: on the text of valid declarations, on two sources that are joined, on any source. No program in sight. Conditions: none. -/
import Derived.Test.YtanhkeeifnimgaaDoorPar18d
import Derived.Test.YtanhkeeifnimgaaDoorSyn17u

namespace Go.Proofs.YtanhkeeifnimgaaDoor
open Go Go.RowKit Go.Proofs

theorem decD_step (a d : Nat) (ha : 0 < a) (hd : d < 10) : Lib.decDigits (10 * a + d) = Lib.decDigits a ++ [UInt8.ofNat (48 + d)] := by
  rw [Lib.decDigits, dif_neg (by omega), show (10 * a + d) / 10 = a by omega, show (10 * a + d) % 10 = d by omega]
theorem byte_back {c : UInt8} (h : 48 ≤ c.toNat ∧ c.toNat ≤ 57) : UInt8.ofNat (48 + (c.toNat - 48)) = c := by
  rw [show 48 + (c.toNat - 48) = c.toNat by omega]
  exact UInt8.ofNat_toNat
theorem decD_fold : ∀ (ds : List UInt8) (a : Nat), 0 < a → (∀ c ∈ ds, 48 ≤ c.toNat ∧ c.toNat ≤ 57) → Lib.decDigits (ds.foldl (fun n c => 10 * n + (c.toNat - 48)) a) = Lib.decDigits a ++ ds
  | [], a, _, _ => by simp
  | c :: ds, a, ha, h => by
    have hc := h c (by simp)
    rw [List.foldl_cons, decD_fold ds _ (by omega) (fun x hx => h x (by simp [hx])), decD_step a _ ha (by omega), byte_back hc]
    simp
theorem decD_all {ds : List UInt8} (hne : ds ≠ []) (h : ∀ c ∈ ds, 48 ≤ c.toNat ∧ c.toNat ≤ 57) (hz : 1 < ds.length → ds.head? ≠ some 48) : Lib.decDigits (ds.foldl (fun n c => 10 * n + (c.toNat - 48)) 0) = ds := by
  obtain ⟨c, r, rfl⟩ := List.exists_cons_of_ne_nil hne
  have hc := h c (by simp)
  rw [List.foldl_cons]
  by_cases h0 : c.toNat - 48 = 0
  · have hr : r = [] := by
      cases r with
      | nil => rfl
      | cons x r =>
        refine absurd ?_ (hz (by simp))
        have : c = 48 := by
          have h1 : c.toNat = 48 := by omega
          rw [← UInt8.ofNat_toNat (x := c), h1]; rfl
        rw [this]; rfl
    subst hr
    simp only [List.foldl_nil]
    rw [Lib.decDigits_one (by omega), show 48 + (10 * 0 + (c.toNat - 48)) = 48 + (c.toNat - 48) by omega, byte_back hc]
  · rw [decD_fold r _ (by omega) (fun x hx => h x (by simp [hx])), Lib.decDigits_one (by omega), show 48 + (10 * 0 + (c.toNat - 48)) = 48 + (c.toNat - 48) by omega, byte_back hc]
    rfl
theorem numV_val : ∀ (l : List UInt8) (a v : Int), a ≤ 1048576 → numV l a = some v → v = l.foldl (fun n c => 10 * n + ((c.toNat : Int) - 48)) a ∧ v ≤ 1048576
  | [], a, v, ha, h => by
    rw [numV] at h
    obtain rfl : a = v := Option.some.inj h
    exact ⟨rfl, ha⟩
  | c :: t, a, v, ha, h => by
    rw [numV] at h
    split at h
    · cases h
    · exact numV_val t (10 * a + ((c.toNat : Int) - 48)) v (by omega) h
theorem nDig_pow : ∀ (k u : Nat), u < 10 ^ (k + 1) → Lib.nDigits u ≤ k + 1
  | 0, u, h => by rw [Lib.nDigits_small (by simpa using h)]; exact Nat.le_refl _
  | k + 1, u, h => by
    by_cases h1 : u < 10
    · rw [Lib.nDigits_small h1]; omega
    · rw [Lib.nDigits_big h1]
      have := nDig_pow k (u / 10) (by rw [Nat.pow_succ] at h; omega)
      omega
theorem nDig_le {u : Nat} (h : u ≤ 1048576) : Lib.nDigits u ≤ 7 := nDig_pow 6 u (by omega)
theorem ext0 (s : ByteArray) (n : Nat) : bs (s.extract 0 n) = (bs s).take n := by
  show (s.extract 0 n).data.toList = _
  rw [Lib.extract_data]
  simp [bs]
theorem take_while {α : Type} (p : α → Bool) (l : List α) : l.take (l.takeWhile p).length = l.takeWhile p := (List.prefix_iff_eq_take.1 (List.takeWhile_prefix p)).symm
theorem mem_takeWhile {α : Type} {p : α → Bool} {l : List α} {c : α} (h : c ∈ l.takeWhile p) : p c = true := by
  induction l with
  | nil => simp at h
  | cons x l ih =>
    rw [List.takeWhile_cons] at h
    split at h
    · rcases List.mem_cons.1 h with rfl | h
      · assumption
      · exact ih h
    · simp at h
theorem word_text (s : ByteArray) : bs (s.extract 0 (wordN s)) = (bs s).takeWhile nmC := by rw [ext0]; exact take_while nmC (bs s)
theorem num_text (s : ByteArray) : bs (s.extract 0 (numN s)) = (bs s).takeWhile digC := by rw [ext0]; exact take_while digC (bs s)
theorem dig_range {c : UInt8} (h : digC c = true) : 48 ≤ c.toNat ∧ c.toNat ≤ 57 := by
  simp only [digC, digitI, Bool.and_eq_true, decide_eq_true_eq] at h
  omega
theorem nm_no35 {c : UInt8} (h : nmC c = true) : c ≠ 35 := by rintro rfl; exact absurd h (by decide)
theorem dig_no35 {c : UInt8} (h : digC c = true) : c ≠ 35 := by rintro rfl; exact absurd h (by decide)
/-- a token that is read: its kind, its text -/
inductive TokIs (s : ByteArray) : Tok → Prop
  | word {c : UInt8} {r : List UInt8} : bs s = c :: r → letC c = true → wordN s ≤ 31 → TokIs s ⟨if hasS keywords (s.extract 0 (wordN s)) then 2 else 1, s.extract 0 (wordN s), 0, 0⟩
  | num {c : UInt8} {r : List UInt8} {v : Int} : bs s = c :: r → digC c = true → numOdd s = false → numV ((bs s).take (numN s)) 0 = some v → TokIs s ⟨3, s.extract 0 (numN s), v, 0⟩
  | sym {c : UInt8} {r : List UInt8} : bs s = c :: r → c = 59 ∨ c = 44 → TokIs s ⟨4, s.extract 0 1, 0, 0⟩
theorem tok_is {s : ByteArray} {t : Tok} (h : tokT s = (t, 0)) : TokIs s t := by
  unfold tokT at h
  cases hb : s.data.toList with
  | nil => rw [hb] at h; simp at h
  | cons c r =>
    rw [hb] at h
    simp only at h
    by_cases h1 : letC c = true
    · rw [if_pos h1] at h
      unfold wordT at h
      by_cases h2 : 31 < wordN s
      · rw [if_pos h2] at h; simp at h
      · rw [if_neg h2] at h
        obtain rfl := (Prod.mk.inj h).1
        exact TokIs.word hb h1 (by omega)
    · rw [if_neg h1] at h
      by_cases h2 : digC c = true
      · rw [if_pos h2] at h
        unfold numT at h
        by_cases h3 : numOdd s = true
        · rw [if_pos h3] at h; simp at h
        · rw [if_neg h3] at h
          cases hv : numV (s.data.toList.take (numN s)) 0 with
          | none => rw [hv] at h; simp at h
          | some v =>
            rw [hv] at h
            obtain rfl := (Prod.mk.inj h).1
            exact TokIs.num hb h2 (by simpa using h3) hv
      · rw [if_neg h2] at h
        by_cases h3 : c = 59 ∨ c = 44
        · rw [if_pos h3] at h
          obtain rfl := (Prod.mk.inj h).1
          exact TokIs.sym hb h3
        · rw [if_neg h3] at h; simp at h
theorem let_nm {c : UInt8} (h : letC c = true) : nmC c = true := by unfold nmC nameI; rw [show letterI c.toNat = true from h]; rfl
theorem tok_good {s : ByteArray} {t : Tok} (h : tokT s = (t, 0)) : GoodT (tkOf t) ∧ t.kind ≠ 0 ∧ t.text.size ≤ 31 ∧ (∀ c ∈ bs t.text, c ≠ 35) := by
  cases tok_is h with
  | @word c r hb hc h31 =>
    have ht := word_text s
    have hsz : (s.extract 0 (wordN s)).size = ((bs s).takeWhile nmC).length := congrArg List.length ht
    have hsz2 : wordN s = ((bs s).takeWhile nmC).length := rfl
    have hfirst : (bs s).takeWhile nmC = c :: r.takeWhile nmC := by rw [hb, List.takeWhile_cons, if_pos (let_nm hc)]
    refine ⟨?_, ?_, by show (s.extract 0 (wordN s)).size ≤ 31; omega, fun x hx => ?_⟩
    · by_cases hk : hasS keywords (s.extract 0 (wordN s)) = true
      · simp only [tkOf, hk, if_true]
        exact ⟨fun h => absurd h (show ¬ (2 : Int) = 1 by decide), fun h => absurd h (show ¬ (2 : Int) = 3 by decide), fun _ => rfl⟩
      · have hk' : hasS keywords (s.extract 0 (wordN s)) = false := by simpa using hk
        simp only [tkOf, hk', Bool.false_eq_true, if_false]
        refine ⟨fun _ => ?_, fun h => absurd h (show ¬ (1 : Int) = 3 by decide), fun _ => rfl⟩
        have ht' : (s.extract 0 (wordN s)).data.toList = (bs s).takeWhile nmC := ht
        unfold isName
        rw [ht', hfirst]
        have hl : 1 ≤ ((bs s).takeWhile nmC).length := by rw [hfirst]; simp
        have ha : (c :: r.takeWhile nmC).all (fun c => nameI c.toNat) = true := by
          rw [← hfirst, List.all_eq_true]
          exact fun x hx => (mem_takeWhile hx : nmC x = true)
        have hc' : letterI ((c :: r.takeWhile nmC).getD 0 0).toNat = true := hc
        rw [ha, hc', hk']
        simp only [hsz, Bool.and_true, Bool.not_false, Bool.and_eq_true, decide_eq_true_eq]
        exact ⟨hl, by omega⟩
    · simp only
      split <;> decide
    · exact nm_no35 (mem_takeWhile (ht ▸ hx))
  | @num c r v hb hc ho hv =>
    have ht := num_text s
    have hd : ∀ x ∈ (bs s).takeWhile digC, 48 ≤ x.toNat ∧ x.toNat ≤ 57 := fun x hx => dig_range (mem_takeWhile hx)
    have hfirst : (bs s).takeWhile digC = c :: r.takeWhile digC := by rw [hb, List.takeWhile_cons, if_pos hc]
    have hn : (bs s).take (numN s) = (bs s).takeWhile digC := take_while digC (bs s)
    rw [hn] at hv
    obtain ⟨h1, h2⟩ := numV_val _ 0 v (by decide) hv
    have hf := foldl_val ((bs s).takeWhile digC) hd 0
    simp only [Int.cast_ofNat_Int] at hf
    rw [hf] at h1
    have hz : 1 < ((bs s).takeWhile digC).length → ((bs s).takeWhile digC).head? ≠ some 48 := by
      intro hl
      have e1 : numN s = ((bs s).takeWhile digC).length := rfl
      unfold numOdd at ho
      simp only [Bool.or_eq_false_iff, Bool.and_eq_false_iff, decide_eq_false_iff_not] at ho
      rcases ho.1 with h | h
      · omega
      · rw [hfirst]
        have : (bs s).head? = some c := by rw [hb]; rfl
        change ¬ (bs s).head? = some 48 at h
        rw [this] at h
        exact h
    have hall := decD_all (by rw [hfirst]; simp) hd hz
    have hok : numOk v = true := by simp only [numOk, Bool.and_eq_true, decide_eq_true_eq]; omega
    have htx : s.extract 0 (numN s) = itoaS v := by
      apply bs_inj
      rw [ht, bs_itoa hok, h1, Int.toNat_natCast, hall]
    refine ⟨⟨fun h => absurd h (by simp [tkOf]), fun _ => ⟨hok, htx⟩, fun h => absurd rfl h⟩, by simp, ?_, fun x hx => dig_no35 (mem_takeWhile (ht ▸ hx))⟩
    have hlen : ((bs s).takeWhile digC).length ≤ 7 := by
      rw [← hall, Lib.decDigits_length]
      have := nDig_le (u := List.foldl (fun n c => 10 * n + (c.toNat - 48)) 0 ((bs s).takeWhile digC)) (by omega)
      exact this
    show (s.extract 0 (numN s)).size ≤ 31
    have : (s.extract 0 (numN s)).size = ((bs s).takeWhile digC).length := congrArg List.length ht
    omega
  | @sym c r hb hc =>
    refine ⟨⟨fun h => absurd h (by simp [tkOf]), fun h => absurd h (by simp [tkOf]), fun _ => rfl⟩, by simp, ?_, ?_⟩
    · show (s.extract 0 1).size ≤ 31
      rw [ByteArray.size_extract]; omega
    · show ∀ x ∈ bs (s.extract 0 1), x ≠ 35
      rw [ext0, hb]
      intro x hx
      have : x = c := by simpa using hx
      subst this
      rcases hc with rfl | rfl <;> decide
theorem lex_good {l : List UInt8} {ts : List Tk} (h : LexTo l ts) : ∀ t ∈ ts, GoodT t ∧ t.1 ≠ 0 ∧ t.2.1.size ≤ 31 ∧ (∀ c ∈ bs t.2.1, c ≠ 35) := by
  induction h with
  | nil => simp
  | @cons l t ts hne htok _ ih =>
    intro x hx
    rcases List.mem_cons.1 hx with rfl | hx
    · exact tok_good htok
    · exact ih x hx
theorem skipL_le (l : List UInt8) : (skipL l).length ≤ l.length := skip_len_le false l
theorem lex_wt {l : List UInt8} {ts : List Tk} (h : LexTo l ts) : wt ts ≤ 2 * l.length := by
  induction h with
  | nil => simp [wt]
  | @cons l t ts hne htok _ ih =>
    have h1 := tok_size (s := S l) (List.length_pos_iff.2 hne) (by rw [htok])
    rw [htok] at h1
    have h2 := skipL_le (l.drop t.text.size)
    rw [List.length_drop] at h2
    have h3 : (S l).size = l.length := rfl
    show 2 * t.text.size + wt ts ≤ _
    simp only at h1
    omega
/-- the bytes that tokens take at the least: two words want something between them -/
def wl (t : Tk) : Bool := decide (t.1 = 1) || decide (t.1 = 2) || decide (t.1 = 3)
def cost : List Tk → Nat
  | [] => 0
  | [t] => t.2.1.size
  | t :: u :: r => t.2.1.size + (if wl t && wl u then 1 else 0) + cost (u :: r)
theorem cost_ge (t : Tk) (r : List Tk) : t.2.1.size + cost r ≤ cost (t :: r) := by
  cases r with
  | nil => simp [cost]
  | cons u r => rw [cost]; omega
theorem cost_app : ∀ (c r : List Tk), cost r ≤ cost (c ++ r)
  | [], _ => Nat.le_refl _
  | t :: c, r => by
    have := cost_app c r
    have := cost_ge t (c ++ r)
    rw [List.cons_append]; omega
theorem wl_head {s : ByteArray} {t : Tok} (h : tokT s = (t, 0)) (hw : wl (tkOf t) = true) : ∃ c r, bs s = c :: r ∧ (letC c = true ∨ digC c = true) := by
  cases tok_is h with
  | word hb hc _ => exact ⟨_, _, hb, .inl hc⟩
  | num hb hc _ _ => exact ⟨_, _, hb, .inr hc⟩
  | sym hb hc => exact absurd hw (by simp [wl, tkOf])
theorem wl_next {s : ByteArray} {t : Tok} (h : tokT s = (t, 0)) (hw : wl (tkOf t) = true) {c : UInt8} {r : List UInt8} (hd : (bs s).drop t.text.size = c :: r) : letC c = false ∧ digC c = false := by
  cases tok_is h with
  | @word c0 r0 hb hc h31 =>
    have hz : (s.extract 0 (wordN s)).size = ((bs s).takeWhile nmC).length := congrArg List.length (word_text s)
    simp only [hz] at hd
    rw [← dropWhile_drop] at hd
    have := dropWhile_head hd
    simp only [nmC, nameI, Bool.or_eq_false_iff] at this
    exact ⟨this.1.1, this.1.2⟩
  | @num c0 r0 v hb hc ho hv =>
    have hz : (s.extract 0 (numN s)).size = ((bs s).takeWhile digC).length := congrArg List.length (num_text s)
    simp only [hz] at hd
    have hd2 := hd
    rw [← dropWhile_drop] at hd2
    refine ⟨?_, dropWhile_head hd2⟩
    unfold numOdd at ho
    simp only [Bool.or_eq_false_iff, decide_eq_false_iff_not] at ho
    have h2 := ho.2
    change ¬ 0 < (((bs s).drop ((bs s).takeWhile digC).length).takeWhile lowC).length at h2
    rw [hd, List.takeWhile_cons] at h2
    by_cases hl : lowC c = true
    · rw [if_pos hl] at h2; simp at h2
    · have : lowC c = false := by simpa using hl
      simp only [lowC, Bool.or_eq_false_iff] at this
      exact this.1
  | sym => exact absurd hw (by simp [wl, tkOf])
theorem lexTo_inv {l : List UInt8} {u : Tk} {r : List Tk} (h : LexTo l (u :: r)) : ∃ t : Tok, l ≠ [] ∧ tokT (S l) = (t, 0) ∧ u = tkOf t := by
  cases h with
  | cons h1 h2 _ => exact ⟨_, h1, h2, rfl⟩
theorem lex_cost {l : List UInt8} {ts : List Tk} (h : LexTo l ts) : cost ts ≤ l.length := by
  induction h with
  | nil => simp [cost]
  | @cons l t ts hne htok hrest ih =>
    have h1 := tok_size (s := S l) (List.length_pos_iff.2 hne) (by rw [htok])
    rw [htok] at h1
    have h3 : (S l).size = l.length := rfl
    simp only at h1
    have h2 := skipL_le (l.drop t.text.size)
    have hdl : (l.drop t.text.size).length = l.length - t.text.size := List.length_drop
    cases ts with
    | nil => show t.text.size ≤ _; omega
    | cons u r =>
      rw [cost]
      by_cases hw : (wl (tkOf t) && wl u) = true
      · rw [if_pos hw]
        rw [Bool.and_eq_true] at hw
        have hlt : (skipL (l.drop t.text.size)).length < (l.drop t.text.size).length := by
          obtain ⟨k, hk, ek⟩ := skip_suffix false (l.drop t.text.size)
          change skipL _ = _ at ek
          by_cases hk0 : k = 0
          · subst hk0
            rw [List.drop_zero] at ek
            rw [ek] at hrest
            obtain ⟨t2, hne2, htok2, eu⟩ := lexTo_inv hrest
            obtain ⟨c, r2, e1, e2⟩ := wl_head htok2 (eu ▸ hw.2)
            change l.drop t.text.size = c :: r2 at e1
            have := wl_next htok hw.1 (c := c) (r := r2) e1
            rcases e2 with e2 | e2
            · rw [this.1] at e2; cases e2
            · rw [this.2] at e2; cases e2
          · have hne3 : l.drop t.text.size ≠ [] := by
              intro e
              rw [e] at hrest
              obtain ⟨_, h, _⟩ := lexTo_inv hrest
              exact h rfl
            have := List.length_pos_iff.2 hne3
            rw [ek, List.length_drop]; omega
        show t.text.size + 1 + cost (u :: r) ≤ _
        omega
      · rw [if_neg hw]
        show t.text.size + 0 + cost (u :: r) ≤ _
        omega
theorem scan_lex (s : ByteArray) : ∀ (f k : Nat) (out l : List Tok) (p : Int), k ≤ s.size → s.size < f + k → scanGo s f k out = (l, p, 0) →
    ∃ toks, l = out ++ toks ++ [⟨0, ⟨#[]⟩, 0, s.size⟩] ∧ LexTo ((bs s).drop k) (toks.map tkOf) ∧ p = 0
  | 0, k, out, l, p, hk, hf, _ => absurd hf (by omega)
  | f + 1, k, out, l, p, hk, hf, h => by
    have hdl : ((bs s).drop k).length = s.size - k := by rw [List.length_drop]; rfl
    rw [scanGo] at h
    by_cases hlt : k < s.size
    · rw [if_pos hlt] at h
      have hex : tokT (s.extract k s.size) = tokT (S ((bs s).drop k)) := by rw [extract_S]; rfl
      cases htk : tokT (s.extract k s.size) with
      | mk t e =>
        rw [htk] at h
        simp only at h
        by_cases he : e = 0
        · subst he
          simp only [ne_eq, not_true_eq_false, if_false] at h
          have hts := tok_size (s := s.extract k s.size) (by rw [ByteArray.size_extract]; omega) (by rw [htk])
          rw [htk, ByteArray.size_extract] at hts
          simp only at hts
          have hm : skipN (s.data.toList.drop (k + t.text.size)) ≤ s.size - (k + t.text.size) := by
            have := skipN_le (s.data.toList.drop (k + t.text.size))
            rw [drop_len _ _ (by omega)] at this
            exact this
          obtain ⟨toks, a1, a2, a3⟩ := scan_lex s f _ _ l p (by omega) (by omega) h
          refine ⟨⟨t.kind, t.text, t.n, k⟩ :: toks, by rw [a1]; simp, ?_, a3⟩
          rw [List.map_cons]
          refine LexTo.cons (t := t) (by intro e; rw [e] at hdl; simp at hdl; omega) (by rw [← hex, htk]) ?_
          rw [List.drop_drop, skip_drop, List.drop_drop]
          exact a2
        · rw [if_pos he] at h
          simp only [Prod.mk.injEq] at h
          exact absurd h.2.2 he
    · rw [if_neg hlt] at h
      simp only [Prod.mk.injEq] at h
      obtain ⟨rfl, rfl, _⟩ := h
      refine ⟨[], by simp, ?_, rfl⟩
      have : (bs s).drop k = [] := by apply List.eq_nil_of_length_eq_zero; omega
      rw [this]; exact LexTo.nil
theorem skip_at {s : ByteArray} : (bs s).drop (skipN (bs s)) = skipL (bs s) := (skip_drop (bs s)).symm
theorem scanT_lex {s : ByteArray} {l : List Tok} {p : Int} (h : scanT s = (l, p, 0)) : s.size ≤ 16384 ∧ p = 0 ∧ ∃ toks, l = toks ++ [⟨0, ⟨#[]⟩, 0, s.size⟩] ∧ LexTo (skipL (bs s)) (toks.map tkOf) := by
  unfold scanT at h
  by_cases hb : 16384 < s.size
  · rw [if_pos hb] at h; simp at h
  · rw [if_neg hb] at h
    have hk : skipN s.data.toList ≤ s.size := skipN_le (bs s)
    obtain ⟨toks, a1, a2, a3⟩ := scan_lex s (s.size + 1) (skipN s.data.toList) [] l p hk (by omega) h
    refine ⟨by omega, a3, toks, by simpa using a1, ?_⟩
    rw [← skip_at]; exact a2

/-! ### two texts one behind the other -/
/-- what may stand between two texts: a line feed, or a blank where there is no comment -/
def SepOk (sep : UInt8) (l : List UInt8) : Prop := sep = 10 ∨ (sep = 32 ∧ ∀ c ∈ l, c ≠ 35)
theorem SepOk.sub {sep : UInt8} {l l2 : List UInt8} (h : SepOk sep l) (hs : ∀ c ∈ l2, c ∈ l) : SepOk sep l2 := by
  rcases h with h | ⟨h1, h2⟩
  · exact .inl h
  · exact .inr ⟨h1, fun c hc => h2 c (hs c hc)⟩
theorem skip_sep {sep : UInt8} (m : List UInt8) : ∀ (b : Bool) (l : List UInt8), SepOk sep l → (b = true → sep = 10) → skipM b (l ++ sep :: m) = if skipM b l = [] then skipL m else skipM b l ++ sep :: m
  | true, [], _, hb => by
    obtain rfl := hb rfl
    show skipM true (10 :: m) = _
    rw [skipM, if_pos rfl]; rfl
  | false, [], h, _ => by
    have : spB sep = true := by rcases h with rfl | ⟨rfl, _⟩ <;> decide
    show skipM false (sep :: m) = _
    rw [show skipM false [] = [] from rfl, if_pos rfl, skipM, if_pos this]; rfl
  | true, c :: t, h, hb => by
    rw [List.cons_append, skipM, skipM]
    by_cases hc : c = 10
    · rw [if_pos hc, if_pos hc]
      exact skip_sep m false t (h.sub fun x hx => by simp [hx]) (by simp)
    · rw [if_neg hc, if_neg hc]
      exact skip_sep m true t (h.sub fun x hx => by simp [hx]) hb
  | false, c :: t, h, _ => by
    rw [List.cons_append, skipM, skipM]
    by_cases h1 : spB c = true
    · rw [if_pos h1, if_pos h1]
      exact skip_sep m false t (h.sub fun x hx => by simp [hx]) (by simp)
    · rw [if_neg h1, if_neg h1]
      by_cases h2 : c = 35
      · rw [if_pos h2, if_pos h2]
        refine skip_sep m true t (h.sub fun x hx => by simp [hx]) fun _ => ?_
        rcases h with h | ⟨_, h⟩
        · exact h
        · exact absurd h2 (h c (by simp))
      · rw [if_neg h2, if_neg h2, if_neg (by simp)]
        rfl
theorem takeWhile_sep {p : UInt8 → Bool} {sep : UInt8} (hp : p sep = false) (m : List UInt8) : ∀ l : List UInt8, (l ++ sep :: m).takeWhile p = l.takeWhile p
  | [] => by rw [List.nil_append, List.takeWhile_cons, if_neg (by simp [hp])]; rfl
  | c :: l => by rw [List.cons_append, List.takeWhile_cons, List.takeWhile_cons, takeWhile_sep hp m l]
theorem S_ext (l : List UInt8) (n : Nat) : (S l).extract 0 n = S (l.take n) := by
  apply bs_inj
  rw [ext0]; rfl
theorem tok_sep {sep : UInt8} (hs : sep = 10 ∨ sep = 32) {l : List UInt8} (hne : l ≠ []) (m : List UInt8) : tokT (S (l ++ sep :: m)) = tokT (S l) := by
  have hn : nmC sep = false := by rcases hs with rfl | rfl <;> decide
  have hd : digC sep = false := by rcases hs with rfl | rfl <;> decide
  have hl : lowC sep = false := by rcases hs with rfl | rfl <;> decide
  obtain ⟨c, t, rfl⟩ := List.exists_cons_of_ne_nil hne
  have hw : wordN (S (c :: t ++ sep :: m)) = wordN (S (c :: t)) := by
    unfold wordN; rw [S_data, S_data, takeWhile_sep hn]
  have hN : numN (S (c :: t ++ sep :: m)) = numN (S (c :: t)) := by
    unfold numN; rw [S_data, S_data, takeWhile_sep hd]
  have hwl : wordN (S (c :: t)) ≤ (c :: t).length := (List.takeWhile_prefix (l := c :: t) nmC).length_le
  have hNl : numN (S (c :: t)) ≤ (c :: t).length := (List.takeWhile_prefix (l := c :: t) digC).length_le
  have hE : ∀ n, n ≤ (c :: t).length → (S (c :: t ++ sep :: m)).extract 0 n = (S (c :: t)).extract 0 n := fun n hn => by
    rw [S_ext, S_ext, List.take_append_of_le_length hn]
  have hO : numOdd (S (c :: t ++ sep :: m)) = numOdd (S (c :: t)) := by
    unfold numOdd
    rw [hN, S_data, S_data, List.drop_append_of_le_length hNl, takeWhile_sep hl]
    rfl
  unfold tokT
  rw [S_data, S_data, List.cons_append]
  simp only
  rw [← List.cons_append]
  unfold wordT numT
  rw [hw, hO, hN, hE _ hwl, hE _ hNl, hE 1 (by simp), S_data, S_data, List.take_append_of_le_length hNl]
theorem lex_concat {sep : UInt8} {l : List UInt8} {ts : List Tk} (h : LexTo l ts) : ∀ {m : List UInt8} {us : List Tk}, l ≠ [] → SepOk sep l → LexTo (skipL m) us → LexTo (l ++ sep :: m) (ts ++ us) := by
  induction h with
  | nil => intro m us hne; exact absurd rfl hne
  | @cons l t ts hne htok hrest ih =>
    intro m us _ hs hm
    have hs' : sep = 10 ∨ sep = 32 := hs.imp id (·.1)
    have h1 := tok_size (s := S l) (List.length_pos_iff.2 hne) (by rw [htok])
    rw [htok] at h1
    have h3 : (S l).size = l.length := rfl
    simp only at h1
    refine LexTo.cons (t := t) (by simp) (by rw [tok_sep hs' hne, htok]) ?_
    rw [List.drop_append_of_le_length (by omega)]
    have hsk := skip_sep m false (l.drop t.text.size) (hs.sub fun c hc => List.mem_of_mem_drop hc) (by simp)
    change skipL _ = if skipL _ = [] then _ else skipL _ ++ _ at hsk
    rw [hsk]
    by_cases hn : skipL (l.drop t.text.size) = []
    · rw [if_pos hn]
      rw [hn] at hrest
      have : ts = [] := by
        generalize hx : ([] : List UInt8) = x at hrest
        cases hrest with
        | nil => rfl
        | cons h _ _ => exact absurd hx.symm h
      rw [this]; exact hm
    · rw [if_neg hn]
      refine ih hn ?_ hm
      refine hs.sub fun c hc => ?_
      obtain ⟨k, _, e⟩ := skip_suffix false (l.drop t.text.size)
      change skipL _ = _ at e
      rw [e, List.drop_drop] at hc
      exact List.mem_of_mem_drop hc
theorem scan_prefix {sep : UInt8} {l : List UInt8} {ts : List Tk} (h : LexTo l ts) : ∀ (s : ByteArray) (m : List UInt8) (k f : Nat) (out : List Tok), SepOk sep l → s.size < f + k → (skipL m).length ≤ s.size → (l ≠ [] → k ≤ s.size ∧ (bs s).drop k = l ++ sep :: m) → (l = [] → k = s.size - (skipL m).length) →
    ∃ toks f', toks.map tkOf = ts ∧ s.size < f' + (s.size - (skipL m).length) ∧ scanGo s f k out = scanGo s f' (s.size - (skipL m).length) (out ++ toks) := by
  induction h with
  | nil =>
    intro s m k f out _ hf _ _ h2
    obtain rfl := h2 rfl
    exact ⟨[], f, rfl, hf, by simp⟩
  | @cons l t ts hne htok hrest ih =>
    intro s m k f out hs hf hm h1 _
    obtain ⟨hk, hd⟩ := h1 hne
    have hs' : sep = 10 ∨ sep = 32 := hs.imp id (·.1)
    have hdl : ((bs s).drop k).length = s.size - k := by rw [List.length_drop]; rfl
    have hll := List.length_pos_iff.2 hne
    have hlen := hdl
    rw [hd, List.length_append, List.length_cons] at hlen
    have hlt : k < s.size := by omega
    have hts := tok_size (s := S l) hll (by rw [htok])
    rw [htok] at hts
    have h3 : (S l).size = l.length := rfl
    simp only at hts
    obtain ⟨f', rfl⟩ : ∃ f', f = f' + 1 := ⟨f - 1, by omega⟩
    have hx : tokT (s.extract k s.size) = (t, 0) := by
      rw [extract_S, show s.data.toList.drop k = _ from hd, tok_sep hs' hne, htok]
    have hdd : s.data.toList.drop (k + t.text.size) = l.drop t.text.size ++ sep :: m := by
      have : (bs s).drop (k + t.text.size) = _ := (List.drop_drop ..).symm.trans (by rw [hd, List.drop_append_of_le_length (by omega)])
      exact this
    have hsk := skip_sep m false (l.drop t.text.size) (hs.sub fun c hc => List.mem_of_mem_drop hc) (by simp)
    change skipL _ = if skipL _ = [] then _ else skipL _ ++ _ at hsk
    have hdl2 : (l.drop t.text.size ++ sep :: m).length = s.size - (k + t.text.size) := by
      rw [← hdd, List.length_drop]; rfl
    have hsuf := skipL_le (l.drop t.text.size ++ sep :: m)
    have hN : skipN (s.data.toList.drop (k + t.text.size)) = s.size - (k + t.text.size) - (skipL (l.drop t.text.size ++ sep :: m)).length := by
      rw [hdd]; unfold skipN; rw [hdl2]
    have hsub : SepOk sep (skipL (l.drop t.text.size)) := by
      refine hs.sub fun c hc => ?_
      obtain ⟨j, _, e⟩ := skip_suffix false (l.drop t.text.size)
      change skipL _ = _ at e
      rw [e, List.drop_drop] at hc
      exact List.mem_of_mem_drop hc
    obtain ⟨toks, f2, a1, a2, a3⟩ := ih s m (k + t.text.size + skipN (s.data.toList.drop (k + t.text.size))) f' (out ++ [⟨t.kind, t.text, t.n, k⟩]) hsub (by omega) hm (fun hn => by
      refine ⟨by omega, ?_⟩
      have e1 : (bs s).drop (k + t.text.size + skipN (s.data.toList.drop (k + t.text.size))) = skipL (l.drop t.text.size ++ sep :: m) := by
        rw [skip_drop (l.drop t.text.size ++ sep :: m), ← hdd, List.drop_drop]
        rfl
      rw [e1, hsk, if_neg hn]) (fun hn => by
      rw [hN, hsk, if_pos hn]
      rw [hsk, if_pos hn] at hsuf
      omega)
    refine ⟨⟨t.kind, t.text, t.n, k⟩ :: toks, f2, by rw [List.map_cons, a1]; rfl, a2, ?_⟩
    rw [scanGo, if_pos hlt, hx]
    simp only [ne_eq, not_true_eq_false, if_false]
    rw [a3]
    simp
theorem scan_shift {s b : ByteArray} {K : Nat} (hs : s.size = K + b.size) (hd : (bs s).drop K = bs b) : ∀ (f k f2 : Nat) (out out2 : List Tok), k ≤ b.size → b.size < f + k → b.size < f2 + k →
    (∃ new, scanGo b f k out = (out ++ new, 0, 0) ∧ scanGo s f2 (K + k) out2 = (out2 ++ new.map (shT K), 0, 0)) ∨ (∃ p e, e ≠ 0 ∧ scanGo b f k out = ([], p, e) ∧ scanGo s f2 (K + k) out2 = ([], p + K, e))
  | 0, k, f2, out, out2, hk, hf, hf2 => absurd hf (by omega)
  | f + 1, k, f2, out, out2, hk, hf, hf2 => by
    obtain ⟨f3, rfl⟩ : ∃ f3, f2 = f3 + 1 := ⟨f2 - 1, by omega⟩
    have hdk : ∀ j, s.data.toList.drop (K + j) = b.data.toList.drop j := fun j => by
      have : (bs s).drop (K + j) = (bs b).drop j := by rw [← hd, List.drop_drop]
      exact this
    rw [scanGo, scanGo]
    by_cases hlt : k < b.size
    · rw [if_pos hlt, if_pos (show K + k < s.size by omega)]
      have hex : tokT (s.extract (K + k) s.size) = tokT (b.extract k b.size) := by rw [extract_S, extract_S, hdk]
      rw [hex]
      cases htk : tokT (b.extract k b.size) with
      | mk t e =>
        simp only
        by_cases he : e = 0
        · subst he
          simp only [ne_eq, not_true_eq_false, if_false]
          have hts := tok_size (s := b.extract k b.size) (by rw [ByteArray.size_extract]; omega) (by rw [htk])
          rw [htk, ByteArray.size_extract] at hts
          simp only at hts
          have hm : skipN (b.data.toList.drop (k + t.text.size)) ≤ b.size - (k + t.text.size) := by
            have := skipN_le (b.data.toList.drop (k + t.text.size))
            rw [drop_len _ _ (by omega)] at this
            exact this
          have e1 : K + k + t.text.size = K + (k + t.text.size) := by omega
          rw [e1, hdk, show K + (k + t.text.size) + skipN (b.data.toList.drop (k + t.text.size)) = K + (k + t.text.size + skipN (b.data.toList.drop (k + t.text.size))) by omega]
          rcases scan_shift hs hd f (k + t.text.size + skipN (b.data.toList.drop (k + t.text.size))) f3 (out ++ [⟨t.kind, t.text, t.n, k⟩]) (out2 ++ [⟨t.kind, t.text, t.n, ((K + k : Nat) : Int)⟩]) (by omega) (by omega) (by omega) with ⟨new, a1, a2⟩ | h
          · refine .inl ⟨⟨t.kind, t.text, t.n, k⟩ :: new, by rw [a1]; simp, ?_⟩
            rw [a2]
            simp only [List.map_cons, shT, List.append_assoc, List.cons_append, List.nil_append]
            rw [show ((K + k : Nat) : Int) = (k : Int) + K by omega]
          · exact .inr h
        · rw [if_pos he, if_pos he]
          exact .inr ⟨k, e, he, rfl, by rw [show ((K + k : Nat) : Int) = (k : Int) + K by omega]⟩
    · rw [if_neg hlt, if_neg (show ¬ K + k < s.size by omega)]
      refine .inl ⟨_, rfl, ?_⟩
      simp only [List.map_cons, List.map_nil, shT]
      rw [show (s.size : Int) = (b.size : Int) + K by omega]
/-- the tokens of two texts -/
theorem scan_join {a b s : ByteArray} {sep : UInt8} (hs : bs s = bs a ++ sep :: bs b) (hsep : SepOk sep (bs a)) (hz : s.size ≤ 16384) {ta : List Tok} {pa : Int} (ha : scanT a = (ta, pa, 0)) :
    ∃ A A', ta = A ++ [⟨0, ⟨#[]⟩, 0, a.size⟩] ∧ LexTo (skipL (bs a)) (A.map tkOf) ∧ A'.map tkOf = A.map tkOf ∧
      ((∃ tb, scanT b = (tb, 0, 0) ∧ scanT s = (A' ++ tb.map (shT ((a.size + 1 : Nat) : Int)), 0, 0)) ∨ (∃ p e, e ≠ 0 ∧ scanT b = ([], p, e) ∧ scanT s = ([], p + ((a.size + 1 : Nat) : Int), e))) := by
  obtain ⟨_, rfl, A, rfl, hA⟩ := scanT_lex ha
  have hsz : s.size = a.size + 1 + b.size := by
    have := congrArg List.length hs
    simp only [List.length_append, List.length_cons] at this
    have e1 : (bs s).length = s.size := rfl
    have e2 : (bs a).length = a.size := rfl
    have e3 : (bs b).length = b.size := rfl
    omega
  have hbl : (bs b).length = b.size := rfl
  have hsl := skipL_le (bs b)
  have hsk := skip_sep (bs b) false (bs a) hsep (by simp)
  change skipL _ = if skipL _ = [] then _ else skipL _ ++ _ at hsk
  rw [← hs] at hsk
  have hsl2 := skipL_le (bs s)
  have hsb : (bs s).length = s.size := rfl
  have hsub : SepOk sep (skipL (bs a)) := by
    refine hsep.sub fun c hc => ?_
    obtain ⟨j, _, e⟩ := skip_suffix false (bs a)
    change skipL _ = _ at e
    rw [e] at hc
    exact List.mem_of_mem_drop hc
  have hN : skipN (bs s) = s.size - (skipL (bs s)).length := rfl
  obtain ⟨A', f', a1, a2, a3⟩ := scan_prefix hA s (bs b) (skipN (bs s)) (s.size + 1) [] hsub (by omega) (by omega) (fun hn => by
    refine ⟨by omega, ?_⟩
    rw [skip_at, hsk, if_neg hn]) (fun hn => by rw [hN, hsk, if_pos hn])
  refine ⟨A, A', rfl, hA, a1, ?_⟩
  have hd : (bs s).drop (a.size + 1) = bs b := by
    rw [hs, List.drop_append]
    have e2 : (bs a).length = a.size := rfl
    rw [e2, List.drop_eq_nil_of_le (by omega)]
    simp
  have e0 : s.size - (skipL (bs b)).length = (a.size + 1) + skipN (bs b) := by
    unfold skipN; omega
  have hkb : skipN (bs b) ≤ b.size := skipN_le (bs b)
  rcases scan_shift hsz hd (b.size + 1) (skipN (bs b)) f' [] A' hkb (by omega) (by omega) with ⟨new, g1, g2⟩ | ⟨p, e, g0, g1, g2⟩
  · refine .inl ⟨new, ?_, ?_⟩
    · unfold scanT
      rw [if_neg (by omega)]
      exact g1
    · unfold scanT
      rw [if_neg (by omega)]
      rw [show skipN s.data.toList = skipN (bs s) from rfl, a3, e0]
      exact g2
  · refine .inr ⟨p, e, g0, ?_, ?_⟩
    · unfold scanT
      rw [if_neg (by omega)]
      exact g1
    · unfold scanT
      rw [if_neg (by omega)]
      rw [show skipN s.data.toList = skipN (bs s) from rfl, a3, e0]
      exact g2
end Go.Proofs.YtanhkeeifnimgaaDoor

namespace Go.Proofs.YtanhkeeifnimgaaDoor
open Go Go.RowKit Go.Proofs

theorem text_ne0 {d : Decl} (h : okD d = true) : bs (textD d) ≠ [] := by
  have := text_lex h
  unfold textTk at this
  rw [List.cons_append] at this
  obtain ⟨_, h, _⟩ := lexTo_inv this
  exact h
theorem lexTo_nohash {l : List UInt8} {ts : List Tk} (h : LexTo l ts) (hf : fmtGo true ts = l) : ∀ c ∈ l, c ≠ 35 := by
  have hg := lex_good h
  have key : ∀ (b : Bool) (us : List Tk), (∀ t ∈ us, ∀ c ∈ bs t.2.1, c ≠ 35) → ∀ c ∈ fmtGo b us, c ≠ 35 := by
    intro b us
    induction us generalizing b with
    | nil => simp [fmtGo]
    | cons t r ih =>
      intro hu c hc
      rw [fmtGo] at hc
      split at hc
      · exact ih b (fun t ht => hu t (by simp [ht])) c hc
      · rw [List.mem_append, List.mem_append] at hc
        rcases hc with (hc | hc) | hc
        · split at hc
          · have : c = 32 := by simpa using hc
            subst this; decide
          · simp at hc
        · exact hu t (by simp) c hc
        · exact ih false (fun t ht => hu t (by simp [ht])) c hc
  rw [← hf]
  exact key true ts fun t ht => (hg t ht).2.2.2
theorem text_nohash {d : Decl} (h : okD d = true) : ∀ c ∈ bs (textD d), c ≠ 35 := lexTo_nohash (text_lex h) (fmt_text h)
theorem cat_cons (d : Decl) (l : List Decl) : cat (d :: l) = bs (textD d) ++ 10 :: cat l := by simp [cat, bs]
theorem listTk_len : ∀ l : List ByteArray, (listTk l).length ≤ 2 * l.length
  | [] => by simp [listTk]
  | [x] => by simp [listTk]
  | x :: y :: l => by
    have := listTk_len (y :: l)
    simp only [listTk, List.length_cons] at this ⊢
    omega
theorem textTk_few {d : Decl} (h : okD d = true) : (textTk d).length ≤ 100 := by
  obtain ⟨k, nm, refs, nums, bY, al⟩ := d
  have h' : validB k nm refs nums bY al = true := h
  cases hfm : form? k with
  | none => rw [validB_none hfm] at h'; cases h'
  | some f =>
  have hr : 0 ≤ k ∧ k < 17 := Classical.byContradiction fun hn => by rw [form_none hn] at hfm; cases hfm
  have hk : k = 0 ∨ k = 1 ∨ k = 2 ∨ k = 3 ∨ k = 4 ∨ k = 5 ∨ k = 6 ∨ k = 7 ∨ k = 8 ∨ k = 9 ∨ k = 10 ∨ k = 11 ∨ k = 12 ∨ k = 13 ∨ k = 14 ∨ k = 15 ∨ k = 16 := by omega
  rw [validB_form hfm] at h'
  simp only [Bool.and_eq_true, decide_eq_true_eq] at h'
  obtain ⟨⟨⟨⟨⟨⟨⟨h1, h2⟩, h3⟩, h4⟩, h5⟩, h6⟩, h7⟩, h8⟩ := h'
  clear h hr h5 h6 h7 h8
  have hl := listTk_len refs
  have hl2 := listTk_len refs.tail
  rw [List.length_tail] at hl2
  have hmap : ∀ l : List ByteArray, ((l.map wordTk).map (·.2)).flatten.length = l.length := by
    intro l; induction l with
    | nil => rfl
    | cons x l ih => simp only [List.map_cons, List.flatten_cons, List.length_append, ih, List.length_cons]; simp [wordTk]; omega
  have hmap2 : ∀ l : List Int, ((l.map numTk).map (·.2)).flatten.length = l.length := by
    intro l; induction l with
    | nil => rfl
    | cons x l ih => simp only [List.map_cons, List.flatten_cons, List.length_append, ih, List.length_cons]; simp [numTk]; omega
  have hcls : k = 9 → (listTk (clsW bY.toNat)).length ≤ 6 := by
    rintro rfl
    obtain rfl : _ = f := Option.some.inj hfm
    have hb : bY = 1 ∨ bY = 2 ∨ bY = 3 ∨ bY = 4 ∨ bY = 5 ∨ bY = 6 ∨ bY = 7 := by simp only [Bool.and_eq_true, decide_eq_true_eq] at h4; omega
    rcases hb with rfl | rfl | rfl | rfl | rfl | rfl | rfl <;> decide
  clear h4
  unfold textTk
  simp only [List.cons_append, List.length_cons, List.length_append, List.length_nil]
  rcases hk with rfl | rfl | rfl | rfl | rfl | rfl | rfl | rfl | rfl | rfl | rfl | rfl | rfl | rfl | rfl | rfl | rfl
  all_goals
    obtain rfl : _ = f := Option.some.inj hfm
    clear hfm
    simp only at h1 h2 h3
    unfold wordsP
  · simp [wordTk]
  · simp [wordTk]
  · simp [wordTk]
  · simp [wordTk, numTk]
  · simp only [if_false, List.map_append, List.flatten_append, List.length_append, hmap, hmap2, show ¬ ((4 : Int) = 0 ∨ (4 : Int) = 1) by decide, show ¬ (4 : Int) = 2 by decide, show ¬ (4 : Int) = 3 by decide, show ¬ (4 : Int) = 5 by decide, show ¬ (4 : Int) = 6 by decide, show ¬ (4 : Int) = 7 by decide, show ¬ (4 : Int) = 8 by decide, show ¬ (4 : Int) = 9 by decide, show ¬ (4 : Int) = 11 by decide, show ¬ (4 : Int) = 12 by decide, show ¬ (4 : Int) = 13 by decide, show ¬ (4 : Int) = 14 by decide]; omega
  · simp [wordTk, numTk, commaTk, loadP]; omega
  · simp [wordTk, numTk, commaTk, loadP]; omega
  · simp [wordTk, numTk, loadP]
  · simp [wordTk, numTk]
  · have := hcls rfl
    simp [commaTk]; omega
  · simp only [if_false, List.map_append, List.flatten_append, List.length_append, hmap, hmap2, show ¬ ((10 : Int) = 0 ∨ (10 : Int) = 1) by decide, show ¬ (10 : Int) = 2 by decide, show ¬ (10 : Int) = 3 by decide, show ¬ (10 : Int) = 5 by decide, show ¬ (10 : Int) = 6 by decide, show ¬ (10 : Int) = 7 by decide, show ¬ (10 : Int) = 8 by decide, show ¬ (10 : Int) = 9 by decide, show ¬ (10 : Int) = 11 by decide, show ¬ (10 : Int) = 12 by decide, show ¬ (10 : Int) = 13 by decide, show ¬ (10 : Int) = 14 by decide]; omega
  · simp only [if_false, if_true, List.map_append, List.flatten_append, List.length_append, hmap, hmap2, show ¬ ((11 : Int) = 0 ∨ (11 : Int) = 1) by decide, show ¬ (11 : Int) = 2 by decide, show ¬ (11 : Int) = 3 by decide, show ¬ (11 : Int) = 5 by decide, show ¬ (11 : Int) = 6 by decide, show ¬ (11 : Int) = 7 by decide, show ¬ (11 : Int) = 8 by decide, show ¬ (11 : Int) = 9 by decide]
    cases al <;> simp [wordTk] <;> omega
  · simp [wordTk, numTk]
  · simp [wordTk, commaTk]; omega
  · simp [wordTk]
  · simp only [if_false, List.map_append, List.flatten_append, List.length_append, hmap, hmap2, show ¬ ((15 : Int) = 0 ∨ (15 : Int) = 1) by decide, show ¬ (15 : Int) = 2 by decide, show ¬ (15 : Int) = 3 by decide, show ¬ (15 : Int) = 5 by decide, show ¬ (15 : Int) = 6 by decide, show ¬ (15 : Int) = 7 by decide, show ¬ (15 : Int) = 8 by decide, show ¬ (15 : Int) = 9 by decide, show ¬ (15 : Int) = 11 by decide, show ¬ (15 : Int) = 12 by decide, show ¬ (15 : Int) = 13 by decide, show ¬ (15 : Int) = 14 by decide]; omega
  · simp only [if_false, List.map_append, List.flatten_append, List.length_append, hmap, hmap2, show ¬ ((16 : Int) = 0 ∨ (16 : Int) = 1) by decide, show ¬ (16 : Int) = 2 by decide, show ¬ (16 : Int) = 3 by decide, show ¬ (16 : Int) = 5 by decide, show ¬ (16 : Int) = 6 by decide, show ¬ (16 : Int) = 7 by decide, show ¬ (16 : Int) = 8 by decide, show ¬ (16 : Int) = 9 by decide, show ¬ (16 : Int) = 11 by decide, show ¬ (16 : Int) = 12 by decide, show ¬ (16 : Int) = 13 by decide, show ¬ (16 : Int) = 14 by decide]; omega
theorem scan_text_first {d : Decl} (h : okD d = true) {toks : List Tok} (hs : scanT (textD d) = (toks ++ [⟨0, ⟨#[]⟩, 0, (textD d).size⟩], 0, 0)) : ∃ t0 ts0, toks = t0 :: ts0 ∧ t0.pos = 0 ∧ t0.kind = 2 := by
  obtain ⟨toks', e1, e2⟩ := scan_text h
  rw [hs] at e1
  obtain rfl : toks = toks' := (List.append_inj' (Prod.mk.inj e1).1 rfl).1
  unfold textTk at e2
  cases toks with
  | nil => simp at e2
  | cons t0 ts0 =>
    rw [List.map_cons, List.cons_append, List.cons.injEq] at e2
    refine ⟨t0, ts0, rfl, ?_, congrArg (·.1) e2.1⟩
    have hk : skipN (bs (textD d)) = 0 := by
      unfold skipN
      rw [lex_first (text_lex h)]; omega
    unfold scanT at hs
    by_cases hb : 16384 < (textD d).size
    · rw [if_pos hb] at hs; simp at hs
    · rw [if_neg hb, show skipN (textD d).data.toList = 0 from hk, scanGo] at hs
      have hp : 0 < (textD d).size := List.length_pos_iff.2 (text_ne0 h)
      rw [if_pos hp] at hs
      have hx0 : ((textD d).extract 0 (textD d).size).size = (textD d).size := by rw [ByteArray.size_extract]; omega
      cases htk : tokT ((textD d).extract 0 (textD d).size) with
      | mk t e =>
        rw [htk] at hs
        simp only at hs
        by_cases he : e = 0
        · subst he
          simp only [ne_eq, not_true_eq_false, if_false] at hs
          have hts := tok_size (s := (textD d).extract 0 (textD d).size) (by omega) (by rw [htk])
          rw [htk, hx0] at hts
          simp only at hts
          have hm : skipN ((textD d).data.toList.drop (0 + t.text.size)) ≤ (textD d).size - (0 + t.text.size) := by
            have := skipN_le ((textD d).data.toList.drop (0 + t.text.size))
            rw [drop_len _ _ (by omega)] at this
            exact this
          obtain ⟨ts2, a1, _, _⟩ := scan_lex (textD d) _ _ _ _ _ (by omega) (by omega) hs
          simp only [List.nil_append, List.cons_append, List.cons.injEq] at a1
          rw [a1.1]; rfl
        · rw [if_pos he] at hs
          simp only [Prod.mk.injEq] at hs
          exact absurd hs.2.2 he
def allTk (l : List Decl) : List Tk := l.flatMap textTk
theorem cat_lex : ∀ l : List Decl, l.all okD = true → LexTo (skipL (cat l)) (allTk l)
  | [], _ => LexTo.nil
  | d :: l, h => by
    rw [List.all_cons, Bool.and_eq_true] at h
    have h1 := text_lex h.1
    have e : cat (d :: l) = bs (textD d) ++ 10 :: cat l := cat_cons d l
    have h2 := lex_concat (sep := 10) h1 (text_ne0 h.1) (.inl rfl) (cat_lex l h.2)
    rw [e, lex_first h2]
    exact h2
theorem allTk_parse : ∀ (l : List Decl), l.all okD = true → ∀ E : Tk, E.1 = 0 → ParseR (allTk l ++ [E]) l
  | [], _, E, hE => ParseR.nil (by intro t ht; simp [allTk] at ht; subst ht; exact hE)
  | d :: l, h, E, hE => by
    rw [List.all_cons, Bool.and_eq_true] at h
    have := text_declR h.1 (allTk l ++ [E])
    refine ParseR.cons (rest := allTk l ++ [E]) ?_ (allTk_parse l h.2 E hE)
    simpa [allTk] using this
/-- a text that is read as tokens -/
theorem scan_of {s : ByteArray} {ts : List Tk} (hz : s.size ≤ 16384) (h : LexTo (skipL (bs s)) ts) : ∃ toks, scanT s = (toks ++ [⟨0, ⟨#[]⟩, 0, s.size⟩], 0, 0) ∧ toks.map tkOf = ts := by
  have hk : skipN (bs s) ≤ s.size := skipN_le (bs s)
  obtain ⟨toks, e1, e2⟩ := lex_scan h s (skipN (bs s)) (s.size + 1) [] hk skip_at (by omega)
  refine ⟨toks, ?_, e1⟩
  unfold scanT
  rw [if_neg (by omega)]
  rw [List.nil_append] at e2
  exact e2
/-- parsing the text of valid declarations -/
theorem parse_texts {l : List Decl} (h : l.all okD = true) (hz : (S (cat l)).size ≤ 16384) (hn : l.length ≤ 1024) : parseT (S (cat l)) = (l, 0, 0) := by
  obtain ⟨toks, e1, e2⟩ := scan_of hz (cat_lex l h)
  unfold parseT
  rw [e1]
  simp only [ne_eq, not_true_eq_false, if_false]
  have hp := allTk_parse l h (0, ⟨#[]⟩, 0) rfl
  have := parse_go hp ((toks ++ [(⟨0, ⟨#[]⟩, 0, (S (cat l)).size⟩ : Tok)]).length + 1) [] (toks ++ [⟨0, ⟨#[]⟩, 0, (S (cat l)).size⟩]) zeroD (by rw [List.map_append, e2]; rfl) (by omega) (by simpa using hn)
  simpa using this
theorem wt_app : ∀ a b : List Tk, wt (a ++ b) = wt a + wt b
  | [], b => by simp [wt]
  | t :: a, b => by rw [List.cons_append, wt, wt, wt_app a b]; omega
/-- what was parsed from proper tokens -/
theorem parse_good {tk : List Tk} {l : List Decl} (h : ParseR tk l) : (∀ t ∈ tk, GoodT t) → (∀ t ∈ tk, t.1 ≠ 0 → 1 ≤ t.2.1.size) → l.all okD = true ∧ (cat l).length ≤ wt tk ∧ 6 * l.length ≤ cost tk := by
  induction h with
  | nil => intro _ _; simp [cat]
  | @cons tk rest d ds hd _ ih =>
    intro hg hz
    obtain ⟨h1, w, t, c, rfl, h3, h4, h5⟩ := declR_good hd hg
    obtain ⟨i1, i2, i3⟩ := ih (fun t ht => hg t (by simp [ht])) (fun t ht => hz t (by simp [ht]))
    refine ⟨by rw [List.all_cons, h1, i1]; rfl, ?_, ?_⟩
    · have e : cat (d :: ds) = bs (textD d) ++ 10 :: cat ds := cat_cons d ds
      rw [e, List.length_append, List.length_cons]
      have e2 : ((2, w, 0) :: t :: (c ++ (4, (⟨#[59]⟩ : ByteArray), 0) :: rest) : List Tk) = ((2, w, 0) :: t :: (c ++ [(4, (⟨#[59]⟩ : ByteArray), 0)])) ++ rest := by simp
      rw [e2, wt_app]
      omega
    · have g1 := hz t (by simp) (by rcases h4 with h | h | h <;> rw [h] <;> decide)
      have g2 := cost_ge (4, (⟨#[59]⟩ : ByteArray), 0) rest
      have g3 := cost_app c ((4, (⟨#[59]⟩ : ByteArray), 0) :: rest)
      have g4 := cost_ge t (c ++ (4, (⟨#[59]⟩ : ByteArray), 0) :: rest)
      have hw : (wl (2, w, 0) && wl t) = true := by
        rw [Bool.and_eq_true]
        refine ⟨rfl, ?_⟩
        unfold wl
        rcases h4 with h | h | h <;> rw [h] <;> rfl
      have g6 : cost ((2, w, 0) :: t :: (c ++ (4, (⟨#[59]⟩ : ByteArray), 0) :: rest)) = w.size + 1 + cost (t :: (c ++ (4, (⟨#[59]⟩ : ByteArray), 0) :: rest)) := by rw [cost, if_pos hw]
      rw [g6, List.length_cons]
      have g5 : ((⟨#[59]⟩ : ByteArray) : ByteArray).size = 1 := rfl
      simp only [g5] at g2
      omega
theorem scan_facts {s : ByteArray} {toks : List Tok} {p : Int} (h : scanT s = (toks, p, 0)) :
    (∀ t ∈ toks.map tkOf, GoodT t) ∧ (∀ t ∈ toks.map tkOf, t.1 ≠ 0 → 1 ≤ t.2.1.size) ∧ wt (toks.map tkOf) ≤ 2 * s.size ∧ cost (toks.map tkOf) ≤ s.size + 1 ∧ EndT toks ∧ s.size ≤ 16384 ∧ p = 0 := by
  obtain ⟨h1, h2, X, rfl, hX⟩ := scanT_lex h
  have hg := lex_good hX
  have hz := lexTo_size hX
  have hw := lex_wt hX
  have hc := lex_cost hX
  have hl := skipL_le (bs s)
  have hsb : (bs s).length = s.size := rfl
  have e : (X ++ [(⟨0, ⟨#[]⟩, 0, s.size⟩ : Tok)]).map tkOf = X.map tkOf ++ [(0, ⟨#[]⟩, 0)] := by simp [tkOf]
  rw [e]
  refine ⟨?_, ?_, ?_, ?_, ⟨X, _, rfl, rfl⟩, h1, h2⟩
  · intro t ht
    rcases List.mem_append.1 ht with ht | ht
    · exact (hg t ht).1
    · have : t = (0, ⟨#[]⟩, 0) := by simpa using ht
      subst this
      exact ⟨fun h => absurd h (by decide), fun h => absurd h (by decide), fun _ => rfl⟩
  · intro t ht h0
    rcases List.mem_append.1 ht with ht | ht
    · exact hz t ht
    · have : t = (0, ⟨#[]⟩, 0) := by simpa using ht
      subst this
      exact absurd rfl h0
  · rw [wt_app]
    have : wt [((0, ⟨#[]⟩, 0) : Tk)] = 0 := rfl
    omega
  · have key : ∀ l : List Tk, cost (l ++ [(0, ⟨#[]⟩, 0)]) ≤ cost l + 1 := by
      intro l
      induction l with
      | nil => decide
      | cons t r ih =>
        cases r with
        | nil =>
          have h0 : cost [t, (0, ⟨#[]⟩, 0)] = t.2.1.size + (if wl t && wl ((0, ⟨#[]⟩, 0) : Tk) then 1 else 0) + cost [((0, ⟨#[]⟩, 0) : Tk)] := rfl
          have h1 : cost [((0, ⟨#[]⟩, 0) : Tk)] = 0 := rfl
          have h2 : cost [t] = t.2.1.size := rfl
          have h3 : wl ((0, ⟨#[]⟩, 0) : Tk) = false := rfl
          show cost [t, (0, ⟨#[]⟩, 0)] ≤ _
          rw [h0, h1, h2, h3]; simp
        | cons u r =>
          rw [List.cons_append, List.cons_append, cost, cost]
          rw [List.cons_append] at ih
          omega
    have := key (X.map tkOf)
    omega
/-- what is returned is valid, and parsing its text returns it again -/
theorem parse_valid {s : ByteArray} {l : List Decl} {p : Int} (hs : s.size ≤ 5000) (h : parseT s = (l, p, 0)) : l.all okD = true ∧ parseT (S (cat l)) = (l, 0, 0) ∧ l.length ≤ 1024 := by
  unfold parseT at h
  by_cases he : (scanT s).2.2 = 0
  · rw [if_neg (by simpa using he)] at h
    have e : scanT s = ((scanT s).1, (scanT s).2.1, 0) := by rw [← he]
    obtain ⟨g1, g2, g3, _, _, _, _⟩ := scan_facts e
    obtain ⟨ds, a1, a2, a3, a4⟩ := parse_R _ [] ⟨(scanT s).1, 0, zeroD⟩ l p (by show (scanT s).1.length < _; omega) rfl (by simp) h
    obtain rfl : l = ds := by simpa using a1
    obtain ⟨i1, i2, _⟩ := parse_good a4 g1 g2
    have hz : (S (cat l)).size = (cat l).length := rfl
    exact ⟨i1, parse_texts i1 (by change (cat l).length ≤ wt ((scanT s).1.map tkOf) at i2; omega) a3, a3⟩
  · rw [if_pos (by simpa using he)] at h
    simp only [Prod.mk.injEq] at h
    exact absurd h.2.2 he
theorem parse_err : ∀ (f : Nat) (out : List Decl) (s : PS) (l : List Decl) (p e : Int), e ≠ 0 → parseGo f out s = (l, p, e) → l = []
  | 0, out, s, l, p, e, he, h => by rw [parseGo] at h; simp only [Prod.mk.injEq] at h; exact h.1.symm
  | f + 1, out, s, l, p, e, he, h => by
    rw [parseGo] at h
    split at h
    · simp only [Prod.mk.injEq] at h
      exact absurd h.2.2.symm he
    · simp only at h
      generalize (if out.length = 1024 then (out, s.fail s.beyond) else (out ++ [s.decl.1], s.decl.2)) = r at h
      split at h
      · simp only [Prod.mk.injEq] at h
        exact h.1.symm
      · exact parse_err f _ _ l p e he h
theorem parseT_err {s : ByteArray} {l : List Decl} {p e : Int} (he : e ≠ 0) (h : parseT s = (l, p, e)) : l = [] := by
  unfold parseT at h
  split at h
  · simp only [Prod.mk.injEq] at h; exact h.1.symm
  · exact parse_err _ _ _ l p e he h
/-- the offset of an error is that of a token -/
theorem parse_place : ∀ (f : Nat) (out : List Decl) (s : PS) (l : List Decl) (p e : Int), EndT s.toks → e ≠ 0 → parseGo f out s = (l, p, e) → ∃ t ∈ s.toks, t.pos = p
  | 0, out, s, l, p, e, _, he, h => by rw [parseGo] at h; simp only [Prod.mk.injEq] at h; exact absurd h.2.2.symm he
  | f + 1, out, s, l, p, e, hE, he, h => by
    rw [parseGo] at h
    split at h
    · simp only [Prod.mk.injEq] at h
      exact absurd h.2.2.symm he
    · simp only at h
      have hA : Aft s (if out.length = 1024 then (out, s.fail s.beyond) else (out ++ [s.decl.1], s.decl.2)).2 := by
        split
        · exact Aft.same (fail_toks s _)
        · exact decl_aft s
      generalize (if out.length = 1024 then (out, s.fail s.beyond) else (out ++ [s.decl.1], s.decl.2)) = r at h hA
      obtain ⟨⟨k, hk⟩, hA2⟩ := hA
      have hE2 := hA2 hE
      have hmem : ∀ t ∈ r.2.toks, t ∈ s.toks := fun t ht => List.mem_of_mem_drop (hk ▸ ht)
      split at h
      · simp only [Prod.mk.injEq] at h
        have hne := hE2.ne
        unfold PS.next at h
        cases hr : r.2.toks with
        | nil => exact absurd hr hne
        | cons t ts =>
          rw [hr] at h
          exact ⟨t, hmem t (by rw [hr]; simp), h.2.1⟩
      · obtain ⟨t, ht, hp⟩ := parse_place f _ _ l p e hE2 he h
        exact ⟨t, hmem t ht, hp⟩
theorem parseT_place {s : ByteArray} {l : List Decl} {p e : Int} (he : e ≠ 0) (h : parseT s = (l, p, e)) : ((scanT s).2.2 ≠ 0 → e = (scanT s).2.2 ∧ p = (scanT s).2.1) ∧ ((scanT s).2.2 = 0 → ∃ t ∈ (scanT s).1, t.pos = p) := by
  unfold parseT at h
  by_cases hs : (scanT s).2.2 = 0
  · rw [if_neg (by simpa using hs)] at h
    have e2 : scanT s = ((scanT s).1, (scanT s).2.1, 0) := by rw [← hs]
    obtain ⟨_, _, _, _, hE, _, _⟩ := scan_facts e2
    exact ⟨fun h0 => absurd hs h0, fun _ => parse_place _ _ _ l p e hE he h⟩
  · rw [if_pos (by simpa using hs)] at h
    simp only [Prod.mk.injEq] at h
    exact ⟨fun _ => ⟨h.2.2.symm, h.2.1.symm⟩, fun h0 => absurd h0 hs⟩
/-- the same tokens, moved, behind other declarations -/
theorem parse_sim (K : Int) : ∀ (f f2 : Nat) (out out2 : List Decl) (s : PS) (d2 : Decl), s.e = 0 → EndT s.toks → s.toks.length < f → s.toks.length < f2 → (∀ t ∈ s.toks.map tkOf, GoodT t) → (∀ t ∈ s.toks.map tkOf, t.1 ≠ 0 → 1 ≤ t.2.1.size) → out.length ≤ out2.length → 6 * out2.length + cost (s.toks.map tkOf) ≤ 6143 →
    (∃ l, parseGo f out s = (out ++ l, 0, 0) ∧ parseGo f2 out2 (s.sh K d2) = (out2 ++ l, 0, 0)) ∨ (∃ p e, e ≠ 0 ∧ parseGo f out s = ([], p, e) ∧ parseGo f2 out2 (s.sh K d2) = ([], p + K, e))
  | 0, _, _, _, _, _, _, _, hf, _, _, _, _, _ => absurd hf (Nat.not_lt_zero _)
  | f + 1, f2, out, out2, s, d2, h0, hE, hf, hf2, hg, hz, ho, hc => by
    obtain ⟨f3, rfl⟩ : ∃ f3, f2 = f3 + 1 := ⟨f2 - 1, by omega⟩
    rw [parseGo, parseGo, (next_sh K d2 s).1]
    by_cases hk : s.next.kind = 0
    · rw [if_pos hk, if_pos hk]
      exact .inl ⟨[], by simp, by simp⟩
    · rw [if_neg hk, if_neg hk]
      simp only [if_neg (show ¬ out.length = 1024 by omega), if_neg (show ¬ out2.length = 1024 by omega)]
      obtain ⟨e1, d3, e2⟩ := decl_sh K d2 s
      rw [e1, e2]
      have hA := decl_aft s
      obtain ⟨⟨j, hj⟩, hA2⟩ := hA
      have hE2 := hA2 hE
      by_cases he : s.decl.2.e = 0
      · rw [if_neg (by simpa using he), if_neg (by show ¬ s.decl.2.e ≠ 0; simpa using he)]
        obtain ⟨_, _, hd⟩ := decl_R s he
        obtain ⟨i1, w, t, c, i2, i3, i4, i5⟩ := declR_good hd hg
        have hcost : 6 + cost (s.decl.2.toks.map tkOf) ≤ cost (s.toks.map tkOf) := by
          have g1 := hz t (by rw [i2]; simp) (by rcases i4 with h | h | h <;> rw [h] <;> decide)
          have g2 := cost_ge (4, (⟨#[59]⟩ : ByteArray), 0) (s.decl.2.toks.map tkOf)
          have g3 := cost_app c ((4, (⟨#[59]⟩ : ByteArray), 0) :: (s.decl.2.toks.map tkOf))
          have g4 := cost_ge t (c ++ (4, (⟨#[59]⟩ : ByteArray), 0) :: (s.decl.2.toks.map tkOf))
          have hw : (wl (2, w, 0) && wl t) = true := by
            rw [Bool.and_eq_true]
            refine ⟨rfl, ?_⟩
            unfold wl
            rcases i4 with h | h | h <;> rw [h] <;> rfl
          have g6 : cost ((2, w, 0) :: t :: (c ++ (4, (⟨#[59]⟩ : ByteArray), 0) :: (s.decl.2.toks.map tkOf))) = w.size + 1 + cost (t :: (c ++ (4, (⟨#[59]⟩ : ByteArray), 0) :: (s.decl.2.toks.map tkOf))) := by rw [cost, if_pos hw]
          rw [i2, g6]
          have g5 : ((⟨#[59]⟩ : ByteArray) : ByteArray).size = 1 := rfl
          simp only [g5] at g2
          omega
        have hlen := congrArg List.length i2
        simp only [List.length_map, List.length_cons, List.length_append] at hlen
        have hsub : ∀ t ∈ s.decl.2.toks.map tkOf, t ∈ s.toks.map tkOf := fun t ht => by rw [i2]; simp [ht]
        rcases parse_sim K f f3 (out ++ [s.decl.1]) (out2 ++ [s.decl.1]) s.decl.2 d3 he hE2 (by omega) (by omega) (fun t ht => hg t (hsub t ht)) (fun t ht => hz t (hsub t ht)) (by simpa using ho) (by simp; omega) with ⟨l, a1, a2⟩ | h
        · refine .inl ⟨s.decl.1 :: l, by rw [a1]; simp, by rw [a2]; simp⟩
        · exact .inr h
      · rw [if_pos he, if_pos (by show s.decl.2.e ≠ 0; exact he)]
        refine .inr ⟨_, _, he, rfl, ?_⟩
        have hne := hE2.ne
        simp only [Prod.mk.injEq, true_and]
        refine ⟨?_, rfl⟩
        unfold PS.next PS.sh
        cases hr : s.decl.2.toks with
        | nil => exact absurd hr hne
        | cons t ts => rfl
/-- two sources that are joined by a line feed -/
theorem parse_joins {a b s : ByteArray} (ha : a.size ≤ 3000) (hb : b.size ≤ 3000) (hs : bs s = bs a ++ 10 :: bs b) {l : List Decl} {p : Int} (h : parseT a = (l, p, 0)) :
    (∃ k, parseT b = (k, 0, 0) ∧ parseT s = (l ++ k, 0, 0)) ∨ (∃ q e, e ≠ 0 ∧ parseT b = ([], q, e) ∧ parseT s = ([], q + ((a.size + 1 : Nat) : Int), e)) := by
  have hsz : s.size = a.size + 1 + b.size := by
    have := congrArg List.length hs
    simp only [List.length_append, List.length_cons] at this
    have e1 : (bs s).length = s.size := rfl
    have e2 : (bs a).length = a.size := rfl
    have e3 : (bs b).length = b.size := rfl
    omega
  have he : (scanT a).2.2 = 0 := Classical.byContradiction fun hx => by
    unfold parseT at h
    rw [if_pos (by simpa using hx)] at h
    simp only [Prod.mk.injEq] at h
    exact hx h.2.2
  have ea : scanT a = ((scanT a).1, (scanT a).2.1, 0) := by rw [← he]
  obtain ⟨A, A', e1, e2, e3, e4⟩ := scan_join hs (.inl rfl) (by omega) ea
  obtain ⟨g1, g2, g3, g4, g5, g6, g7⟩ := scan_facts ea
  have h' := h
  unfold parseT at h'
  rw [if_neg (by simpa using he)] at h'
  obtain ⟨ds, a1, _, a3, a4⟩ := parse_R _ [] ⟨(scanT a).1, 0, zeroD⟩ l p (by show (scanT a).1.length < _; omega) rfl (by simp) h'
  obtain rfl : l = ds := by simpa using a1
  change ParseR ((scanT a).1.map tkOf) l at a4
  obtain ⟨_, _, i3⟩ := parse_good a4 g1 g2
  have hA0 : ∀ t ∈ A.map tkOf, t.1 ≠ 0 := fun t ht => (lex_good e2 t ht).2.1
  rw [e1, List.map_append] at a4
  rcases e4 with ⟨tb, b1, b2⟩ | ⟨q, e, b0, b1, b2⟩
  · obtain ⟨k1, k2, k3, k4, k5, k6, k7⟩ := scan_facts b1
    have hlen : (A' ++ tb.map (shT ((a.size + 1 : Nat) : Int))).map tkOf = A.map tkOf ++ tb.map tkOf := by
      rw [List.map_append, e3, List.map_map]
      congr 1
    obtain ⟨f', d', c1, c2⟩ := parse_prefix a4 (A.map tkOf) (tkOf ⟨0, ⟨#[]⟩, 0, a.size⟩) rfl rfl hA0 (A' ++ tb.map (shT ((a.size + 1 : Nat) : Int))) (tb.map tkOf) [] zeroD ((A' ++ tb.map (shT ((a.size + 1 : Nat) : Int))).length + 1) (by simpa using k5.ne) hlen (by omega) (by simpa using a3)
    have hAl : A'.length = (A.map tkOf).length := by rw [← e3]; simp
    have hdrop : (A' ++ tb.map (shT ((a.size + 1 : Nat) : Int))).drop (A.map tkOf).length = tb.map (shT ((a.size + 1 : Nat) : Int)) := by rw [← hAl]; simp
    rw [hdrop] at c2
    simp only [List.length_map] at c1
    have hpb : parseT b = parseGo (tb.length + 1) [] ⟨tb, 0, zeroD⟩ := by
      unfold parseT; rw [b1]; simp
    have hps : parseT s = parseGo f' l ((⟨tb, 0, zeroD⟩ : PS).sh ((a.size + 1 : Nat) : Int) d') := by
      unfold parseT; rw [b2]
      simp only [ne_eq, not_true_eq_false, if_false]
      rw [c2]; rfl
    rw [hpb, hps]
    have := parse_sim ((a.size + 1 : Nat) : Int) (tb.length + 1) f' [] l ⟨tb, 0, zeroD⟩ d' rfl k5 (by simp) c1 k1 k2 (by simp) (by show 6 * l.length + cost (tb.map tkOf) ≤ 6143; omega)
    simpa using this
  · refine .inr ⟨q, e, b0, ?_, ?_⟩
    · unfold parseT; rw [b1]; simp [b0]
    · unfold parseT; rw [b2]; simp [b0]
/-- one declaration -/
theorem parseD_text {d : Decl} (h : okD d = true) : parseD (textD d) = (d, 0, 0) := by
  obtain ⟨toks, e1, e2⟩ := scan_text h
  have hD := text_declR h [(0, ⟨#[]⟩, 0)]
  obtain ⟨k, a1, a2, a3⟩ := decl_go hD (toks ++ [⟨0, ⟨#[]⟩, 0, (textD d).size⟩]) (by rw [List.map_append, e2]; rfl) zeroD
  have hnk : (PS.next ⟨(toks ++ [(⟨0, ⟨#[]⟩, 0, (textD d).size⟩ : Tok)]).drop k, 0, d⟩).kind = 0 := by
    unfold PS.next
    cases hr : (toks ++ [(⟨0, ⟨#[]⟩, 0, (textD d).size⟩ : Tok)]).drop k with
    | nil => rw [hr] at a2; simp at a2
    | cons t ts =>
      rw [hr] at a2
      simp only [List.map_cons, List.cons.injEq] at a2
      exact congrArg (·.1) a2.1
  unfold parseD
  rw [e1]
  simp only [ne_eq, not_true_eq_false, if_false]
  rw [a1]
  simp only [hnk, not_true_eq_false, if_false]
theorem wt_text_le {d : Decl} (h : okD d = true) : (textD d).size ≤ 8000 := by
  have h1 := text_wt h
  have h2 := lex_good (text_lex h)
  have key : ∀ l : List Tk, (∀ t ∈ l, t.2.1.size ≤ 31) → wt l ≤ 62 * l.length := by
    intro l
    induction l with
    | nil => simp [wt]
    | cons t l ih =>
      intro hl
      have := ih fun t ht => hl t (by simp [ht])
      have := hl t (by simp)
      rw [wt, List.length_cons]; omega
  have h3 := key _ fun t ht => (h2 t ht).2.2.1
  have h4 := textTk_few h
  have h5 : (bs (textD d)).length = (textD d).size := rfl
  omega
theorem parseD_two {d o : Decl} {s : ByteArray} (h : okD d = true) (ho : okD o = true) (hs : bs s = bs (textD d) ++ 32 :: bs (textD o)) : parseD s = (zeroD, (((textD d).size + 1 : Nat) : Int), 3) := by
  have hsz : s.size = (textD d).size + 1 + (textD o).size := by
    have := congrArg List.length hs
    simp only [List.length_append, List.length_cons] at this
    have e1 : (bs s).length = s.size := rfl
    have e2 : (bs (textD d)).length = (textD d).size := rfl
    have e3 : (bs (textD o)).length = (textD o).size := rfl
    omega
  have z1 := wt_text_le h
  have z2 := wt_text_le ho
  obtain ⟨td, d1, d2⟩ := scan_text h
  obtain ⟨to_, o1, o2⟩ := scan_text ho
  obtain ⟨A, A', e1, e2, e3, e4⟩ := scan_join hs (.inr ⟨rfl, text_nohash h⟩) (by omega) d1
  obtain rfl : A = td := (List.append_inj e1 (by have := congrArg List.length e1; simpa using this)).1.symm
  rcases e4 with ⟨tb, b1, b2⟩ | ⟨p, e, b0, b1, _⟩
  · rw [o1] at b1
    obtain rfl := (Prod.mk.inj b1).1
    have hmap : (A' ++ (to_ ++ [(⟨0, ⟨#[]⟩, 0, (textD o).size⟩ : Tok)]).map (shT (((textD d).size + 1 : Nat) : Int))).map tkOf = textTk d ++ (textTk o ++ [(0, ⟨#[]⟩, 0)]) := by
      rw [List.map_append, e3, d2, List.map_map, List.map_append]
      congr 1
      rw [← o2]; rfl
    obtain ⟨k, a1, a2, a3⟩ := decl_go (text_declR h (textTk o ++ [(0, ⟨#[]⟩, 0)])) _ hmap zeroD
    -- what is left begins with the first token of the second text
    obtain ⟨t0, ts0, ht0, hp0, hk0⟩ : ∃ t0 ts0, to_ = t0 :: ts0 ∧ t0.pos = 0 ∧ t0.kind = 2 := scan_text_first ho o1
    have hlk : k = A'.length := by
      have q1 := congrArg List.length a2
      have q2 := congrArg List.length hmap
      have q3 : A'.length = (textTk d).length := by rw [← d2, ← e3]; simp
      simp only [List.length_map, List.length_drop, List.length_append, List.length_cons, List.length_nil] at q1 q2
      omega
    have hdrop : (A' ++ (to_ ++ [(⟨0, ⟨#[]⟩, 0, (textD o).size⟩ : Tok)]).map (shT (((textD d).size + 1 : Nat) : Int))).drop k = shT (((textD d).size + 1 : Nat) : Int) t0 :: (ts0 ++ [(⟨0, ⟨#[]⟩, 0, (textD o).size⟩ : Tok)]).map (shT (((textD d).size + 1 : Nat) : Int)) := by
      rw [hlk, ht0]; simp
    rw [hdrop] at a1
    unfold parseD
    rw [b2]
    simp only [ne_eq, not_true_eq_false, if_false]
    rw [a1]
    have hk1 : (shT (((textD d).size + 1 : Nat) : Int) t0).kind = 2 := hk0
    have hp1 : (shT (((textD d).size + 1 : Nat) : Int) t0).pos = (((textD d).size + 1 : Nat) : Int) := by
      show t0.pos + _ = _
      rw [hp0]; omega
    simp only [PS.next, List.headD_cons, hk1]
    have hp2 : (shT (((textD d).size : Int) + 1) t0).pos = ((textD d).size : Int) + 1 := by simpa using hp1
    simp [PS.fail, hp2]
  · rw [o1] at b1
    simp only [Prod.mk.injEq] at b1
    exact absurd b1.2.2.symm b0
end Go.Proofs.YtanhkeeifnimgaaDoor
