/- Plain Lean: what Scan answers on the text of a valid declaration. No program in sight. Conditions: none. -/
import Derived.Test.YtanhkeeifnimgaaGreatDoorParts17
namespace Go.Proofs.YtanhkeeifnimgaaGreatDoor
open Go Go.RowKit Go.Proofs

theorem words_few {k : Int} {f : Form} (hfm : form? k = some f) {nm : ByteArray} {refs : List ByteArray} {nums : List Int} {bY : Int} {al : Bool} (hv : validB k nm refs nums bY al = true) : (wordsD k nm refs nums bY al).length ≤ 12 := by
  have hr : 0 ≤ k ∧ k < 17 := Classical.byContradiction fun hn => by rw [form_none hn] at hfm; cases hfm
  have hk : k = 0 ∨ k = 1 ∨ k = 2 ∨ k = 3 ∨ k = 4 ∨ k = 5 ∨ k = 6 ∨ k = 7 ∨ k = 8 ∨ k = 9 ∨ k = 10 ∨ k = 11 ∨ k = 12 ∨ k = 13 ∨ k = 14 ∨ k = 15 ∨ k = 16 := by omega
  rw [validB_form hfm] at hv
  simp only [Bool.and_eq_true, decide_eq_true_eq] at hv
  obtain ⟨⟨⟨⟨⟨⟨⟨v1, v2⟩, v3⟩, v4⟩, v5⟩, v6⟩, v7⟩, v8⟩ := hv
  clear v5 v6
  rcases hk with rfl | rfl | rfl | rfl | rfl | rfl | rfl | rfl | rfl | rfl | rfl | rfl | rfl | rfl | rfl | rfl | rfl
  all_goals
    obtain rfl : _ = f := Option.some.inj hfm
    clear hfm
    simp only [] at v1 v2 v3
    simp [wordsD, loadW, keepW] <;> first | omega | (cases al <;> simp <;> omega)
theorem text_short {d : Decl} (h : okD d = true) : (textD d).size ≤ 16384 := by
  have h' := h
  unfold okD at h'
  cases hfm : form? d.kind with
  | none => rw [validB_none hfm] at h'; cases h'
  | some f =>
    have hl := words_few hfm h'
    have hs := words_small hfm h'
    have hw := word_size hfm
    have hj : (joinS (wordsD d.kind d.name d.refs d.nums d.by_ d.always) (⟨#[32]⟩ : ByteArray)).size ≤ 12 * 1001 := by
      have := join_len [32] ((wordsD d.kind d.name d.refs d.nums d.by_ d.always).map (·.data.toList)) 1000 (by
        intro x hx
        obtain ⟨s, hs', rfl⟩ := List.mem_map.1 hx
        have := hs.2 s hs'
        simpa using this)
      have h2 : ((wordsD d.kind d.name d.refs d.nums d.by_ d.always).map (·.data.toList)).length * (1000 + 1) ≤ 12 * 1001 := Nat.mul_le_mul (by simpa using hl) (by omega)
      show (Lib.join ((wordsD d.kind d.name d.refs d.nums d.by_ d.always).map (·.data.toList)) [32]).toArray.size ≤ _
      simp at this h2 ⊢; omega
    have h3 : ((⟨#[32]⟩ : ByteArray) : ByteArray).size = 1 := rfl
    have h4 : ((⟨#[59]⟩ : ByteArray) : ByteArray).size = 1 := rfl
    unfold textD textB textS
    rw [h', hfm]
    simp only [if_true, ByteArray.size_append]
    omega
theorem scan_text {d : Decl} (h : okD d = true) : ∃ toks : List Tok, scanT (textD d) = (toks ++ [⟨0, ⟨#[]⟩, 0, (textD d).size⟩], 0, 0) ∧ toks.map tkOf = textTk d := by
  have hl := text_lex h
  have hf := lex_first hl
  have hk : skipN (textD d).data.toList = 0 := by
    unfold skipN
    rw [show skipL (textD d).data.toList = (textD d).data.toList from hf]
    omega
  obtain ⟨toks, e1, e2⟩ := lex_scan hl (textD d) 0 ((textD d).size + 1) [] (Nat.zero_le _) rfl (by omega)
  refine ⟨toks, ?_, e1⟩
  have := text_short h
  unfold scanT
  rw [if_neg (by omega), hk, e2]
  simp
/-- the texts of the names, and the numbers, of a list of tokens -/
def nmsL (l : List Tok) : List ByteArray := nmsT (l.map tkOf)
def nusL (l : List Tok) : List Int := nusT (l.map tkOf)
theorem nmsL_snoc (l : List Tok) (t : Tok) : nmsL (l ++ [t]) = nmsL l ++ (if t.kind = 1 then [t.text] else []) := by
  unfold nmsL
  rw [List.map_append, nms_app]
  congr 1
  show nmsT [tkOf t] = _
  by_cases h : t.kind = 1 <;> simp [nmsT, tkOf, h]
theorem nusL_snoc (l : List Tok) (t : Tok) : nusL (l ++ [t]) = nusL l ++ (if t.kind = 3 then [t.n] else []) := by
  unfold nusL
  rw [List.map_append, nus_app]
  congr 1
  show nusT [tkOf t] = _
  by_cases h : t.kind = 3 <;> simp [nusT, tkOf, h]
end Go.Proofs.YtanhkeeifnimgaaGreatDoor
