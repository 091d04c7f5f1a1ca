/- Plain Lean: the tokens that Scan answers on the text of a valid declaration, as SyntaxTokens asks for them. No program in sight. Conditions: none. -/
import Derived.Test.YtanhkeeifnimgaaGreatDoorFmt17
namespace Go.Proofs.YtanhkeeifnimgaaGreatDoor
open Go Go.RowKit Go.Proofs

theorem fmtGo_end (x : ByteArray) (n : Int) : ∀ (b : Bool) (l : List Tk), fmtGo b (l ++ [(0, x, n)]) = fmtGo b l
  | b, [] => by simp [fmtGo]
  | b, t :: r => by
    rw [List.cons_append, fmtGo, fmtGo, fmtGo_end x n b r, fmtGo_end x n false r]
/-- the tokens of a valid declaration's text: a key word first, the mark ';' last but one, and Format's text is the text -/
theorem toks_of {d : Decl} (h : okD d = true) : ∃ L : List Tok, scanT (textD d) = (L, 0, 0) ∧ (∃ h3 : 3 ≤ L.length, L[0].kind = 2 ∧ L[0].text = kindName d.kind ∧ (L[L.length - 2]'(by omega)).text = (⟨#[59]⟩ : ByteArray)) ∧ fmtGo true (L.map tkOf) = bs (textD d) := by
  obtain ⟨toks, e1, e2⟩ := scan_text h
  have e2' := e2
  unfold textTk at e2'
  have hlen : toks.length = (((wordsP d.kind d.name d.refs d.nums d.by_ d.always).map (·.2)).flatten).length + 2 := by
    have := congrArg List.length e2'
    simp only [List.length_map, List.length_cons, List.length_append, List.length_nil] at this
    omega
  have g0 : (toks.map tkOf)[0]? = some (2, kindName d.kind, 0) := by rw [e2']; rfl
  have gl : (toks.map tkOf)[toks.length - 1]? = some (4, S [59], 0) := by
    rw [e2', hlen]
    rw [List.getElem?_append_right (by simp)]
    simp
  refine ⟨_, e1, ⟨by simp; omega, ?_, ?_, ?_⟩, ?_⟩
  · rw [List.getElem_append_left (by omega)]
    rw [List.getElem?_map, List.getElem?_eq_getElem (by omega)] at g0
    have := Option.some.inj g0
    exact congrArg (·.1) this
  · rw [List.getElem_append_left (by omega)]
    rw [List.getElem?_map, List.getElem?_eq_getElem (by omega)] at g0
    have := Option.some.inj g0
    exact congrArg (·.2.1) this
  · have hk : (toks ++ [(⟨0, ⟨#[]⟩, 0, (textD d).size⟩ : Tok)]).length - 2 = toks.length - 1 := by simp
    simp only [hk]
    rw [List.getElem_append_left (by omega)]
    rw [List.getElem?_map, List.getElem?_eq_getElem (by omega)] at gl
    have := Option.some.inj gl
    exact congrArg (·.2.1) this
  · rw [List.map_append, e2]
    show fmtGo true (textTk d ++ [(0, ⟨#[]⟩, 0)]) = _
    rw [fmtGo_end]
    exact fmt_text h
end Go.Proofs.YtanhkeeifnimgaaGreatDoor
