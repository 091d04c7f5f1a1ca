/- Plain Lean: what package parser computes from tokens. No program in sight. Conditions: none. Plain Lean: the grammar of the scenario language as a relation on tokens, and that the parser's functions follow it. No program in sight. Conditions: none. -/
import Derived.Test.YtanhkeeifnimgaaDoorLex16s
import Derived.Test.YtanhkeeifnimgaaDoorSyn17t
import Derived.Test.YtanhkeeifnimgaaDoorFmt17

namespace Go.Proofs.YtanhkeeifnimgaaDoor
open Go Go.RowKit Go.Proofs

/-- a parser: the tokens that are left, the first error, the declaration that is read -/
structure PS where
  toks : List Tok
  e : Int
  d : Decl
def PS.next (s : PS) : Tok := s.toks.headD noTok
def PS.fail (s : PS) (e : Int) : PS := if s.e = 0 then { s with e := e } else s
/-- take: the token, and the parser behind it -/
def PS.take (s : PS) (kind : Int) (texts : List ByteArray) : Tok × PS :=
  if s.e ≠ 0 ∨ s.next.kind ≠ kind ∨ (texts ≠ [] ∧ hasS texts s.next.text = false) then (noTok, s.fail 3) else (s.next, { s with toks := s.toks.tail })
def PS.comma (s : PS) : Bool × PS :=
  if s.e ≠ 0 ∨ s.next.kind ≠ 4 ∨ s.next.text ≠ (⟨#[44]⟩ : ByteArray) then (false, s) else (true, (s.take 4 []).2)
def zeroD : Decl := ⟨0, ⟨#[]⟩, [], [], 0, false⟩
def PS.name (s : PS) : PS := { (s.take 1 []).2 with d := { (s.take 1 []).2.d with name := (s.take 1 []).1.text } }
def PS.ref (s : PS) : PS := { (s.take 1 []).2 with d := { (s.take 1 []).2.d with refs := (s.take 1 []).2.d.refs ++ [(s.take 1 []).1.text] } }
def PS.number (s : PS) : PS := { (s.take 3 []).2 with d := { (s.take 3 []).2.d with nums := (s.take 3 []).2.d.nums ++ [(s.take 3 []).1.n] } }
/-- the further references of a list (n were read) -/
def PS.listGo : Nat → Nat → PS → PS
  | 0, _, s => s
  | f + 1, n, s => if s.comma.1 then PS.listGo f (n + 1) (if n = 16 ∧ s.comma.2.next.kind = 1 then s.comma.2.fail 8 else s.comma.2).ref else s
def PS.list (s : PS) : PS := PS.listGo (s.toks.length + 1) 1 s.ref
def bitOf (s : ByteArray) : Int := if s = (⟨#[109, 97, 99, 104, 105, 110, 101]⟩ : ByteArray) then 1 else if s = (⟨#[114, 97, 99, 107]⟩ : ByteArray) then 2 else if s = (⟨#[102, 101, 101, 100]⟩ : ByteArray) then 4 else 0
/-- classes of failures (left: those that were not named yet) -/
def PS.classesGo : Nat → List ByteArray → PS → PS
  | 0, _, s => s
  | f + 1, left, s =>
    if left = [] then s.fail 3
    else
      let r := s.take 2 left
      let s2 : PS := { r.2 with d := { r.2.d with by_ := r.2.d.by_ + bitOf r.1.text } }
      if s2.comma.1 then PS.classesGo f (left.filter fun x => decide (x ≠ r.1.text)) s2.comma.2 else s2
def PS.classes (s : PS) : PS := PS.classesGo 5 [(⟨#[109, 97, 99, 104, 105, 110, 101]⟩ : ByteArray), (⟨#[114, 97, 99, 107]⟩ : ByteArray), (⟨#[102, 101, 101, 100]⟩ : ByteArray)] s
def domOf (s : ByteArray) : Int := if s = (⟨#[114, 97, 99, 107]⟩ : ByteArray) then 2 else if s = (⟨#[102, 101, 101, 100]⟩ : ByteArray) then 3 else if s = (⟨#[115, 105, 116, 101]⟩ : ByteArray) then 4 else 0
def PS.domain (s : PS) : PS :=
  let r := s.take 2 [(⟨#[114, 97, 99, 107]⟩ : ByteArray), (⟨#[102, 101, 101, 100]⟩ : ByteArray), (⟨#[115, 105, 116, 101]⟩ : ByteArray)]
  { r.2 with d := { r.2.d with by_ := domOf r.1.text } }
def PS.always (s : PS) : PS :=
  if s.e = 0 ∧ s.next.kind = 2 ∧ s.next.text = (⟨#[97, 108, 119, 97, 121, 115]⟩ : ByteArray) then { (s.take 2 []).2 with d := { (s.take 2 []).2.d with always := true } } else s
def PS.word (s : PS) (w : ByteArray) : PS := (s.take 2 [w]).2

inductive Part where
  | name | ref | number | list | classes | domain | always
  | word (w : ByteArray)
def PS.part (s : PS) : Part → PS
  | .name => s.name
  | .ref => s.ref
  | .number => s.number
  | .list => s.list
  | .classes => s.classes
  | .domain => s.domain
  | .always => s.always
  | .word w => s.word w
def loadParts : List Part := [.word (⟨#[108, 111, 97, 100]⟩ : ByteArray), .number, .word (⟨#[115, 105, 122, 101]⟩ : ByteArray), .number, .word (⟨#[115, 104, 97, 114, 101]⟩ : ByteArray), .number]
def rulesT : List (ByteArray × Int × List Part) :=
  [((⟨#[115, 105, 116, 101]⟩ : ByteArray), 0, [.name]), ((⟨#[102, 101, 101, 100]⟩ : ByteArray), 1, [.name]), ((⟨#[114, 97, 99, 107]⟩ : ByteArray), 2, [.name, .word (⟨#[105, 110]⟩ : ByteArray), .ref, .word (⟨#[111, 110]⟩ : ByteArray), .ref]),
   ((⟨#[109, 97, 99, 104, 105, 110, 101]⟩ : ByteArray), 3, [.name, .word (⟨#[105, 110]⟩ : ByteArray), .ref, .word (⟨#[99, 97, 112, 97, 99, 105, 116, 121]⟩ : ByteArray), .number]), ((⟨#[108, 105, 110, 107]⟩ : ByteArray), 4, [.ref, .ref, .number]),
   ((⟨#[103, 114, 111, 117, 112]⟩ : ByteArray), 5, [.name, .word (⟨#[111, 110]⟩ : ByteArray), .list] ++ loadParts), ((⟨#[112, 111, 111, 108]⟩ : ByteArray), 6, [.name, .number, .word (⟨#[111, 110]⟩ : ByteArray), .list] ++ loadParts),
   ((⟨#[106, 111, 98]⟩ : ByteArray), 7, [.name, .word (⟨#[111, 110]⟩ : ByteArray), .ref] ++ loadParts), ((⟨#[100, 97, 114, 107]⟩ : ByteArray), 8, [.ref, .word (⟨#[115, 108, 111, 116, 115]⟩ : ByteArray), .number, .word (⟨#[114, 101, 115, 101, 114, 118, 101]⟩ : ByteArray), .number]),
   ((⟨#[102, 97, 105, 108, 117, 114, 101, 115]⟩ : ByteArray), 9, [.classes]), ((⟨#[113, 117, 111, 114, 117, 109]⟩ : ByteArray), 10, [.ref]), ((⟨#[107, 101, 101, 112]⟩ : ByteArray), 11, [.ref, .number, .always]),
   ((⟨#[115, 112, 114, 101, 97, 100]⟩ : ByteArray), 12, [.ref, .word (⟨#[98, 121]⟩ : ByteArray), .domain, .number]), ((⟨#[111, 110, 108, 121]⟩ : ByteArray), 13, [.ref, .word (⟨#[111, 110]⟩ : ByteArray), .list]),
   ((⟨#[111, 114, 100, 101, 114]⟩ : ByteArray), 14, [.ref, .word (⟨#[98, 101, 102, 111, 114, 101]⟩ : ByteArray), .ref]), ((⟨#[100, 105, 115, 116, 117, 114, 98]⟩ : ByteArray), 15, [.number]), ((⟨#[115, 105, 108, 101, 110, 99, 101]⟩ : ByteArray), 16, [.ref, .number])]
def ruleOf (t : Tok) : Option (ByteArray × Int × List Part) := rulesT.find? fun r => decide (t.kind = 2) && decide (r.1 = t.text)
def PS.parts (s : PS) : List Part → PS
  | [] => s
  | p :: ps => PS.parts (if s.e = 0 then s.part p else s) ps
/-- a declaration, and the parser behind it -/
def PS.decl (s : PS) : Decl × PS :=
  match ruleOf s.next with
  | none => (zeroD, s.fail 3)
  | some r =>
    let s2 := (PS.parts { (s.take 2 []).2 with d := { zeroD with kind := r.2.1 } } r.2.2)
    ((s2.take 4 [(⟨#[59]⟩ : ByteArray)]).2.d, (s2.take 4 [(⟨#[59]⟩ : ByteArray)]).2)
def PS.beyond (s : PS) : Int := if (ruleOf s.next).isSome then 8 else 3
/-- the declarations that are left -/
def parseGo : Nat → List Decl → PS → List Decl × Int × Int
  | 0, _, _ => ([], 0, 0)
  | f + 1, out, s =>
    if s.next.kind = 0 then (out, 0, 0)
    else
      let r : List Decl × PS := if out.length = 1024 then (out, s.fail s.beyond) else (out ++ [s.decl.1], s.decl.2)
      if r.2.e ≠ 0 then ([], r.2.next.pos, r.2.e) else parseGo f r.1 r.2
def parseT (s : ByteArray) : List Decl × Int × Int :=
  if (scanT s).2.2 ≠ 0 then ([], (scanT s).2.1, (scanT s).2.2) else parseGo ((scanT s).1.length + 1) [] ⟨(scanT s).1, 0, zeroD⟩
def parseD (s : ByteArray) : Decl × Int × Int :=
  if (scanT s).2.2 ≠ 0 then (zeroD, (scanT s).2.1, (scanT s).2.2)
  else
    let r := PS.decl ⟨(scanT s).1, 0, zeroD⟩
    let s2 := if r.2.next.kind ≠ 0 then r.2.fail 3 else r.2
    if s2.e ≠ 0 then (zeroD, s2.next.pos, s2.e) else (r.1, 0, 0)
end Go.Proofs.YtanhkeeifnimgaaDoor

namespace Go.Proofs.YtanhkeeifnimgaaDoor
open Go Go.RowKit Go.Proofs

def noComma (l : List Tk) : Prop := ∀ t ∈ l.head?, ¬ (t.1 = 4 ∧ t.2.1 = (⟨#[44]⟩ : ByteArray))
def noAlways (l : List Tk) : Prop := ∀ t ∈ l.head?, ¬ (t.1 = 2 ∧ t.2.1 = (⟨#[97, 108, 119, 97, 121, 115]⟩ : ByteArray))
/-- the further references of a list -/
inductive TailR : List Tk → List ByteArray → List Tk → Prop
  | nil {r : List Tk} : noComma r → TailR r [] r
  | cons {x : ByteArray} {n m : Int} {r : List Tk} {l : List ByteArray} {rest : List Tk} : TailR r l rest → TailR ((4, (⟨#[44]⟩ : ByteArray), m) :: (1, x, n) :: r) (x :: l) rest
inductive ClsR : List ByteArray → List Tk → Int → List Tk → Prop
  | one {left : List ByteArray} {x : ByteArray} {n : Int} {r : List Tk} : hasS left x = true → noComma r → ClsR left ((2, x, n) :: r) (bitOf x) r
  | cons {left : List ByteArray} {x : ByteArray} {n m b : Int} {r rest : List Tk} : hasS left x = true → ClsR (left.filter fun y => decide (y ≠ x)) r b rest → ClsR left ((2, x, n) :: (4, (⟨#[44]⟩ : ByteArray), m) :: r) (bitOf x + b) rest
def clsL : List ByteArray := [(⟨#[109, 97, 99, 104, 105, 110, 101]⟩ : ByteArray), (⟨#[114, 97, 99, 107]⟩ : ByteArray), (⟨#[102, 101, 101, 100]⟩ : ByteArray)]
def domL : List ByteArray := [(⟨#[114, 97, 99, 107]⟩ : ByteArray), (⟨#[102, 101, 101, 100]⟩ : ByteArray), (⟨#[115, 105, 116, 101]⟩ : ByteArray)]
inductive PartR : Part → List Tk → Decl → List Tk → Decl → Prop
  | name {x : ByteArray} {n : Int} {r : List Tk} {d : Decl} : PartR .name ((1, x, n) :: r) d r { d with name := x }
  | ref {x : ByteArray} {n : Int} {r : List Tk} {d : Decl} : PartR .ref ((1, x, n) :: r) d r { d with refs := d.refs ++ [x] }
  | number {x : ByteArray} {n : Int} {r : List Tk} {d : Decl} : PartR .number ((3, x, n) :: r) d r { d with nums := d.nums ++ [n] }
  | list {x : ByteArray} {n : Int} {r : List Tk} {l : List ByteArray} {rest : List Tk} {d : Decl} : TailR r l rest → l.length ≤ 15 → PartR .list ((1, x, n) :: r) d rest { d with refs := d.refs ++ (x :: l) }
  | classes {tk rest : List Tk} {b : Int} {d : Decl} : ClsR clsL tk b rest → PartR .classes tk d rest { d with by_ := d.by_ + b }
  | domain {x : ByteArray} {n : Int} {r : List Tk} {d : Decl} : hasS domL x = true → PartR .domain ((2, x, n) :: r) d r { d with by_ := domOf x }
  | always1 {n : Int} {r : List Tk} {d : Decl} : PartR .always ((2, (⟨#[97, 108, 119, 97, 121, 115]⟩ : ByteArray), n) :: r) d r { d with always := true }
  | always0 {r : List Tk} {d : Decl} : noAlways r → PartR .always r d r d
  | word {w : ByteArray} {n : Int} {r : List Tk} {d : Decl} : PartR (.word w) ((2, w, n) :: r) d r d
inductive PartsR : List Part → List Tk → Decl → List Tk → Decl → Prop
  | nil {r : List Tk} {d : Decl} : PartsR [] r d r d
  | cons {p : Part} {ps : List Part} {tk r rest : List Tk} {d d1 d2 : Decl} : PartR p tk d r d1 → PartsR ps r d1 rest d2 → PartsR (p :: ps) tk d rest d2
inductive DeclR : List Tk → Decl → List Tk → Prop
  | mk {w : ByteArray} {k : Int} {ps : List Part} {n m : Int} {r rest : List Tk} {d : Decl} : (w, k, ps) ∈ rulesT → PartsR ps r { zeroD with kind := k } ((4, (⟨#[59]⟩ : ByteArray), m) :: rest) d → DeclR ((2, w, n) :: r) d rest
inductive ParseR : List Tk → List Decl → Prop
  | nil {tk : List Tk} : (∀ t ∈ tk.head?, t.1 = 0) → ParseR tk []
  | cons {tk rest : List Tk} {d : Decl} {ds : List Decl} : DeclR tk d rest → ParseR rest ds → ParseR tk (d :: ds)

/-! ### the functions' own laws -/
theorem fail_ne (s : PS) {e : Int} (he : e ≠ 0) : (s.fail e).e ≠ 0 := by
  unfold PS.fail
  by_cases h : s.e = 0
  · rw [if_pos h]; exact he
  · rw [if_neg h]; exact h
theorem take_cons {s : PS} {k : Int} {texts : List ByteArray} (hk : k ≠ 0) (h : (s.take k texts).2.e = 0) :
    ∃ (x : ByteArray) (n pos : Int) (r : List Tok), s = ⟨⟨k, x, n, pos⟩ :: r, 0, s.d⟩ ∧ (texts = [] ∨ hasS texts x = true) ∧ s.take k texts = (⟨k, x, n, pos⟩, ⟨r, 0, s.d⟩) := by
  unfold PS.take at h ⊢
  by_cases hc : s.e ≠ 0 ∨ s.next.kind ≠ k ∨ (texts ≠ [] ∧ hasS texts s.next.text = false)
  · rw [if_pos hc] at h
    exact absurd h (fail_ne s (by decide))
  · rw [if_neg hc]
    obtain ⟨toks, e, d⟩ := s
    simp only [not_or, Decidable.not_not, not_and] at hc
    obtain ⟨h1, h2, h3⟩ := hc
    obtain rfl : e = 0 := h1
    match toks with
    | [] => exact absurd h2.symm hk
    | ⟨k', x, n, pos⟩ :: r =>
      obtain rfl : k' = k := h2
      refine ⟨x, n, pos, r, rfl, ?_, rfl⟩
      by_cases ht : texts = []
      · exact .inl ht
      · exact .inr (by simpa [PS.next] using h3 ht)
theorem take_go {k : Int} {x : ByteArray} {n pos : Int} {r : List Tok} {d : Decl} {texts : List ByteArray} (h : texts = [] ∨ hasS texts x = true) :
    PS.take ⟨⟨k, x, n, pos⟩ :: r, 0, d⟩ k texts = (⟨k, x, n, pos⟩, ⟨r, 0, d⟩) := by
  unfold PS.take
  rw [if_neg (by
    rcases h with h | h
    · simp [PS.next, h]
    · simp [PS.next, h])]
  rfl
theorem comma_cases (s : PS) (h : s.e = 0) : (∃ (n pos : Int) (r : List Tok), s = ⟨⟨4, (⟨#[44]⟩ : ByteArray), n, pos⟩ :: r, 0, s.d⟩ ∧ s.comma = (true, ⟨r, 0, s.d⟩)) ∨ (noComma (s.toks.map tkOf) ∧ s.comma = (false, s)) := by
  obtain ⟨toks, e, d⟩ := s
  obtain rfl : e = 0 := h
  match toks with
  | [] => exact .inr ⟨by intro t ht; simp at ht, rfl⟩
  | ⟨k, x, n, pos⟩ :: r =>
    by_cases hc : k = 4 ∧ x = (⟨#[44]⟩ : ByteArray)
    · obtain ⟨rfl, rfl⟩ := hc
      exact .inl ⟨n, pos, r, rfl, rfl⟩
    · refine .inr ⟨?_, ?_⟩
      · intro t ht
        simp only [List.map_cons, List.head?_cons, Option.mem_def, Option.some.injEq] at ht
        subst ht
        exact hc
      · unfold PS.comma
        rw [if_pos]
        simp only [PS.next, List.headD_cons]
        by_cases hk : k = 4
        · exact .inr (.inr fun hx => hc ⟨hk, hx⟩)
        · exact .inr (.inl hk)
theorem comma_bad {s : PS} (h : s.e ≠ 0) : s.comma = (false, s) := by unfold PS.comma; rw [if_pos (.inl h)]
theorem comma_no {toks : List Tok} {d : Decl} (h : noComma (toks.map tkOf)) : PS.comma ⟨toks, 0, d⟩ = (false, ⟨toks, 0, d⟩) := by
  rcases comma_cases ⟨toks, 0, d⟩ rfl with ⟨n, pos, r, e, _⟩ | ⟨_, e⟩
  · exact absurd ⟨rfl, rfl⟩ (h (4, (⟨#[44]⟩ : ByteArray), n) (by rw [show toks = _ from congrArg PS.toks e]; simp [tkOf]))
  · exact e
theorem listGo_bad : ∀ (f n : Nat) (s : PS), s.e ≠ 0 → PS.listGo f n s = s
  | 0, _, _, _ => rfl
  | f + 1, n, s, h => by rw [PS.listGo, comma_bad h]; rfl

theorem map1 {toks : List Tok} {k n : Int} {x : ByteArray} {r : List Tk} (e : toks.map tkOf = (k, x, n) :: r) : ∃ p ts, toks = ⟨k, x, n, p⟩ :: ts ∧ ts.map tkOf = r := by
  cases toks with
  | nil => simp at e
  | cons t ts =>
    obtain ⟨k1, x1, n1, p1⟩ := t
    simp only [List.map_cons, tkOf, List.cons.injEq, Prod.mk.injEq] at e
    obtain ⟨⟨rfl, rfl, rfl⟩, e⟩ := e
    exact ⟨p1, ts, rfl, e⟩
/-- what a step that succeeded has read: k tokens -/
def Went (s : PS) (r : PS) : Prop := ∃ k, r.toks = s.toks.drop k
theorem listGo_R : ∀ (f n : Nat) (s : PS), s.toks.length < f → n ≤ 16 → s.e = 0 → (PS.listGo f n s).e = 0 →
    ∃ l : List ByteArray, n + l.length ≤ 16 ∧ Went s (PS.listGo f n s) ∧ (PS.listGo f n s).d = { s.d with refs := s.d.refs ++ l } ∧ TailR (s.toks.map tkOf) l ((PS.listGo f n s).toks.map tkOf)
  | 0, n, s, hf, _, _, _ => absurd hf (Nat.not_lt_zero _)
  | f + 1, n, s, hf, hn, h0, h => by
    rcases comma_cases s h0 with ⟨m, pos, r, es, ec⟩ | ⟨hno, ec⟩
    · rw [PS.listGo, ec] at h ⊢
      simp only [if_true] at h ⊢
      have hs : s.toks = ⟨4, (⟨#[44]⟩ : ByteArray), m, pos⟩ :: r := congrArg PS.toks es
      generalize hq : (if n = 16 ∧ (PS.next ⟨r, 0, s.d⟩).kind = 1 then PS.fail ⟨r, 0, s.d⟩ 8 else ⟨r, 0, s.d⟩ : PS) = q at h ⊢
      have h1 : q.ref.e = 0 := Classical.byContradiction fun hx => by rw [listGo_bad _ _ _ hx] at h; exact hx h
      obtain ⟨x, k, pos2, r2, e1, _, e2⟩ := take_cons (k := 1) (texts := []) (by decide) (show (q.take 1 []).2.e = 0 from h1)
      have hq2 : ¬ (n = 16 ∧ (PS.next ⟨r, 0, s.d⟩).kind = 1) := fun hx => by
        rw [if_pos hx] at hq
        rw [← hq] at e1
        exact absurd (congrArg PS.e e1) (fail_ne _ (by decide))
      rw [if_neg hq2] at hq
      subst hq
      have er : r = ⟨1, x, k, pos2⟩ :: r2 := congrArg PS.toks e1
      have hn2 : n ≠ 16 := fun hx => hq2 ⟨hx, by rw [er]; rfl⟩
      have eref : PS.ref ⟨r, 0, s.d⟩ = ⟨r2, 0, { s.d with refs := s.d.refs ++ [x] }⟩ := by unfold PS.ref; rw [e2]
      rw [eref] at h ⊢
      have hl : r2.length < f := by
        have h2 := hf
        rw [hs, er] at h2
        simp only [List.length_cons] at h2
        omega
      obtain ⟨l, a1, ⟨k2, a2⟩, a3, a4⟩ := listGo_R f (n + 1) ⟨r2, 0, { s.d with refs := s.d.refs ++ [x] }⟩ hl (by omega) rfl h
      refine ⟨x :: l, by simp; omega, ⟨k2 + 2, by rw [a2, hs, er]; rfl⟩, by rw [a3]; simp, ?_⟩
      rw [hs, er]
      exact TailR.cons a4
    · rw [PS.listGo, ec] at h ⊢
      simp only [Bool.false_eq_true, if_false] at h ⊢
      exact ⟨[], by simpa using hn, ⟨0, rfl⟩, by simp, TailR.nil hno⟩
theorem listGo_go {tk : List Tk} {l : List ByteArray} {rest : List Tk} (h : TailR tk l rest) : ∀ (toks : List Tok) (d : Decl) (f n : Nat), toks.map tkOf = tk → toks.length < f → n + l.length ≤ 16 →
    ∃ k, PS.listGo f n ⟨toks, 0, d⟩ = ⟨toks.drop k, 0, { d with refs := d.refs ++ l }⟩ ∧ (toks.drop k).map tkOf = rest := by
  induction h with
  | @nil r hno =>
    intro toks d f n e hf _
    subst e
    obtain ⟨f', rfl⟩ : ∃ f', f = f' + 1 := ⟨f - 1, by omega⟩
    refine ⟨0, ?_, rfl⟩
    rw [PS.listGo, comma_no hno]
    simp
  | @cons x n1 m r l rest _ ih =>
    intro toks d f n e hf hn
    obtain ⟨f', rfl⟩ : ∃ f', f = f' + 1 := ⟨f - 1, by omega⟩
    obtain ⟨p1, ts1, rfl, e1⟩ := map1 e
    obtain ⟨p2, ts, rfl, e'⟩ := map1 e1
    simp only [List.length_cons] at hf hn
    obtain ⟨k, a1, a2⟩ := ih ts { d with refs := d.refs ++ [x] } f' (n + 1) e' (by omega) (by omega)
    refine ⟨k + 2, ?_, a2⟩
    have hc : PS.comma ⟨⟨4, (⟨#[44]⟩ : ByteArray), m, p1⟩ :: ⟨1, x, n1, p2⟩ :: ts, 0, d⟩ = (true, ⟨⟨1, x, n1, p2⟩ :: ts, 0, d⟩) := rfl
    have hr : PS.ref ⟨⟨1, x, n1, p2⟩ :: ts, 0, d⟩ = ⟨ts, 0, { d with refs := d.refs ++ [x] }⟩ := by unfold PS.ref; rw [take_go (.inl rfl)]
    rw [PS.listGo, hc]
    simp only [if_true]
    rw [if_neg (by omega), hr, a1]
    simp
theorem hasS_filter_lt {left : List ByteArray} {x : ByteArray} (h : hasS left x = true) : (left.filter fun y => decide (y ≠ x)).length < left.length := by
  rw [hasS_iff] at h
  rw [List.length_filter_lt_length_iff_exists]
  exact ⟨x, h, by simp⟩
theorem classes_R : ∀ (f : Nat) (left : List ByteArray) (s : PS), left.length < f → s.e = 0 → (PS.classesGo f left s).e = 0 →
    ∃ b : Int, Went s (PS.classesGo f left s) ∧ (PS.classesGo f left s).d = { s.d with by_ := s.d.by_ + b } ∧ ClsR left (s.toks.map tkOf) b ((PS.classesGo f left s).toks.map tkOf)
  | 0, left, s, hf, _, _ => absurd hf (Nat.not_lt_zero _)
  | f + 1, left, s, hf, h0, h => by
    rw [PS.classesGo] at h ⊢
    by_cases hl : left = []
    · rw [if_pos hl] at h
      exact absurd h (fail_ne s (by decide))
    · rw [if_neg hl] at h ⊢
      simp only at h ⊢
      by_cases ht : (s.take 2 left).2.e = 0
      · obtain ⟨x, n, pos, r, es, hx, et⟩ := take_cons (by decide) ht
        have hs : s.toks = ⟨2, x, n, pos⟩ :: r := congrArg PS.toks es
        have hx2 : hasS left x = true := hx.resolve_left hl
        rw [et] at h ⊢
        simp only at h ⊢
        rcases comma_cases ⟨r, 0, { s.d with by_ := s.d.by_ + bitOf x }⟩ rfl with ⟨m, p2, r2, e2, ec⟩ | ⟨hno, ec⟩
        · rw [ec] at h ⊢
          simp only [if_true] at h ⊢
          have er : r = ⟨4, (⟨#[44]⟩ : ByteArray), m, p2⟩ :: r2 := congrArg PS.toks e2
          have := hasS_filter_lt hx2
          obtain ⟨b, ⟨k, a1⟩, a2, a3⟩ := classes_R f (left.filter fun y => decide (y ≠ x)) ⟨r2, 0, { s.d with by_ := s.d.by_ + bitOf x }⟩ (by omega) rfl h
          refine ⟨bitOf x + b, ⟨k + 2, by rw [a1, hs, er]; rfl⟩, by rw [a2]; simp [Int.add_assoc], ?_⟩
          rw [hs, er]
          exact ClsR.cons hx2 a3
        · rw [ec] at h ⊢
          simp only [Bool.false_eq_true, if_false] at h ⊢
          refine ⟨bitOf x, ⟨1, by rw [hs]; rfl⟩, rfl, ?_⟩
          rw [hs]
          exact ClsR.one hx2 hno
      · rw [comma_bad (show ({ (s.take 2 left).2 with d := { (s.take 2 left).2.d with by_ := (s.take 2 left).2.d.by_ + bitOf (s.take 2 left).1.text } } : PS).e ≠ 0 from ht)] at h
        simp only [Bool.false_eq_true, if_false] at h
        exact absurd h ht
theorem classes_go {left : List ByteArray} {tk : List Tk} {b : Int} {rest : List Tk} (h : ClsR left tk b rest) : ∀ (toks : List Tok) (d : Decl) (f : Nat), toks.map tkOf = tk → left.length < f →
    ∃ k, PS.classesGo f left ⟨toks, 0, d⟩ = ⟨toks.drop k, 0, { d with by_ := d.by_ + b }⟩ ∧ (toks.drop k).map tkOf = rest := by
  induction h with
  | @one left x n r hx hno =>
    intro toks d f e hf
    obtain ⟨f', rfl⟩ : ∃ f', f = f' + 1 := ⟨f - 1, by omega⟩
    obtain ⟨p1, ts, rfl, e'⟩ := map1 e
    refine ⟨1, ?_, e'⟩
    have hl : left ≠ [] := by rintro rfl; simp [hasS] at hx
    rw [PS.classesGo, if_neg hl, take_go (.inr hx)]
    simp only
    rw [comma_no (by rw [e']; exact hno)]
    rfl
  | @cons left x n m b r rest hx _ ih =>
    intro toks d f e hf
    obtain ⟨f', rfl⟩ : ∃ f', f = f' + 1 := ⟨f - 1, by omega⟩
    obtain ⟨p1, ts1, rfl, e1⟩ := map1 e
    obtain ⟨p2, ts, rfl, e'⟩ := map1 e1
    have hl : left ≠ [] := by rintro rfl; simp [hasS] at hx
    have := hasS_filter_lt hx
    obtain ⟨k, a1, a2⟩ := ih ts { d with by_ := d.by_ + bitOf x } f' e' (by omega)
    refine ⟨k + 2, ?_, a2⟩
    have hc : PS.comma ⟨⟨4, (⟨#[44]⟩ : ByteArray), m, p2⟩ :: ts, 0, { d with by_ := d.by_ + bitOf x }⟩ = (true, ⟨ts, 0, { d with by_ := d.by_ + bitOf x }⟩) := rfl
    rw [PS.classesGo, if_neg hl, take_go (.inr hx)]
    simp only
    rw [hc]
    simp only [if_true]
    rw [a1]
    simp [Int.add_assoc]

theorem part_R (p : Part) (s : PS) (h0 : s.e = 0) (h : (s.part p).e = 0) : Went s (s.part p) ∧ PartR p (s.toks.map tkOf) s.d ((s.part p).toks.map tkOf) (s.part p).d := by
  cases p with
  | name =>
    obtain ⟨x, n, pos, r, es, _, et⟩ := take_cons (k := 1) (texts := []) (by decide) (show (s.take 1 []).2.e = 0 from h)
    have hs : s.toks = ⟨1, x, n, pos⟩ :: r := congrArg PS.toks es
    show Went s s.name ∧ PartR _ _ _ (s.name.toks.map tkOf) s.name.d
    unfold PS.name
    rw [et, hs]
    exact ⟨⟨1, by rw [hs]; rfl⟩, PartR.name⟩
  | ref =>
    obtain ⟨x, n, pos, r, es, _, et⟩ := take_cons (k := 1) (texts := []) (by decide) (show (s.take 1 []).2.e = 0 from h)
    have hs : s.toks = ⟨1, x, n, pos⟩ :: r := congrArg PS.toks es
    show Went s s.ref ∧ PartR _ _ _ (s.ref.toks.map tkOf) s.ref.d
    unfold PS.ref
    rw [et, hs]
    exact ⟨⟨1, by rw [hs]; rfl⟩, PartR.ref⟩
  | number =>
    obtain ⟨x, n, pos, r, es, _, et⟩ := take_cons (k := 3) (texts := []) (by decide) (show (s.take 3 []).2.e = 0 from h)
    have hs : s.toks = ⟨3, x, n, pos⟩ :: r := congrArg PS.toks es
    show Went s s.number ∧ PartR _ _ _ (s.number.toks.map tkOf) s.number.d
    unfold PS.number
    rw [et, hs]
    exact ⟨⟨1, by rw [hs]; rfl⟩, PartR.number⟩
  | list =>
    change (PS.listGo (s.toks.length + 1) 1 s.ref).e = 0 at h
    have h1 : s.ref.e = 0 := Classical.byContradiction fun hx => by rw [listGo_bad _ _ _ hx] at h; exact hx h
    obtain ⟨x, n, pos, r, es, _, et⟩ := take_cons (k := 1) (texts := []) (by decide) (show (s.take 1 []).2.e = 0 from h1)
    have hs : s.toks = ⟨1, x, n, pos⟩ :: r := congrArg PS.toks es
    have er : s.ref = ⟨r, 0, { s.d with refs := s.d.refs ++ [x] }⟩ := by unfold PS.ref; rw [et]
    show Went s s.list ∧ PartR _ _ _ (s.list.toks.map tkOf) s.list.d
    unfold PS.list
    rw [er] at h ⊢
    obtain ⟨l, a1, ⟨k, a2⟩, a3, a4⟩ := listGo_R (s.toks.length + 1) 1 ⟨r, 0, { s.d with refs := s.d.refs ++ [x] }⟩ (by rw [hs]; simp; omega) (by decide) rfl h
    refine ⟨⟨k + 1, by rw [a2, hs]; rfl⟩, ?_⟩
    rw [a3, hs]
    have := PartR.list (x := x) (n := n) (d := s.d) a4 (by omega)
    rw [hs] at this
    simpa [tkOf] using this
  | classes =>
    change (PS.classesGo 5 clsL s).e = 0 at h
    obtain ⟨b, a1, a2, a3⟩ := classes_R 5 clsL s (by decide) h0 h
    refine ⟨a1, ?_⟩
    show PartR _ _ _ ((PS.classesGo 5 clsL s).toks.map tkOf) (PS.classesGo 5 clsL s).d
    rw [a2]
    exact PartR.classes a3
  | domain =>
    obtain ⟨x, n, pos, r, es, hx, et⟩ := take_cons (k := 2) (texts := domL) (by decide) (show (s.take 2 domL).2.e = 0 from h)
    have hs : s.toks = ⟨2, x, n, pos⟩ :: r := congrArg PS.toks es
    have et' : s.take 2 [(⟨#[114, 97, 99, 107]⟩ : ByteArray), (⟨#[102, 101, 101, 100]⟩ : ByteArray), (⟨#[115, 105, 116, 101]⟩ : ByteArray)] = _ := et
    show Went s s.domain ∧ PartR _ _ _ (s.domain.toks.map tkOf) s.domain.d
    unfold PS.domain
    rw [et', hs]
    exact ⟨⟨1, by rw [hs]; rfl⟩, PartR.domain (hx.resolve_left (by decide))⟩
  | always =>
    change s.always.e = 0 at h
    show Went s s.always ∧ PartR _ _ _ (s.always.toks.map tkOf) s.always.d
    unfold PS.always at h ⊢
    by_cases hc : s.e = 0 ∧ s.next.kind = 2 ∧ s.next.text = (⟨#[97, 108, 119, 97, 121, 115]⟩ : ByteArray)
    · rw [if_pos hc] at h ⊢
      obtain ⟨x, n, pos, r, es, _, et⟩ := take_cons (k := 2) (texts := []) (by decide) (show (s.take 2 []).2.e = 0 from h)
      have hs : s.toks = ⟨2, x, n, pos⟩ :: r := congrArg PS.toks es
      obtain rfl : x = (⟨#[97, 108, 119, 97, 121, 115]⟩ : ByteArray) := by have := hc.2.2; unfold PS.next at this; rw [hs] at this; exact this
      rw [et, hs]
      exact ⟨⟨1, by rw [hs]; rfl⟩, PartR.always1⟩
    · rw [if_neg hc]
      refine ⟨⟨0, rfl⟩, PartR.always0 ?_⟩
      intro t ht hx
      apply hc
      refine ⟨h0, ?_⟩
      unfold PS.next
      cases hs : s.toks with
      | nil => rw [hs] at ht; simp at ht
      | cons t0 r =>
        rw [hs] at ht
        simp only [List.map_cons, List.head?_cons, Option.mem_def, Option.some.injEq] at ht
        subst ht
        exact hx
  | word w =>
    obtain ⟨x, n, pos, r, es, hx, et⟩ := take_cons (k := 2) (texts := [w]) (by decide) (show (s.take 2 [w]).2.e = 0 from h)
    have hs : s.toks = ⟨2, x, n, pos⟩ :: r := congrArg PS.toks es
    have hw : w = x := by have := hx.resolve_left (by simp); simpa [hasS] using this
    subst hw
    show Went s (s.word w) ∧ PartR _ _ _ ((s.word w).toks.map tkOf) (s.word w).d
    unfold PS.word
    rw [et, hs]
    exact ⟨⟨1, by rw [hs]; rfl⟩, PartR.word⟩
theorem part_go {p : Part} {tk : List Tk} {d : Decl} {rest : List Tk} {d' : Decl} (h : PartR p tk d rest d') (toks : List Tok) (e : toks.map tkOf = tk) :
    ∃ k, PS.part ⟨toks, 0, d⟩ p = ⟨toks.drop k, 0, d'⟩ ∧ (toks.drop k).map tkOf = rest := by
  cases h with
  | name =>
    obtain ⟨p1, ts, rfl, e'⟩ := map1 e
    exact ⟨1, by show PS.name _ = _; unfold PS.name; rw [take_go (.inl rfl)]; rfl, e'⟩
  | ref =>
    obtain ⟨p1, ts, rfl, e'⟩ := map1 e
    exact ⟨1, by show PS.ref _ = _; unfold PS.ref; rw [take_go (.inl rfl)]; rfl, e'⟩
  | number =>
    obtain ⟨p1, ts, rfl, e'⟩ := map1 e
    exact ⟨1, by show PS.number _ = _; unfold PS.number; rw [take_go (.inl rfl)]; rfl, e'⟩
  | @list x n r l rest d ht hl =>
    obtain ⟨p1, ts, rfl, e'⟩ := map1 e
    have hr : PS.ref ⟨⟨1, x, n, p1⟩ :: ts, 0, d⟩ = ⟨ts, 0, { d with refs := d.refs ++ [x] }⟩ := by unfold PS.ref; rw [take_go (.inl rfl)]
    obtain ⟨k, a1, a2⟩ := listGo_go ht ts { d with refs := d.refs ++ [x] } (ts.length + 1 + 1) 1 e' (by omega) (by omega)
    refine ⟨k + 1, ?_, a2⟩
    show PS.list _ = _
    unfold PS.list
    rw [hr]
    simp only [List.length_cons]
    rw [a1]
    simp
  | classes hc =>
    obtain ⟨k, a1, a2⟩ := classes_go hc toks d 5 e (by decide)
    exact ⟨k, a1, a2⟩
  | @domain x n r d hx =>
    obtain ⟨p1, ts, rfl, e'⟩ := map1 e
    have := take_go (k := 2) (x := x) (n := n) (pos := p1) (r := ts) (d := d) (texts := domL) (.inr hx)
    have et' : PS.take ⟨⟨2, x, n, p1⟩ :: ts, 0, d⟩ 2 [(⟨#[114, 97, 99, 107]⟩ : ByteArray), (⟨#[102, 101, 101, 100]⟩ : ByteArray), (⟨#[115, 105, 116, 101]⟩ : ByteArray)] = _ := this
    exact ⟨1, by show PS.domain _ = _; unfold PS.domain; rw [et']; rfl, e'⟩
  | always1 =>
    obtain ⟨p1, ts, rfl, e'⟩ := map1 e
    exact ⟨1, by show PS.always _ = _; unfold PS.always; rw [if_pos ⟨rfl, rfl, rfl⟩, take_go (.inl rfl)]; rfl, e'⟩
  | always0 hno =>
    refine ⟨0, ?_, e⟩
    show PS.always _ = _
    unfold PS.always
    rw [if_neg]
    · rfl
    · rintro ⟨_, h2, h3⟩
      cases toks with
      | nil => exact absurd h2 (show ¬ (0 : Int) = 2 by decide)
      | cons t0 r =>
        subst e
        exact hno (tkOf t0) (by simp) ⟨h2, h3⟩
  | @word w n r d =>
    obtain ⟨p1, ts, rfl, e'⟩ := map1 e
    exact ⟨1, by show PS.word _ _ = _; unfold PS.word; rw [take_go (.inr (by simp [hasS]))]; rfl, e'⟩
theorem Went.trans {a b c : PS} (h1 : Went a b) (h2 : Went b c) : Went a c := by
  obtain ⟨k, e1⟩ := h1
  obtain ⟨m, e2⟩ := h2
  exact ⟨k + m, by rw [e2, e1, List.drop_drop]⟩
theorem parts_bad : ∀ (ps : List Part) (s : PS), s.e ≠ 0 → s.parts ps = s
  | [], _, _ => rfl
  | p :: ps, s, h => by rw [PS.parts, if_neg h]; exact parts_bad ps s h
theorem parts_R : ∀ (ps : List Part) (s : PS), (s.parts ps).e = 0 → s.e = 0 ∧ Went s (s.parts ps) ∧ PartsR ps (s.toks.map tkOf) s.d ((s.parts ps).toks.map tkOf) (s.parts ps).d
  | [], s, h => ⟨h, ⟨0, rfl⟩, PartsR.nil⟩
  | p :: ps, s, h => by
    by_cases h0 : s.e = 0
    · rw [PS.parts, if_pos h0] at h ⊢
      obtain ⟨h1, h2, h3⟩ := parts_R ps (s.part p) h
      obtain ⟨g1, g2⟩ := part_R p s h0 h1
      exact ⟨h0, g1.trans h2, PartsR.cons g2 h3⟩
    · rw [parts_bad _ _ h0] at h
      exact absurd h h0
theorem parts_go : ∀ {ps : List Part} {tk : List Tk} {d : Decl} {rest : List Tk} {d' : Decl} (_ : PartsR ps tk d rest d') (toks : List Tok) (_ : toks.map tkOf = tk),
    ∃ k, PS.parts ⟨toks, 0, d⟩ ps = ⟨toks.drop k, 0, d'⟩ ∧ (toks.drop k).map tkOf = rest
  | _, _, _, _, _, .nil, toks, e => ⟨0, rfl, e⟩
  | _, _, _, _, _, .cons h1 h2, toks, e => by
    obtain ⟨k, a1, a2⟩ := part_go h1 toks e
    obtain ⟨m, b1, b2⟩ := parts_go h2 (toks.drop k) a2
    refine ⟨k + m, ?_, by rw [← List.drop_drop]; exact b2⟩
    rw [PS.parts, if_pos rfl, a1, b1, List.drop_drop]
theorem ruleOf_mem {t : Tok} {x : ByteArray × Int × List Part} (h : ruleOf t = some x) : x ∈ rulesT ∧ t.kind = 2 ∧ x.1 = t.text := by
  unfold ruleOf at h
  have h1 := List.mem_of_find?_eq_some h
  have h2 := List.find?_some h
  simp only [Bool.and_eq_true, decide_eq_true_eq] at h2
  exact ⟨h1, h2.1, h2.2⟩
theorem find_word {α : Type} : ∀ (l : List (ByteArray × α)) (x : ByteArray × α), (l.map (·.1)).Nodup → x ∈ l → l.find? (fun r => decide ((2 : Int) = 2) && decide (r.1 = x.1)) = some x
  | [], x, _, h => absurd h (by simp)
  | y :: l, x, hn, h => by
    rw [List.map_cons, List.nodup_cons] at hn
    rw [List.find?_cons]
    by_cases hx : y.1 = x.1
    · rcases List.mem_cons.1 h with rfl | h
      · simp
      · exact absurd (hx ▸ List.mem_map_of_mem (f := (·.1)) h) hn.1
    · have : x ∈ l := (List.mem_cons.1 h).resolve_left (fun e => hx (by rw [e]))
      simp only [decide_true, Bool.true_and, decide_eq_false hx]
      exact find_word l x hn.2 this
theorem rules_nodup : (rulesT.map (·.1)).Nodup := by decide +kernel
theorem ruleOf_go {w : ByteArray} {k : Int} {ps : List Part} (h : (w, k, ps) ∈ rulesT) (n pos : Int) : ruleOf ⟨2, w, n, pos⟩ = some (w, k, ps) := find_word rulesT (w, k, ps) rules_nodup h
theorem decl_R (s : PS) (h : (s.decl).2.e = 0) : s.e = 0 ∧ Went s s.decl.2 ∧ DeclR (s.toks.map tkOf) s.decl.1 (s.decl.2.toks.map tkOf) := by
  unfold PS.decl at h ⊢
  cases hr : ruleOf s.next with
  | none =>
    rw [hr] at h
    exact absurd h (fail_ne s (by decide))
  | some x =>
    obtain ⟨w, k, ps⟩ := x
    obtain ⟨m1, m2, m3⟩ := ruleOf_mem hr
    rw [hr] at h
    simp only at h m3 ⊢
    obtain ⟨x2, n2, pos2, r2, es2, hx2, et2⟩ := take_cons (k := 4) (texts := [(⟨#[59]⟩ : ByteArray)]) (by decide) h
    rw [et2]
    simp only
    have hp : (PS.parts { (s.take 2 []).2 with d := { zeroD with kind := k } } ps).e = 0 := congrArg PS.e es2
    obtain ⟨h1, ⟨j, h2⟩, h3⟩ := parts_R ps _ hp
    obtain ⟨x, n, pos, r, es, _, et⟩ := take_cons (k := 2) (texts := []) (by decide) (show (s.take 2 []).2.e = 0 from h1)
    have hs : s.toks = ⟨2, x, n, pos⟩ :: r := congrArg PS.toks es
    have hw : w = x := by rw [m3]; unfold PS.next; rw [hs]; rfl
    subst hw
    have he : s.e = 0 := congrArg PS.e es
    rw [et] at h2 h3 es2 ⊢
    simp only at h2 h3 es2 ⊢
    have ht2 := congrArg PS.toks es2
    simp only at ht2
    rw [ht2] at h2 h3
    have hxx : x2 = (⟨#[59]⟩ : ByteArray) := by have := hx2.resolve_left (by simp); simp [hasS] at this; exact this.symm
    subst hxx
    refine ⟨he, ⟨j + 2, ?_⟩, ?_⟩
    · rw [hs]
      show r2 = r.drop (j + 1)
      rw [← List.drop_drop, ← h2]; rfl
    · rw [hs]
      exact DeclR.mk m1 h3
theorem decl_go {tk : List Tk} {d : Decl} {rest : List Tk} (h : DeclR tk d rest) (toks : List Tok) (e : toks.map tkOf = tk) (d0 : Decl) :
    ∃ k, PS.decl ⟨toks, 0, d0⟩ = (d, ⟨toks.drop k, 0, d⟩) ∧ (toks.drop k).map tkOf = rest ∧ 0 < k := by
  cases h with
  | @mk w k ps n m r rest d hm hp =>
    obtain ⟨p1, ts, rfl, e'⟩ := map1 e
    obtain ⟨j, a1, a2⟩ := parts_go hp ts e'
    obtain ⟨t2, ts2, e2⟩ : ∃ t2 ts2, ts.drop j = t2 :: ts2 := by
      cases hd : ts.drop j with
      | nil => rw [hd] at a2; simp at a2
      | cons t2 ts2 => exact ⟨t2, ts2, rfl⟩
    obtain ⟨k2, x2, m2, p2⟩ := t2
    rw [e2] at a1 a2
    simp only [List.map_cons, tkOf, List.cons.injEq, Prod.mk.injEq] at a2
    obtain ⟨⟨rfl, rfl, rfl⟩, a2⟩ := a2
    have e3 : ts.drop (j + 1) = ts2 := by rw [← List.drop_drop, e2]; rfl
    refine ⟨j + 2, ?_, by show (ts.drop (j + 1)).map tkOf = _; rw [e3]; exact a2, by omega⟩
    unfold PS.decl
    rw [show PS.next ⟨⟨2, w, n, p1⟩ :: ts, 0, d0⟩ = ⟨2, w, n, p1⟩ from rfl, ruleOf_go hm]
    simp only
    rw [take_go (.inl rfl)]
    simp only
    rw [a1, take_go (.inr (by simp [hasS]))]
    show (d, (⟨ts2, 0, d⟩ : PS)) = (d, ⟨ts.drop (j + 1), 0, d⟩)
    rw [e3]
theorem declR_head {tk : List Tk} {d : Decl} {rest : List Tk} (h : DeclR tk d rest) : ∃ t r, tk = t :: r ∧ t.1 = 2 := by
  cases h with
  | mk => exact ⟨_, _, rfl, rfl⟩
theorem parse_R : ∀ (f : Nat) (out : List Decl) (s : PS) (l : List Decl) (p : Int), s.toks.length < f → s.e = 0 → out.length ≤ 1024 → parseGo f out s = (l, p, 0) →
    ∃ ds, l = out ++ ds ∧ p = 0 ∧ l.length ≤ 1024 ∧ ParseR (s.toks.map tkOf) ds
  | 0, _, _, _, _, hf, _, _, _ => absurd hf (Nat.not_lt_zero _)
  | f + 1, out, s, l, p, hf, h0, ho, h => by
    rw [parseGo] at h
    by_cases hk : s.next.kind = 0
    · rw [if_pos hk] at h
      simp only [Prod.mk.injEq] at h
      obtain ⟨rfl, rfl, _⟩ := h
      refine ⟨[], by simp, rfl, ho, ParseR.nil ?_⟩
      intro t ht
      unfold PS.next at hk
      cases hs : s.toks with
      | nil => rw [hs] at ht; simp at ht
      | cons t0 r =>
        rw [hs] at ht hk
        simp only [List.map_cons, List.head?_cons, Option.mem_def, Option.some.injEq] at ht
        subst ht
        exact hk
    · rw [if_neg hk] at h
      by_cases hm : out.length = 1024
      · simp only [if_pos hm] at h
        have hb : s.beyond ≠ 0 := by unfold PS.beyond; split <;> decide
        rw [if_pos (fail_ne s hb)] at h
        simp only [Prod.mk.injEq] at h
        exact absurd h.2.2 (fail_ne s hb)
      · simp only [if_neg hm] at h
        by_cases he : s.decl.2.e = 0
        · rw [if_neg (by simpa using he)] at h
          obtain ⟨_, ⟨k, hw⟩, hd⟩ := decl_R s he
          have hlt : s.decl.2.toks.length < f := by
            obtain ⟨t, r, e1, e2⟩ := declR_head hd
            have hk2 : k ≠ 0 := by
              rintro rfl
              rw [List.drop_zero] at hw
              rw [hw] at hd
              obtain ⟨k3, a1, a2, a3⟩ := decl_go hd s.toks rfl zeroD
              have := congrArg List.length a2
              simp only [List.length_map, List.length_drop] at this
              have hl := congrArg List.length e1
              simp only [List.length_map, List.length_cons] at hl
              omega
            rw [hw, List.length_drop]
            have hl := congrArg List.length e1
            simp only [List.length_map, List.length_cons] at hl
            omega
          obtain ⟨ds, a1, a2, a3, a4⟩ := parse_R f (out ++ [s.decl.1]) s.decl.2 l p hlt he (by simp; omega) h
          exact ⟨s.decl.1 :: ds, by rw [a1]; simp, a2, a3, ParseR.cons hd a4⟩
        · rw [if_pos he] at h
          simp only [Prod.mk.injEq] at h
          exact absurd h.2.2 he
theorem parse_go {tk : List Tk} {ds : List Decl} (h : ParseR tk ds) : ∀ (f : Nat) (out : List Decl) (toks : List Tok) (d : Decl), toks.map tkOf = tk → toks.length < f → out.length + ds.length ≤ 1024 → parseGo f out ⟨toks, 0, d⟩ = (out ++ ds, 0, 0) := by
  induction h with
  | @nil tk hn =>
    intro f out toks d e hf _
    obtain ⟨f', rfl⟩ : ∃ f', f = f' + 1 := ⟨f - 1, by omega⟩
    rw [parseGo, if_pos, List.append_nil]
    cases toks with
    | nil => rfl
    | cons t r => subst e; exact hn (tkOf t) (by simp)
  | @cons tk rest dd ds hd _ ih =>
    intro f out toks d e hf ho
    obtain ⟨f', rfl⟩ : ∃ f', f = f' + 1 := ⟨f - 1, by omega⟩
    obtain ⟨k, a1, a2, a3⟩ := decl_go hd toks e d
    obtain ⟨t, r, e1, e2⟩ := declR_head hd
    cases toks with
    | nil => rw [e1] at e; simp at e
    | cons t0 ts =>
      have hk : (PS.next ⟨t0 :: ts, 0, d⟩).kind ≠ 0 := by
        rw [e1, List.map_cons, List.cons.injEq] at e
        have : (tkOf t0).1 = 2 := by rw [e.1]; exact e2
        show t0.kind ≠ 0
        have h3 : t0.kind = 2 := this
        omega
      simp only [List.length_cons] at ho hf
      rw [parseGo, if_neg hk]
      simp only [if_neg (show ¬ out.length = 1024 by omega)]
      rw [a1]
      simp only [ne_eq, not_true_eq_false, if_false]
      rw [ih f' (out ++ [dd]) _ dd a2 (by rw [List.length_drop, List.length_cons]; omega) (by simp; omega)]
      simp
end Go.Proofs.YtanhkeeifnimgaaDoor
