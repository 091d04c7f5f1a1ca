/- Plain Lean: what package lexer's skip leaves, and its tokens. No program in sight. Conditions: none. -/
import Derived.Test.YtanhkeeifnimgaaDoorSpec17
namespace Go.Proofs.YtanhkeeifnimgaaDoor
open Go

def spB (c : UInt8) : Bool := ([32, 9, 10, 13] : List UInt8).contains c
def noNl (c : UInt8) : Bool := c != 10
/-- what is left behind spaces and comments (true: inside a comment) -/
def skipM : Bool → List UInt8 → List UInt8
  | _, [] => []
  | true, c :: t => if c = 10 then skipM false t else skipM true t
  | false, c :: t => if spB c then skipM false t else if c = 35 then skipM true t else c :: t
def skipL (l : List UInt8) : List UInt8 := skipM false l
theorem skip_sp : ∀ l : List UInt8, skipL l = skipL (l.dropWhile spB)
  | [] => rfl
  | c :: t => by
    rw [List.dropWhile_cons]
    by_cases h : spB c = true
    · rw [if_pos h, ← skip_sp t]
      show skipM false (c :: t) = _
      unfold skipM; rw [if_pos h]; rfl
    · rw [if_neg h]
theorem skip_true : ∀ l : List UInt8, skipM true l = skipL (l.dropWhile noNl)
  | [] => rfl
  | c :: t => by
    rw [List.dropWhile_cons]
    by_cases h : c = 10
    · subst h
      rw [if_neg (by decide)]
      show skipM true (10 :: t) = skipM false (10 :: t)
      unfold skipM; rw [if_pos rfl, if_pos (by decide)]
    · rw [if_pos (by simp [noNl, h]), ← skip_true t]
      rw [skipM, if_neg h]
theorem skip_hash {c : UInt8} {t : List UInt8} (h : c = 35) : skipL (c :: t) = skipL ((c :: t).dropWhile noNl) := by
  subst h
  rw [List.dropWhile_cons, if_pos (by decide), ← skip_true]
  show skipM false (35 :: t) = _
  rw [skipM, if_neg (by decide), if_pos rfl]
theorem skip_stop {c : UInt8} {t : List UInt8} (h1 : spB c = false) (h2 : c ≠ 35) : skipL (c :: t) = c :: t := by
  show skipM false (c :: t) = _
  rw [skipM, if_neg (by simp [h1]), if_neg h2]
theorem dropWhile_drop (p : UInt8 → Bool) : ∀ l : List UInt8, l.dropWhile p = l.drop (l.takeWhile p).length
  | [] => rfl
  | c :: t => by
    rw [List.dropWhile_cons, List.takeWhile_cons]
    by_cases h : p c = true
    · rw [if_pos h, if_pos h, dropWhile_drop p t]; rfl
    · rw [if_neg h, if_neg h]; rfl
theorem dropWhile_head {p : UInt8 → Bool} {l : List UInt8} {c : UInt8} {t : List UInt8} (h : l.dropWhile p = c :: t) : p c = false := by
  have := List.head?_dropWhile_not p l
  rw [h] at this
  simpa using this
theorem skip_len_le : ∀ (b : Bool) (l : List UInt8), (skipM b l).length ≤ l.length
  | _, [] => by cases ‹Bool› <;> exact Nat.le_refl _
  | true, c :: t => by
    unfold skipM
    split
    · exact Nat.le_succ_of_le (skip_len_le false t)
    · exact Nat.le_succ_of_le (skip_len_le true t)
  | false, c :: t => by
    unfold skipM
    split
    · exact Nat.le_succ_of_le (skip_len_le false t)
    · split
      · exact Nat.le_succ_of_le (skip_len_le true t)
      · exact Nat.le_refl _
theorem skip_suffix : ∀ (b : Bool) (l : List UInt8), ∃ k, k ≤ l.length ∧ skipM b l = l.drop k
  | b, [] => ⟨0, Nat.le_refl _, by cases b <;> rfl⟩
  | true, c :: t => by
    unfold skipM
    split
    · obtain ⟨k, hk, e⟩ := skip_suffix false t
      exact ⟨k + 1, by simp; omega, by rw [e]; rfl⟩
    · obtain ⟨k, hk, e⟩ := skip_suffix true t
      exact ⟨k + 1, by simp; omega, by rw [e]; rfl⟩
  | false, c :: t => by
    unfold skipM
    split
    · obtain ⟨k, hk, e⟩ := skip_suffix false t
      exact ⟨k + 1, by simp; omega, by rw [e]; rfl⟩
    · split
      · obtain ⟨k, hk, e⟩ := skip_suffix true t
        exact ⟨k + 1, by simp; omega, by rw [e]; rfl⟩
      · exact ⟨0, Nat.zero_le _, rfl⟩
/-- how much skip skips -/
def skipN (l : List UInt8) : Nat := l.length - (skipL l).length
theorem skip_drop (l : List UInt8) : skipL l = l.drop (skipN l) := by
  obtain ⟨k, hk, e⟩ := skip_suffix false l
  show skipM false l = _
  unfold skipN
  have e2 : skipL l = l.drop k := e
  rw [e2, List.length_drop]
  rw [show l.length - (l.length - k) = k by omega]
  exact e
structure Tok where
  kind : Int
  text : ByteArray
  n : Int
  pos : Int
def noTok : Tok := ⟨0, ⟨#[]⟩, 0, 0⟩
def tokCells (t : Tok) : List Value := [.int .i64 t.kind, .string t.text, .int .i64 t.n, .int .i64 t.pos]
def nmC (c : UInt8) : Bool := nameI c.toNat
def digC (c : UInt8) : Bool := digitI c.toNat
def letC (c : UInt8) : Bool := letterI c.toNat
/-- a byte of a name that is no digit -/
def lowC (c : UInt8) : Bool := letterI c.toNat || decide (c = 95)
def wordN (s : ByteArray) : Nat := (s.data.toList.takeWhile nmC).length
def wordT (s : ByteArray) : Tok × Int := if 31 < wordN s then (noTok, 8) else (⟨if hasS keywords (s.extract 0 (wordN s)) then 2 else 1, s.extract 0 (wordN s), 0, 0⟩, 0)
/-- the value of digits, if it is not too large -/
def numV : List UInt8 → Int → Option Int
  | [], a => some a
  | c :: t, a => if 1048576 < 10 * a + ((c.toNat : Int) - 48) then none else numV t (10 * a + ((c.toNat : Int) - 48))
def numN (s : ByteArray) : Nat := (s.data.toList.takeWhile digC).length
def numOdd (s : ByteArray) : Bool := decide (1 < numN s) && decide (s.data.toList.head? = some 48) || decide (0 < ((s.data.toList.drop (numN s)).takeWhile lowC).length)
def numT (s : ByteArray) : Tok × Int :=
  if numOdd s then (noTok, 3) else
    match numV (s.data.toList.take (numN s)) 0 with
    | some v => (⟨3, s.extract 0 (numN s), v, 0⟩, 0)
    | none => (noTok, 2)
def tokT (s : ByteArray) : Tok × Int :=
  match s.data.toList with
  | [] => (noTok, 3)
  | c :: _ => if letC c then wordT s else if digC c then numT s else if c = 59 ∨ c = 44 then (⟨4, s.extract 0 1, 0, 0⟩, 0) else (noTok, 3)
/-- the tokens from an offset on, behind those that were read -/
def scanGo (s : ByteArray) : Nat → Nat → List Tok → List Tok × Int × Int
  | 0, _, _ => ([], 0, 0)
  | f + 1, at_, out =>
    if at_ < s.size then
      if (tokT (s.extract at_ s.size)).2 ≠ 0 then ([], at_, (tokT (s.extract at_ s.size)).2)
      else scanGo s f (at_ + (tokT (s.extract at_ s.size)).1.text.size + skipN (s.data.toList.drop (at_ + (tokT (s.extract at_ s.size)).1.text.size))) (out ++ [⟨(tokT (s.extract at_ s.size)).1.kind, (tokT (s.extract at_ s.size)).1.text, (tokT (s.extract at_ s.size)).1.n, at_⟩])
    else (out ++ [⟨0, ⟨#[]⟩, 0, s.size⟩], 0, 0)
def scanT (s : ByteArray) : List Tok × Int × Int := if 16384 < s.size then ([], 0, 8) else scanGo s (s.size + 1) (skipN s.data.toList) []
theorem takeWhile_size (s : ByteArray) (p : UInt8 → Bool) : (s.data.toList.takeWhile p).length ≤ s.size := by
  have := (List.takeWhile_prefix (l := s.data.toList) p).length_le
  simpa using this
theorem extract_size {s : ByteArray} {n : Nat} (h : n ≤ s.size) : (s.extract 0 n).size = n := by rw [ByteArray.size_extract]; omega
/-- a token that was read is not empty and lies in its text -/
theorem tok_size {s : ByteArray} (h0 : 0 < s.size) (h : (tokT s).2 = 0) : 1 ≤ (tokT s).1.text.size ∧ (tokT s).1.text.size ≤ s.size := by
  have hne : s.data.toList ≠ [] := by
    intro e
    have h1 := congrArg List.length e
    rw [Array.length_toList] at h1
    have h2 : s.data.size = s.size := rfl
    have h3 : ([] : List UInt8).length = 0 := rfl
    omega
  obtain ⟨c, t, hc⟩ := List.exists_cons_of_ne_nil hne
  unfold tokT at h ⊢
  rw [hc] at h ⊢
  simp only at h ⊢
  by_cases h1 : letC c = true
  · rw [if_pos h1] at h ⊢
    have hn : 1 ≤ wordN s := by
      unfold wordN; rw [hc, List.takeWhile_cons, if_pos (by simp [nmC, nameI, show letterI c.toNat = true from h1])]; simp
    have hn2 : wordN s ≤ s.size := takeWhile_size s nmC
    unfold wordT at h ⊢
    by_cases h31 : 31 < wordN s
    · rw [if_pos h31] at h; simp at h
    · rw [if_neg h31]; simp only [extract_size hn2]; omega
  · rw [if_neg h1] at h ⊢
    by_cases h2 : digC c = true
    · rw [if_pos h2] at h ⊢
      have hn : 1 ≤ numN s := by
        unfold numN; rw [hc, List.takeWhile_cons, if_pos h2]; simp
      have hn2 : numN s ≤ s.size := takeWhile_size s digC
      unfold numT at h ⊢
      by_cases ho : numOdd s = true
      · rw [if_pos ho] at h; simp at h
      · rw [if_neg ho] at h ⊢
        cases hv : numV (s.data.toList.take (numN s)) 0 with
        | none => rw [hv] at h; simp at h
        | some v => simp only [extract_size hn2]; omega
    · rw [if_neg h2] at h ⊢
      by_cases h3 : c = 59 ∨ c = 44
      · rw [if_pos h3]
        have e1 := extract_size (n := 1) (show 1 ≤ s.size by omega)
        show 1 ≤ (s.extract 0 1).size ∧ (s.extract 0 1).size ≤ s.size
        omega
      · rw [if_neg h3] at h; simp at h
theorem skipN_le (l : List UInt8) : skipN l ≤ l.length := Nat.sub_le _ _
end Go.Proofs.YtanhkeeifnimgaaDoor
