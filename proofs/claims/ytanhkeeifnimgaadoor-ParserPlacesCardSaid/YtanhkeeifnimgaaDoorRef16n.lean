/- The walks of exodusref16: Space, Skip, word. Conditions: lengths that fit memory. The walks of exodusref16: word, number, token, Scan. Conditions: lengths that fit memory. The walk of exodusref16.number. Conditions: lengths that fit memory. -/
import Derived.Test.YtanhkeeifnimgaaDoorLex16d
import Derived.Test.YtanhkeeifnimgaaDoorRef17c

namespace Go.Proofs.YtanhkeeifnimgaaDoor
open Go Go.RowKit Go.Proofs

theorem byte_eqI (c d : UInt8) : ((c.toNat : Int) == (d.toNat : Int)) = decide (c = d) := by
  rw [Bool.eq_iff_iff]
  simp only [beq_iff_eq, decide_eq_true_eq]
  exact ⟨fun h => UInt8.toNat_inj.1 (by omega), fun h => by rw [h]⟩
theorem sp_eq (c : UInt8) : spB c = (((c.toNat : Int) == 32) || ((c.toNat : Int) == 9) || ((c.toNat : Int) == 10) || ((c.toNat : Int) == 13)) := by
  have h1 : ((c.toNat : Int) == 32) = decide (c = 32) := byte_eqI c 32
  have h2 : ((c.toNat : Int) == 9) = decide (c = 9) := byte_eqI c 9
  have h3 : ((c.toNat : Int) == 10) = decide (c = 10) := byte_eqI c 10
  have h4 : ((c.toNat : Int) == 13) = decide (c = 13) := byte_eqI c 13
  rw [h1, h2, h3, h4, Bool.eq_iff_iff]
  simp [spB, or_assoc]
set_option maxHeartbeats 1000000 in
theorem space_ref (c : UInt8) (w : World) : Calls Tryd.prog 60 #[.int .u8 c.toNat] w fun e w' => e = .returned (.bool (spB c)) ∧ w = w' := by
  have HB := hide (sp_eq c)
  cases h1 : ((c.toNat : Int) == 32) <;> cases h2 : ((c.toNat : Int) == 9) <;> cases h3 : ((c.toNat : Int) == 10) <;> cases h4 : ((c.toNat : Int) == 13)
  all_goals
    go_enter Tryd.func60, Tryd.ntmps60
    go_wp2_with fail
    go_ret
    exact ⟨ret_congr (by rw [HB.out]; simp [*]), rfl⟩
theorem drop_cons (s : ByteArray) {n : Nat} (h : n < s.size) : s.data.toList.drop n = s[n] :: s.data.toList.drop (n + 1) := by
  rw [List.drop_eq_getElem_cons (by simpa using h)]; rfl
theorem skip_end (s : ByteArray) {k n : Nat} (hkn : k ≤ n) (hn : n ≤ s.size) (h : skipL (s.data.toList.drop k) = s.data.toList.drop n) : k + skipN (s.data.toList.drop k) = n := by
  unfold skipN
  rw [h]
  simp
  omega
set_option maxRecDepth 100000 in
set_option maxHeartbeats 2000000 in
theorem skip_ref (s : ByteArray) (k r : Nat) (hr : Hid (k + skipN (s.data.toList.drop k) = r)) (w : World) (hk : k ≤ s.size) (hs : s.size ≤ 9223372036854775806) :
    Calls Tryd.prog 32 #[.string s, .int .i64 k] w fun e w' => e = .returned (.int .i64 r) ∧ w = w' := by
  go_enter Tryd.func32, Tryd.ntmps32
  go_wp2_with fail
  go_loopw [1] (fun v wr => ∃ n : Nat, k ≤ n ∧ n ≤ s.size ∧ v = .int .i64 n ∧ w = wr ∧ Hid (skipL (s.data.toList.drop k) = skipL (s.data.toList.drop n))) (fun v _ => s.size - (intOf v).toNat)
  case atStart => exact ⟨k, Nat.le_refl _, hk, rfl, rfl, hide rfl⟩
  case round =>
    obtain ⟨n, hkn, hn, rfl, rfl, hsk⟩ := hrel
    by_cases hlt : n < s.size
    · have hcons := drop_cons s hlt
      have hltI : (n : Int) < (s.size : Int) := by omega
      by_cases hc : s[n] = 35
      · have hcI : ((s[n].toNat : Int) == 35) = true := by rw [hc]; rfl
        have HSK := hide (hsk.out.trans (by rw [hcons, skip_hash hc, ← hcons] : skipL (s.data.toList.drop n) = skipL ((s.data.toList.drop n).dropWhile noNl)))
        have HC := hide hc
        clear hsk hc hcons
        go_wp2_with fail
        go_loopw [1] (fun v2 w2 => ∃ m : Nat, n ≤ m ∧ m ≤ s.size ∧ v2 = .int .i64 m ∧ w = w2 ∧ Hid (skipL (s.data.toList.drop k) = skipL ((s.data.toList.drop m).dropWhile noNl))) (fun v2 _ => s.size - (intOf v2).toNat)
        case atStart => exact ⟨n, Nat.le_refl _, hn, rfl, rfl, HSK⟩
        case round =>
          clear HSK
          obtain ⟨m, hnm, hm, rfl, rfl, hsm⟩ := hrel
          by_cases hlm : m < s.size
          · have hmI : (m : Int) < (s.size : Int) := by omega
            have hcons := drop_cons s hlm
            by_cases hnl : s[m] = 10
            · have hnI : ((s[m].toNat : Int) != 10) = false := by rw [hnl]; rfl
              have HS2 := hide (hsm.out.trans (by rw [hcons, List.dropWhile_cons, if_neg (by rw [hnl]; decide), ← hcons] : skipL ((s.data.toList.drop m).dropWhile noNl) = skipL (s.data.toList.drop m)))
              have hgt : n < m := by
                rcases Nat.lt_or_ge n m with h | h
                · exact h
                · obtain rfl : n = m := by omega
                  rw [HC.out] at hnl
                  exact absurd hnl (by decide)
              clear hsm hcons hnl
              go_wp2_with fail
              go_roundw
              case rel => exact ⟨m, by omega, hm, rfl, by simp, HS2⟩
              case measure => simp [intOf]; omega
            · have hnI : ((s[m].toNat : Int) != 10) = true := by
                have := byte_eqI s[m] 10
                simp only [bne]
                rw [show ((s[m].toNat : Int) == 10) = decide (s[m] = 10) from this]
                simpa using hnl
              have HS2 := hide (hsm.out.trans (by rw [hcons, List.dropWhile_cons, if_pos (by simpa [noNl] using hnl)] : skipL ((s.data.toList.drop m).dropWhile noNl) = skipL ((s.data.toList.drop (m + 1)).dropWhile noNl)))
              clear hsm hcons hnl
              go_wp2_with fail
              go_roundw
              case rel => exact ⟨m + 1, by omega, by omega, by go_num, by simp, HS2⟩
              case measure => simp [intOf]; omega
          · have hmI : ¬ (m : Int) < (s.size : Int) := by omega
            have hme : m = s.size := by omega
            have HS2 := hide (hsm.out.trans (by rw [List.drop_of_length_le (by simp; omega)]; rfl : skipL ((s.data.toList.drop m).dropWhile noNl) = skipL (s.data.toList.drop m)))
            clear hsm
            go_wp2_with fail
            go_roundw
            case rel => exact ⟨m, by omega, hm, rfl, by simp, HS2⟩
            case measure => simp [intOf]; omega
      · have hcI : ((s[n].toNat : Int) == 35) = false := by
          rw [show ((s[n].toNat : Int) == 35) = decide (s[n] = 35) from byte_eqI s[n] 35]
          simpa using hc
        have HSP := space_ref s[n] w
        cases hsp : spB s[n]
        · rw [hsp] at HSP
          have HSP := hide HSP
          have HF := hide (hr.out.symm.trans (skip_end s hkn hn (hsk.out.trans (by rw [hcons, skip_stop hsp hc]))))
          clear hsk hcons hsp hc
          go_wp2_with (go_at_call 60; refine HSP.out.mono ?_; rintro e w1 ⟨rfl, rfl⟩)
          go_ret
          exact ⟨ret_congr (by rw [HF.out]; rfl), rfl⟩
        · rw [hsp] at HSP
          have HSP := hide HSP
          have HS2 := hide (hsk.out.trans (by rw [hcons]; show skipM false _ = _; rw [skipM, if_pos hsp]; rfl : skipL (s.data.toList.drop n) = skipL (s.data.toList.drop (n + 1))))
          clear hsk hcons hsp hc
          go_wp2_with (go_at_call 60; refine HSP.out.mono ?_; rintro e w1 ⟨rfl, rfl⟩)
          go_roundw
          case rel => exact ⟨n + 1, by omega, by omega, by go_num, by simp, HS2⟩
          case measure => simp [intOf]; omega
    · have hltI : ¬ (n : Int) < (s.size : Int) := by omega
      have hne : n = s.size := by omega
      have HF := hide (hr.out.symm.trans (skip_end s hkn hn (hsk.out.trans (by rw [List.drop_of_length_le (by simp; omega)]; rfl))))
      have HN := hide hne
      clear hne
      clear hsk
      go_wp2_with fail
      go_ret
      exact ⟨ret_congr (by rw [HF.out]; rfl), by simp⟩
/-- where a run of letters, digits and underscores ends -/
theorem nmC_eq (c : UInt8) : nmC c = (letterI c.toNat || digitI c.toNat || ((c.toNat : Int) == 95)) := by
  unfold nmC nameI
  rw [show ((c.toNat : Int) == 95) = decide ((c.toNat : Int) = 95) by rw [Bool.eq_iff_iff]; simp]
  try (cases letterI (c.toNat : Int) <;> cases digitI (c.toNat : Int) <;> rfl)
end Go.Proofs.YtanhkeeifnimgaaDoor

namespace Go.Proofs.YtanhkeeifnimgaaDoor
open Go Go.RowKit Go.Proofs

theorem takeW_len {α : Type} (p : α → Bool) : ∀ (l : List α) (m : Nat), m ≤ l.length → (∀ j (hj : j < l.length), j < m → p l[j] = true) → (∀ hj : m < l.length, p l[m] = false) → (l.takeWhile p).length = m
  | [], m, hm, _, _ => by simp at hm; subst hm; rfl
  | c :: t, 0, _, _, he => by
    have := he (by simp)
    simp only [List.getElem_cons_zero] at this
    rw [List.takeWhile_cons, if_neg (by rw [this]; decide)]; rfl
  | c :: t, m + 1, hm, h, he => by
    have h0 := h 0 (by simp) (by omega)
    simp only [List.getElem_cons_zero] at h0
    rw [List.takeWhile_cons, if_pos h0, List.length_cons, takeW_len p t m (by simpa using hm) (fun j hj hjm => by have := h (j + 1) (by simpa using hj) (by omega); rwa [List.getElem_cons_succ] at this) (fun hj => by have := he (by simpa using hj); rwa [List.getElem_cons_succ] at this)]
theorem run_len (p : UInt8 → Bool) (s : ByteArray) {k n : Nat} (hkn : k ≤ n) (hn : n ≤ s.size) (h : ∀ j (hj : j < s.size), k ≤ j → j < n → p s[j] = true) (he : ∀ hj : n < s.size, p s[n] = false) : k + ((s.data.toList.drop k).takeWhile p).length = n := by
  have hl : (s.data.toList.drop k).length = s.size - k := by simp
  have hg : ∀ j (hj : j < (s.data.toList.drop k).length), (s.data.toList.drop k)[j] = s[k + j]'(by omega) := fun j hj => by
    rw [List.getElem_drop]; rfl
  rw [takeW_len p _ (n - k) (by omega) (fun j hj hjm => by rw [hg]; exact h _ _ (by omega) (by omega)) (fun hj => by rw [hg]; have := he (by omega); simpa [show k + (n - k) = n by omega] using this)]
  omega
set_option maxRecDepth 100000 in
set_option maxHeartbeats 2000000 in
theorem word_ref (s : ByteArray) (k r : Nat) (hr : Hid (k + ((s.data.toList.drop k).takeWhile nmC).length = r)) (w : World) (hk : k ≤ s.size) (hs : s.size ≤ 9223372036854775806) :
    Calls Tryd.prog 64 #[.string s, .int .i64 k] w fun e w' => e = .returned (.int .i64 r) ∧ w = w' := by
  go_enter Tryd.func64, Tryd.ntmps64
  go_wp2_with fail
  go_loopw [1] (fun v wr => ∃ n : Nat, k ≤ n ∧ n ≤ s.size ∧ v = .int .i64 n ∧ w = wr ∧ Hid (∀ j (hj : j < s.size), k ≤ j → j < n → nmC s[j] = true)) (fun v _ => s.size - (intOf v).toNat)
  case atStart => exact ⟨k, Nat.le_refl _, hk, rfl, rfl, hide fun j hj h1 h2 => absurd h1 (by omega)⟩
  case round =>
    obtain ⟨n, hkn, hn, rfl, rfl, hall⟩ := hrel
    by_cases hlt : n < s.size
    · have hltI : (n : Int) < (s.size : Int) := by omega
      have hL := letter_any (s[n].toNat : Int) w
      have hD := digit_any (s[n].toNat : Int) w
      have hnm := nmC_eq s[n]
      cases h1 : letterI (s[n].toNat : Int) <;> cases h2 : digitI (s[n].toNat : Int) <;> cases h3 : ((s[n].toNat : Int) == 95)
      all_goals
        rw [h1] at hL
        rw [h2] at hD
        rw [h1, h2, h3] at hnm
        have HL := hide hL
        have HD := hide hD
        have HN := hide hnm
        clear hL hD hnm h1 h2
      case false.false.false =>
        have HF := hide (hr.out.symm.trans <| run_len nmC s hkn hn hall.out fun _ => HN.out)
        go_wp2_with (first
          | (go_at_call 63; refine HL.out.mono ?_; rintro e w1 ⟨rfl, rfl⟩)
          | (go_at_call 61; refine HD.out.mono ?_; rintro e w1 ⟨rfl, rfl⟩))
        go_ret
        exact ⟨ret_congr (by rw [HF.out]; rfl), by simp⟩
      all_goals
        go_wp2_with (first
          | (go_at_call 63; refine HL.out.mono ?_; rintro e w1 ⟨rfl, rfl⟩)
          | (go_at_call 61; refine HD.out.mono ?_; rintro e w1 ⟨rfl, rfl⟩))
        go_roundw
        case rel => exact ⟨n + 1, by omega, by omega, by go_num, by simp, hide fun j hj a1 a2 => by
          rcases Nat.lt_or_ge j n with a3 | a3
          · exact hall.out j hj a1 a3
          · obtain rfl : j = n := by omega
            exact HN.out⟩
        case measure => simp [intOf]; omega
    · have hltI : ¬ (n : Int) < (s.size : Int) := by omega
      have HF := hide (hr.out.symm.trans <| run_len nmC s hkn hn hall.out fun hj => absurd hj hlt)
      go_wp2_with fail
      go_ret
      exact ⟨ret_congr (by rw [HF.out]; rfl), by simp⟩
/-- a token of the reference's lexer, and its error -/
def TokAt (k : Nat) (r : Tok × Int) (w : World) (e : Ending) (w' : World) : Prop := e = .returned (.tuple #[tokV (if r.2 = 0 then { r.1 with pos := k } else noTok), .int .i64 r.2]) ∧ Below w.heap.size w w'
theorem nm_low {l : List UInt8} (h : ∀ c ∈ l.head?, digC c = false) : decide (0 < (l.takeWhile nmC).length) = decide (0 < (l.takeWhile lowC).length) := by
  cases l with
  | nil => rfl
  | cons c t =>
    have hd := h c rfl
    have e : nmC c = lowC c := by
      rw [nmC_eq]
      unfold lowC
      rw [show digitI (c.toNat : Int) = false from hd, Bool.or_false]
      congr 1
      exact byte_eqI c 95
    rw [List.takeWhile_cons, List.takeWhile_cons, e]
    cases lowC c <;> simp
theorem drop_ext (s : ByteArray) (k : Nat) : (s.extract k s.size).data.toList = s.data.toList.drop k := Lib.extract_to_end s k
/-- the value so far: exact, or too large for ever -/
def Sat (l : List UInt8) (i : Nat) (a : Int) : Prop := (0 ≤ a ∧ a ≤ 1048576 ∧ numV l 0 = numV (l.drop i) a) ∨ (a = 1048577 ∧ numV l 0 = none)
theorem Sat.step {l : List UInt8} {i : Nat} {a : Int} (h : Sat l i a) (hi : i < l.length) (hd : 48 ≤ (l[i].toNat : Int) ∧ (l[i].toNat : Int) ≤ 57) : Sat l (i + 1) (min (10 * a + ((l[i].toNat : Int) - 48)) 1048577) := by
  rcases h with ⟨h0, h1, h2⟩ | ⟨h1, h2⟩
  · rw [numV_step hi] at h2
    by_cases hb : 1048576 < 10 * a + ((l[i].toNat : Int) - 48)
    · rw [if_pos hb] at h2
      exact .inr ⟨by omega, h2⟩
    · rw [if_neg hb] at h2
      have : min (10 * a + ((l[i].toNat : Int) - 48)) 1048577 = 10 * a + ((l[i].toNat : Int) - 48) := by omega
      rw [this]
      exact .inl ⟨by omega, by omega, h2⟩
  · exact .inr ⟨by omega, h2⟩
end Go.Proofs.YtanhkeeifnimgaaDoor

namespace Go.Proofs.YtanhkeeifnimgaaDoor
open Go Go.RowKit Go.Proofs

abbrev tok0 : Array Value := #[.int .i64 0, .string ⟨#[]⟩, .int .i64 0, .int .i64 0]
theorem numT_odd {s : ByteArray} (h : numOdd s = true) : numT s = (noTok, 3) := by unfold numT; rw [if_pos h]
theorem numT_big {s : ByteArray} (h : numOdd s = false) (h2 : numV (s.data.toList.take (numN s)) 0 = none) : numT s = (noTok, 2) := by unfold numT; rw [if_neg (by rw [h]; decide), h2]
theorem numT_ok {s : ByteArray} {v : Int} (h : numOdd s = false) (h2 : numV (s.data.toList.take (numN s)) 0 = some v) : numT s = (⟨3, s.extract 0 (numN s), v, 0⟩, 0) := by unfold numT; rw [if_neg (by rw [h]; decide), h2]

theorem ext_ext (s : ByteArray) {k i : Nat} (h : k + i ≤ s.size) : (s.extract k s.size).extract 0 i = s.extract k (k + i) := by
  rw [ByteArray.extract_extract]
  congr 1 <;> omega
set_option maxRecDepth 100000 in
set_option maxHeartbeats 4000000 in
theorem number_ref (s : ByteArray) (k : Nat) (w : World) (hk : k < s.size) (hs : s.size ≤ 9223372036854775806) :
    Calls Tryd.prog 62 #[.string s, .int .i64 k] w (TokAt k (numT (s.extract k s.size)) w) := by
  have hR := Blk.new w 33 tok0
  have hB : Below w.heap.size w (w.alloc (.cells tok0 33)) := (Below.refl _ _).alloc (Nat.le_refl _) _
  have hkI : (k : Int) < (s.size : Int) := by omega
  go_enter Tryd.func62, Tryd.ntmps62
  go_wp2_with fail
  go_loopw [6] (fun v wr => ∃ n : Nat, k ≤ n ∧ n ≤ s.size ∧ v = .int .i64 n ∧ wr = w.alloc (.cells tok0 33) ∧ Hid (∀ j (hj : j < s.size), k ≤ j → j < n → digC s[j] = true)) (fun v _ => s.size - (intOf v).toNat)
  case atStart => exact ⟨k, Nat.le_refl _, by omega, rfl, by simp, hide fun j hj h1 h2 => absurd h1 (by omega)⟩
  case round =>
    obtain ⟨n, hkn, hn, rfl, rfl, hall⟩ := hrel
    by_cases hdg : ∃ hlt : n < s.size, digC s[n] = true
    · obtain ⟨hlt, hd⟩ := hdg
      have hltI : (n : Int) < (s.size : Int) := by omega
      have hD := fun X => digit_any (s[n].toNat : Int) X
      rw [show digitI (s[n].toNat : Int) = true from hd] at hD
      have HD := hide hD
      have HN := hide hd
      clear hd hD
      go_wp2_with (go_at_call 61; refine (HD.out _).mono ?_; rintro e w1 ⟨rfl, rfl⟩)
      go_roundw
      case rel => exact ⟨n + 1, by omega, by omega, by go_num, by simp, hide fun j hj a1 a2 => by
        rcases Nat.lt_or_ge j n with a3 | a3
        · exact hall.out j hj a1 a3
        · obtain rfl : j = n := by omega
          exact HN.out⟩
      case measure => simp [intOf]; omega
    · have hrun := run_len digC s hkn hn hall.out fun hj => by
        cases h : digC s[n]
        · rfl
        · exact absurd ⟨hj, h⟩ hdg
      obtain ⟨nd, rfl⟩ : ∃ nd, n = k + nd := ⟨n - k, by omega⟩
      have hnd : numN (s.extract k s.size) = nd := by unfold numN; rw [drop_ext]; omega
      have hodd : numOdd (s.extract k s.size) = ((decide (1 < nd) && decide (s[k] = 48)) || decide (0 < ((s.data.toList.drop (k + nd)).takeWhile nmC).length)) := by
        unfold numOdd
        rw [hnd, drop_ext, List.drop_drop]
        have hh : (s.data.toList.drop k).head? = some s[k] := by rw [drop_cons s hk]; rfl
        rw [hh, nm_low (l := s.data.toList.drop (k + nd)) fun c hc => ?_]
        · simp
        · by_cases hlt : k + nd < s.size
          · rw [drop_cons s hlt] at hc
            obtain rfl : s[k + nd] = c := by simpa using hc
            cases h : digC s[k + nd]
            · rfl
            · exact absurd ⟨hlt, h⟩ hdg
          · rw [List.drop_of_length_le (by simp; omega)] at hc
            simp at hc
      have hex : (¬ (k + nd < s.size)) ∨ ∃ hlt : k + nd < s.size, digitI (s[k + nd].toNat : Int) = false := by
        by_cases hlt : k + nd < s.size
        · refine .inr ⟨hlt, ?_⟩
          cases h : digitI (s[k + nd].toNat : Int)
          · rfl
          · exact absurd ⟨hlt, h⟩ hdg
        · exact .inl hlt
      generalize hwl : ((s.data.toList.drop (k + nd)).takeWhile nmC).length = wl at hodd
      have HWD := fun X => word_ref s (k + nd) (k + nd + wl) (hide (by rw [hwl])) X hn hs
      have HWD := hide HWD
      have w1 : IntKind.i64.wrap ((k : Int) + (nd : Int) - (k : Int)) = (nd : Int) := by rw [show (k : Int) + (nd : Int) - (k : Int) = (nd : Int) by omega]; exact IntWalk.i64_in _ (by omega)
      have HRUN := hide hrun
      have HALL := hall
      clear hdg hrun hwl hall
      have hb48 : ((s[k].toNat : Int) == 48) = decide (s[k] = 48) := byte_eqI s[k] 48
      by_cases hA : 1 < nd ∧ s[k] = 48
      · have HT := hide (numT_odd (s := s.extract k s.size) (by rw [hodd, decide_eq_true hA.1, decide_eq_true hA.2]; rfl))
        have c1 : (1 : Int) < (nd : Int) := by omega
        rw [decide_eq_true hA.2] at hb48
        clear hodd hA hnd
        rcases hex with hlt | ⟨hlt, hdi⟩
        · have hltI : ¬ ((k : Int) + (nd : Int)) < (s.size : Int) := by omega
          go_wp2_with (go_at_call 64; refine (HWD.out _).mono ?_; rintro e w3 ⟨rfl, rfl⟩)
          refine bodyPost_ret (v := .tuple #[.agg tok0, .int .i64 3]) (by simp [results, Tryd.results62, go_sem, *]) rfl ?_
          rw [HT.out]
          exact ⟨by rfl, by repeat (first | (with_reducible exact hB) | (with_reducible refine Below.setCell ?_ (by simp) _))⟩
        · have hltI : ((k : Int) + (nd : Int)) < (s.size : Int) := by omega
          have hDF := fun X => digit_any (s[k + nd].toNat : Int) X
          rw [hdi] at hDF
          have HDF := hide hDF
          clear hDF hdi
          go_wp2_with (first | (go_at_call 61; refine (HDF.out _).mono ?_; rintro e w2 ⟨rfl, rfl⟩) | (go_at_call 64; refine (HWD.out _).mono ?_; rintro e w3 ⟨rfl, rfl⟩))
          refine bodyPost_ret (v := .tuple #[.agg tok0, .int .i64 3]) (by simp [results, Tryd.results62, go_sem, *]) rfl ?_
          rw [HT.out]
          exact ⟨by rfl, by repeat (first | (with_reducible exact hB) | (with_reducible refine Below.setCell ?_ (by simp) _))⟩
      · have hA2 : (decide (1 < nd) && decide (s[k] = 48)) = false := by
          rw [Bool.and_eq_false_iff]
          by_cases h : 1 < nd
          · exact .inr (decide_eq_false fun h2 => hA ⟨h, h2⟩)
          · exact .inl (decide_eq_false h)
        rw [hA2, Bool.false_or] at hodd
        have hcase : (¬ 1 < nd) ∨ (1 < nd ∧ ((s[k].toNat : Int) == 48) = false) := by
          by_cases h : 1 < nd
          · refine .inr ⟨h, ?_⟩
            rw [hb48]
            exact decide_eq_false fun h2 => hA ⟨h, h2⟩
          · exact .inl h
        clear hA hA2 hb48
        by_cases hw : 0 < wl
        · have HT := hide (numT_odd (s := s.extract k s.size) (by rw [hodd, decide_eq_true hw]))
          have c3 : (0 : Int) < (wl : Int) := by omega
          clear hodd hnd
          rcases hcase with c1 | ⟨c1, c2⟩
          · have c1I : ¬ (1 : Int) < (nd : Int) := by omega
            rcases hex with hlt | ⟨hlt, hdi⟩
            · have hltI : ¬ ((k : Int) + (nd : Int)) < (s.size : Int) := by omega
              go_wp2_with (go_at_call 64; refine (HWD.out _).mono ?_; rintro e w3 ⟨rfl, rfl⟩)
              refine bodyPost_ret (v := .tuple #[.agg tok0, .int .i64 3]) (by simp [results, Tryd.results62, go_sem, *]) rfl ?_
              rw [HT.out]
              exact ⟨by rfl, by repeat (first | (with_reducible exact hB) | (with_reducible refine Below.setCell ?_ (by simp) _))⟩
            · have hltI : ((k : Int) + (nd : Int)) < (s.size : Int) := by omega
              have hDF := fun X => digit_any (s[k + nd].toNat : Int) X
              rw [hdi] at hDF
              have HDF := hide hDF
              clear hDF hdi
              go_wp2_with (first | (go_at_call 61; refine (HDF.out _).mono ?_; rintro e w2 ⟨rfl, rfl⟩) | (go_at_call 64; refine (HWD.out _).mono ?_; rintro e w3 ⟨rfl, rfl⟩))
              refine bodyPost_ret (v := .tuple #[.agg tok0, .int .i64 3]) (by simp [results, Tryd.results62, go_sem, *]) rfl ?_
              rw [HT.out]
              exact ⟨by rfl, by repeat (first | (with_reducible exact hB) | (with_reducible refine Below.setCell ?_ (by simp) _))⟩
          · have c1I : (1 : Int) < (nd : Int) := by omega
            rcases hex with hlt | ⟨hlt, hdi⟩
            · have hltI : ¬ ((k : Int) + (nd : Int)) < (s.size : Int) := by omega
              go_wp2_with (go_at_call 64; refine (HWD.out _).mono ?_; rintro e w3 ⟨rfl, rfl⟩)
              refine bodyPost_ret (v := .tuple #[.agg tok0, .int .i64 3]) (by simp [results, Tryd.results62, go_sem, *]) rfl ?_
              rw [HT.out]
              exact ⟨by rfl, by repeat (first | (with_reducible exact hB) | (with_reducible refine Below.setCell ?_ (by simp) _))⟩
            · have hltI : ((k : Int) + (nd : Int)) < (s.size : Int) := by omega
              have hDF := fun X => digit_any (s[k + nd].toNat : Int) X
              rw [hdi] at hDF
              have HDF := hide hDF
              clear hDF hdi
              go_wp2_with (first | (go_at_call 61; refine (HDF.out _).mono ?_; rintro e w2 ⟨rfl, rfl⟩) | (go_at_call 64; refine (HWD.out _).mono ?_; rintro e w3 ⟨rfl, rfl⟩))
              refine bodyPost_ret (v := .tuple #[.agg tok0, .int .i64 3]) (by simp [results, Tryd.results62, go_sem, *]) rfl ?_
              rw [HT.out]
              exact ⟨by rfl, by repeat (first | (with_reducible exact hB) | (with_reducible refine Below.setCell ?_ (by simp) _))⟩
        · have hodd2 : numOdd (s.extract k s.size) = false := by rw [hodd, decide_eq_false hw]
          have hw0 : wl = 0 := by omega
          subst hw0
          have hDF : ∀ (X : World), k + nd < s.size → ∀ hlt : k + nd < s.size, Calls Tryd.prog 61 #[.int .u8 s[k + nd].toNat] X fun e w' => e = .returned (.bool false) ∧ X = w' := fun X _ hlt => by
            have h := digit_any (s[k + nd].toNat : Int) X
            rcases hex with h2 | ⟨_, h2⟩
            · exact absurd hlt h2
            · rwa [h2] at h
          have HDF := hide hDF
          have hex2 : (¬ k + nd < s.size) ∨ k + nd < s.size := by omega
          have hlen : ((s.data.toList.drop k).take nd).length = nd := by simp; omega
          have HLEN := hide hlen
          have HODD := hide hodd2
          have HND := hide hnd
          clear hex hDF hodd hodd2 hnd hlen hw
          rcases hcase with c1 | ⟨c1, c2⟩ <;> rcases hex2 with hlt | hlt
          all_goals
            first
              | (have hltI : ¬ ((k : Int) + (nd : Int)) < (s.size : Int) := by omega)
              | (have hltI : ((k : Int) + (nd : Int)) < (s.size : Int) := by omega)
            first
              | (have c1I : ¬ (1 : Int) < (nd : Int) := by omega)
              | (have c1I : (1 : Int) < (nd : Int) := by omega)
            go_wp2_with (first | (go_at_call 61; refine (HDF.out _ hlt hlt).mono ?_; rintro e w2 ⟨rfl, rfl⟩) | (go_at_call 64; refine (HWD.out _).mono ?_; rintro e w3 ⟨rfl, rfl⟩))
            go_loopw [7, 8] (fun va vi wr => ∃ (i : Nat) (a : Int), vi = .int .i64 ((k + i : Nat) : Int) ∧ va = .int .i64 a ∧ i ≤ nd ∧ wr = w.alloc (.cells tok0 33) ∧ Hid (Sat ((s.data.toList.drop k).take nd) i a)) (fun _ vi _ => k + nd - (intOf vi).toNat)
            case atStart => exact ⟨0, 0, by simp, rfl, Nat.zero_le _, by simp, hide (.inl ⟨Int.le_refl _, by decide, rfl⟩)⟩
            case round =>
              obtain ⟨i, a, rfl, rfl, hi, rfl, hsat⟩ := hrel
              by_cases hin : i < nd
              · have hki : k + i < s.size := by omega
                have hc := HALL.out (k + i) hki (by omega) (by omega)
                have hc2 : 48 ≤ (s[k + i].toNat : Int) ∧ (s[k + i].toNat : Int) ≤ 57 := by simpa [digC, digitI] using hc
                have hge : ((s.data.toList.drop k).take nd)[i]'(by rw [HLEN.out]; exact hin) = s[k + i] := by rw [List.getElem_take, List.getElem_drop]; rfl
                have hst := Sat.step hsat.out (by rw [HLEN.out]; exact hin) (by rw [hge]; exact hc2)
                rw [hge] at hst
                have ha : 0 ≤ a ∧ a ≤ 1048577 := by rcases hsat.out with ⟨h0, h1, _⟩ | ⟨h1, _⟩ <;> omega
                have HST := hide hst
                have m1 : IntKind.i64.wrap (10 * a) = 10 * a := IntWalk.i64_in _ (by omega)
                generalize hcc : (s[k + i].toNat : Int) = cc at *
                have m3 : IntKind.i64.wrap (10 * a + (cc - 48)) = 10 * a + (cc - 48) := IntWalk.i64_in _ (by omega)
                clear hst hge hc hsat
                go_wp2_with fail
                exact ⟨⟨i + 1, _, by go_num, rfl, by omega, trivial, HST⟩, by simp [intOf]; omega⟩
              · obtain rfl : i = nd := by omega
                have hdn : ((s.data.toList.drop k).take i).drop i = [] := List.drop_of_length_le (by rw [HLEN.out]; exact Nat.le_refl _)
                have hsub : (s.extract k s.size).data.toList.take (numN (s.extract k s.size)) = (s.data.toList.drop k).take i := by rw [drop_ext, HND.out]
                have hext : (s.extract k s.size).extract 0 i = s.extract k (k + i) := ext_ext s (by omega)
                rcases hsat.out with ⟨h0, h1, h2⟩ | ⟨h1, h2⟩
                · rw [hdn] at h2
                  have hT := numT_ok HODD.out (by rw [hsub]; exact h2)
                  rw [HND.out, hext] at hT
                  have HT := hide hT
                  have haI : ¬ (1048576 : Int) < a := by omega
                  clear hT h2 hdn hsub hext hsat
                  go_wp2_with fail
                  refine bodyPost_ret (v := .tuple #[.agg #[.int .i64 3, .string (s.extract k (k + i)), .int .i64 a, .int .i64 k], .int .i64 0]) (by simp [results, Tryd.results62, go_sem, *]) rfl ?_
                  rw [HT.out]
                  exact ⟨by rfl, (Below.refl _ _).alloc (Nat.le_refl _) _⟩
                · have HT := hide (numT_big HODD.out (by rw [hsub]; exact h2))
                  have haI : (1048576 : Int) < a := by omega
                  clear h2 hdn hsub hext hsat h1
                  go_wp2_with fail
                  refine bodyPost_ret (v := .tuple #[.agg tok0, .int .i64 2]) (by simp [results, Tryd.results62, go_sem, *]) rfl ?_
                  rw [HT.out]
                  exact ⟨by rfl, by repeat (first | (with_reducible exact hB) | (with_reducible refine Below.setCell ?_ (by simp) _))⟩
end Go.Proofs.YtanhkeeifnimgaaDoor
