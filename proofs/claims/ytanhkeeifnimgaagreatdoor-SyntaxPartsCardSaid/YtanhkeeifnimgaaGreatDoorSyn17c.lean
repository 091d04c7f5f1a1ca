/- The walk of catalog.IsName: it answers as isName. Conditions: lengths that fit memory; the table strings.asciiSpace is laid. -/
import Derived.Test.YtanhkeeifnimgaaGreatDoorSyn17b
namespace Go.Proofs.YtanhkeeifnimgaaGreatDoor
open Go Go.RowKit Go.Proofs

theorem containsS_eq (l : List ByteArray) (x : ByteArray) : Lib.containsS l x = hasS l x := by
  rw [Bool.eq_iff_iff, hasS_iff, Lib.containsS_iff]
theorem contains_strs (A : Option Addr) (c : Nat) (l : List ByteArray) (s : ByteArray) (w : World) (hl : l.length ≤ 9223372036854775807) (h : Strs w w.heap.size A l) :
    Calls Tryz.prog 90 #[.slice A l.length c, .string s] w fun e w' => e = .returned (.bool (hasS l s)) ∧ w = w' := by
  by_cases hn : l = []
  · subst hn
    exact (Tryz.slices_Contains_string_empty A c s w).mono fun e w' ⟨he, hw⟩ => ⟨by rw [he]; rfl, hw.symm⟩
  · obtain ⟨b, off, rfl, hb, hc⟩ := h.form hn
    refine (Tryz.slices_Contains_string b off l.length c l s w (Nat.le_refl _) hl hc).mono fun e w' ⟨he, hw⟩ => ⟨?_, hw.symm⟩
    rw [he, containsS_eq, List.take_length]

/-- IndexFunc for 'a byte that no name has' -/
theorem idxFrom_name (s : ByteArray) : ∀ (f pos : Nat), s.size ≤ pos + f → (0 ≤ Lib.idxFuncFrom (fun x => oddI x) true s f pos ↔ ∃ j, ∃ h : j < s.size, pos ≤ j ∧ nameI s[j].toNat = false)
  | 0, pos, hf => by
    simp only [Lib.idxFuncFrom]
    constructor
    · intro h; omega
    · rintro ⟨j, h, hj, _⟩; omega
  | f + 1, pos, hf => by
    unfold Lib.idxFuncFrom
    by_cases hp : pos < s.size
    · rw [if_pos hp]
      rcases Nat.lt_or_ge (s[pos].toNat) 128 with ha | ha
      · rw [decode_ascii s pos hp ha]
        cases hn : nameI s[pos].toNat
        · rw [if_pos (by simp [oddI, hn])]
          exact ⟨fun _ => ⟨pos, hp, Nat.le_refl _, hn⟩, fun _ => by omega⟩
        · rw [if_neg (by simp [oddI, hn]), idxFrom_name s f (pos + 1) (by omega)]
          constructor
          · rintro ⟨j, h, hj, hx⟩; exact ⟨j, h, by omega, hx⟩
          · rintro ⟨j, h, hj, hx⟩
            refine ⟨j, h, ?_, hx⟩
            rcases Nat.lt_or_ge pos j with h1 | h1
            · omega
            · obtain rfl : j = pos := by omega
              rw [hn] at hx; cases hx
      · obtain ⟨h1, h2⟩ := decode_high s pos hp ha
        have hod : ∀ n : Nat, 128 ≤ n → oddI n = true := by
          intro n hn
          simp [oddI, nameI, letterI, digitI]; omega
        rw [if_pos (hod _ h1)]
        refine ⟨fun _ => ⟨pos, hp, Nat.le_refl _, ?_⟩, fun _ => by omega⟩
        have := hod _ ha
        simpa [oddI] using this
    · rw [if_neg hp]
      constructor
      · intro h; omega
      · rintro ⟨j, h, hj, _⟩; omega
theorem idx_name (s : ByteArray) : decide (0 ≤ Lib.idxFunc (fun x => oddI x) true s) = !s.data.toList.all (fun c => nameI c.toNat) := by
  rw [Lib.idxFunc, Bool.eq_iff_iff, decide_eq_true_eq, idxFrom_name s s.size 0 (by omega)]
  rw [Bool.not_eq_true', Bool.eq_false_iff, Ne, all_iff s (fun c => nameI c.toNat)]
  constructor
  · rintro ⟨j, h, _, hx⟩ hall
    rw [hall j h] at hx; cases hx
  · intro hall
    refine Classical.byContradiction fun hne => hall fun j h => ?_
    cases hx : nameI s[j].toNat
    · exact absurd ⟨j, h, Nat.zero_le _, hx⟩ hne
    · rfl

set_option maxHeartbeats 1000000 in
theorem isName_prog (s : ByteArray) (w : World) (ha : Asc w) (hs : s.size ≤ 9223372036854775807) :
    Calls Tryz.prog 38 #[.string s] w fun e w' => e = .returned (.bool (isName s)) ∧ Below w.heap.size w w' := by
  by_cases h1 : s.size < 1
  · have HN := hide (isName_short h1)
    go_enter Tryz.func38, Tryz.ntmps38
    go_wp2
    go_ret
    exact ⟨ret_congr (by rw [HN.out]; rfl), Below.refl _ _⟩
  by_cases h2 : 31 < s.size
  · have HN := hide (isName_long h2)
    go_enter Tryz.func38, Tryz.ntmps38
    go_wp2
    go_ret
    exact ⟨ret_congr (by rw [HN.out]; rfl), Below.refl _ _⟩
  cases h3 : letterI s[0].toNat
  · have HN := hide (isName_first (by omega) h3)
    unfold letterI at h3
    by_cases h4 : (97 : Int) ≤ s[0].toNat
    · have h5 : ¬ ((s[0].toNat : Int) ≤ 122) := by intro h5; simp [h4, h5] at h3
      clear h3
      go_enter Tryz.func38, Tryz.ntmps38
      go_wp2
      go_ret
      exact ⟨ret_congr (by rw [HN.out]; rfl), Below.refl _ _⟩
    · clear h3
      go_enter Tryz.func38, Tryz.ntmps38
      go_wp2
      go_ret
      exact ⟨ret_congr (by rw [HN.out]; rfl), Below.refl _ _⟩
  have hN : isName s = ((s.data.toList.all (fun c => nameI c.toNat)) && !hasS keywords s) := by
    unfold isName
    rw [getD_zero s (by omega), h3]
    have e1 : 1 ≤ s.size := by omega
    have e2 : s.size ≤ 31 := by omega
    simp only [e1, e2, decide_true, Bool.true_and]
    rw [Bool.and_comm]
  have hI := idx_name s
  unfold letterI at h3
  simp only [Bool.and_eq_true, decide_eq_true_eq] at h3
  obtain ⟨h4, h5⟩ := h3
  have hpred : PredGrows Tryz.prog 88 #[] (fun x => oddI x) w := fun W x _ _ =>
    (odd_rune x W).mono fun e w' ⟨he, hw⟩ => ⟨he, hw ▸ Below.refl _ _⟩
  have hcf := Tryz.strings_ContainsFunc_grows 88 #[] (fun _ _ => by kernel_rfl) (fun x => oddI x) s w hpred
  rw [hI] at hcf
  have HC := hide hcf
  clear hcf hpred hI
  cases hall : s.data.toList.all (fun c => nameI c.toNat)
  · rw [hall] at hN HC
    have HN := hide (show isName s = false from hN)
    clear hN
    have HA := hide hall; clear hall
    go_enter Tryz.func38, Tryz.ntmps38
    go_wp2_with (first
      | (go_at_call 89; refine Calls.mono HC.out ?_; rintro e w1 ⟨rfl, hb1⟩))
    go_ret
    exact ⟨ret_congr (by rw [HN.out]; rfl), hb1⟩
  · rw [hall] at hN HC
    have HA := hide hall; clear hall
    cases hk : hasS keywords s
    all_goals
      rw [hk] at hN
      have HN := hide hN
      clear hN
      go_enter Tryz.func38, Tryz.ntmps38
      go_wp2_with (first
        | (go_at_call 89; refine Calls.mono HC.out ?_; rintro e w1 ⟨rfl, hb1⟩)
        | (go_at_call 91; refine (keywords_prog _ (Asc.below ha (Nat.le_refl _) hb1)).mono ?_; rintro e w2 ⟨rfl, hA, hb2⟩)
        | (go_at_call 90; refine (contains_strs _ _ keywords s _ (by decide) hA).mono ?_; rintro e w' ⟨rfl, rfl⟩))
      go_ret
      exact ⟨ret_congr (by rw [HN.out]; rfl), hb1.trans (hb2.mono hb1.size)⟩
end Go.Proofs.YtanhkeeifnimgaaGreatDoor
