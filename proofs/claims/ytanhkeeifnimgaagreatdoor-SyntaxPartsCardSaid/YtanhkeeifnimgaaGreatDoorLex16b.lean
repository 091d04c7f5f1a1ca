/- The walks of package lexer's among, from, anyOf (as calls) and skip. Conditions: lengths that fit memory. -/
import Derived.Test.YtanhkeeifnimgaaGreatDoorLex16a
import Derived.Test.YtanhkeeifnimgaaGreatDoorLex16s
namespace Go.Proofs.YtanhkeeifnimgaaGreatDoor
open Go Go.RowKit Go.Proofs

set_option maxHeartbeats 400000 in
theorem among_any (str : ByteArray) (w : World) : Calls Tryz.prog 53 #[.string str] w fun e w' => (∃ v, e = .returned v ∧ Cls w' v (fun c => str.data.toList.contains c)) ∧ Below w.heap.size w w' := by
  have HC := hide (amongC str w.heap.size (w.alloc (.cells #[.string str] 9)) (by simp) (cell?_new _ _ _ _))
  go_enter Tryz.func53, Tryz.ntmps53
  go_wp2_with fail
  go_ret
  exact ⟨⟨_, rfl, HC.out⟩, (Below.refl _ _).alloc (Nat.le_refl _) _⟩
set_option maxHeartbeats 400000 in
theorem from_any (lo hi : Int) (w : World) : Calls Tryz.prog 55 #[.int .u8 lo, .int .u8 hi] w fun e w' => (∃ v, e = .returned v ∧ Cls w' v (inB lo hi)) ∧ Below w.heap.size w w' := by
  have h1 : ((w.alloc (.cells #[.int .u8 lo] 5)).alloc (.cells #[.int .u8 hi] 5)).cell? ⟨w.heap.size, 0, none⟩ = some (.int .u8 lo) := (World.cell?_alloc_lt _ _ _ (by simp)).trans (cell?_new _ _ _ _)
  have h2 : ((w.alloc (.cells #[.int .u8 lo] 5)).alloc (.cells #[.int .u8 hi] 5)).cell? ⟨w.heap.size + 1, 0, none⟩ = some (.int .u8 hi) := by
    have := cell?_new (w.alloc (.cells #[.int .u8 lo] 5)) #[.int .u8 hi] 5 0
    simp at this ⊢
  have HC := hide (fromC lo hi w.heap.size (w.heap.size + 1) _ (by simp; omega) h1 (by simp) h2)
  clear h1 h2
  go_enter Tryz.func55, Tryz.ntmps55
  go_wp2_with fail
  go_ret
  exact ⟨⟨_, rfl, HC.out⟩, ((Below.refl _ _).alloc (Nat.le_refl _) _).alloc (by simp) _⟩
set_option maxHeartbeats 400000 in
theorem anyOf_any (A : Option Addr) (c : Nat) (vs : List Value) (ps : List (UInt8 → Bool)) (w : World) (hl : vs.length ≤ 9223372036854775807) (h : ClsL w A vs ps) :
    Calls Tryz.prog 97 #[.slice A vs.length c] w fun e w' => (∃ v, e = .returned v ∧ Cls w' v (fun x => ps.any (atB x))) ∧ Below w.heap.size w w' := by
  have hB : Below w.heap.size w (w.alloc (.cells #[.slice A vs.length c] 116)) := (Below.refl _ _).alloc (Nat.le_refl _) _
  have HC := hide (anyOfC w.heap.size A c vs ps _ hl (h.below hB) (by simp) (cell?_new _ _ _ _))
  clear hB
  go_enter Tryz.func97, Tryz.ntmps97
  go_wp2_with fail
  go_ret
  exact ⟨⟨_, rfl, HC.out⟩, (Below.refl _ _).alloc (Nat.le_refl _) _⟩
set_option maxHeartbeats 400000 in
theorem notNlC (w : World) : Cls w (.func (.func 54) #[] #[]) noNl := by
  refine ⟨_, _, rfl, fun args W => by kernel_rfl, fun c W hW => ?_⟩
  cases h : noNl c
  · have h' : ((c.toNat : Int) != 10) = false := by
      simp [noNl] at h; subst h; rfl
    have h3 : ((c.toNat : Int) == 10) = true := by
      simp [noNl] at h; subst h; rfl
    clear h
    go_enter Tryz.func54, Tryz.ntmps54
    go_wp2_with fail
    go_ret
    exact ⟨rfl, Below.refl _ _⟩
  · have h' : ((c.toNat : Int) != 10) = true := by
      simp [noNl] at h
      simp only [bne_iff_ne, ne_eq]
      intro e
      exact h (UInt8.toNat_inj.1 (by simpa using (Int.ofNat.inj e)))
    have h3 : ((c.toNat : Int) == 10) = false := by simpa [bne] using h'
    clear h
    go_enter Tryz.func54, Tryz.ntmps54
    go_wp2_with fail
    go_ret
    exact ⟨rfl, Below.refl _ _⟩

set_option maxRecDepth 100000 in
set_option maxHeartbeats 2000000 in
theorem skip_any (s : ByteArray) (w : World) (hs : s.size ≤ 9223372036854775807) :
    Calls Tryz.prog 27 #[.string s] w fun e w' => e = .returned (.int .i64 (skipN s.data.toList)) ∧ Below w.heap.size w w' := by
  go_enter Tryz.func27, Tryz.ntmps27
  go_wp2_with fail
  go_loopw [3] (fun i wr => ∃ n : Nat, n ≤ s.size ∧ i = .int .i64 n ∧ Below w.heap.size w wr ∧ Hid (skipL s.data.toList = skipL (s.data.toList.drop n))) (fun i _ => s.size - (intOf i).toNat)
  case atStart => exact ⟨0, Nat.zero_le _, rfl, Below.refl _ _, rfl⟩
  case round =>
    obtain ⟨n, hn, rfl, hbr, hk⟩ := hrel
    have e1 : (s.extract n s.size).data.toList = s.data.toList.drop n := Lib.extract_to_end s n
    have hsz1 : (s.extract n s.size).size ≤ 9223372036854775807 := by rw [ByteArray.size_extract]; omega
    have HR := fun (X : World) (v : Value) (h : Cls X v spB) => run_any (s.extract n s.size) v spB X hsz1 h
    rw [e1] at HR
    have hm1 : (List.takeWhile spB (s.data.toList.drop n)).length ≤ s.size - n := by
      have := (List.takeWhile_prefix (l := s.data.toList.drop n) spB).length_le
      simpa using this
    have hk1 : skipL s.data.toList = skipL (s.data.toList.drop (n + (List.takeWhile spB (s.data.toList.drop n)).length)) := hk.out.trans ((skip_sp _).trans (by rw [dropWhile_drop, List.drop_drop]))
    clear hk e1
    generalize hmm : (List.takeWhile spB (s.data.toList.drop n)).length = m at *
    have hdw : (s.data.toList.drop n).dropWhile spB = s.data.toList.drop (n + m) := by rw [dropWhile_drop, List.drop_drop, hmm]
    clear hmm
    have HR := hide HR
    have w1 : IntKind.i64.wrap ((n : Int) + (m : Int)) = (n : Int) + (m : Int) := IntWalk.i64_in _ (by omega)
    by_cases hend : n + m = s.size
    · have HF := hide (show skipN s.data.toList = s.size by
        unfold skipN
        rw [hk1, hend, List.drop_of_length_le (by simp)]
        simp [skipL, skipM])
      have hE := hide hend
      have t1 : (((n : Int) + (m : Int)) == (s.size : Int)) = true := by simp; omega
      clear hk1 hdw hend
      go_wp2_with fail
      go_region_with ((first | (go_at_call 53; refine (among_any _ _).mono ?_; rintro e x1 ⟨⟨v, rfl, hv⟩, hb1⟩) | (go_at_call 52; refine (HR.out _ v hv).mono ?_; rintro e x2 ⟨rfl, hb2⟩)))
      go_wp2_with fail
      go_ret
      have hB : Below w.heap.size w x2 := (hbr.drew.trans (hb1.mono hbr.size)).trans (hb2.mono (Nat.le_trans hbr.size hb1.size))
      exact ⟨ret_congr (by rw [HF.out, ← hE.out]; rfl), hB⟩
    have hlt : n + m < s.size := by omega
    have hltI : (n : Int) + (m : Int) < (s.size : Int) := by omega
    have t1 : (((n : Int) + (m : Int)) == (s.size : Int)) = false := by simp; omega
    have t2 : ((n : Int) + (m : Int)).toNat = n + m := by omega
    have hcons : s.data.toList.drop (n + m) = s[n + m] :: s.data.toList.drop (n + m + 1) := by
      rw [List.drop_eq_getElem_cons (by simpa using hlt)]; rfl
    have hnsp : spB s[n + m] = false := dropWhile_head (hdw.trans hcons)
    clear hend
    by_cases hc : s[n + m] = 35
    · have e1 : (s.extract (n + m) s.size).data.toList = s.data.toList.drop (n + m) := Lib.extract_to_end s (n + m)
      have hsz2 : (s.extract (n + m) s.size).size ≤ 9223372036854775807 := by rw [ByteArray.size_extract]; omega
      have HR2 := fun (X : World) => run_any (s.extract (n + m) s.size) _ noNl X hsz2 (notNlC X)
      rw [e1] at HR2
      have hm2 : (List.takeWhile noNl (s.data.toList.drop (n + m))).length ≤ s.size - (n + m) := by
        have := (List.takeWhile_prefix (l := s.data.toList.drop (n + m)) noNl).length_le
        simpa using this
      have hk2 : skipL s.data.toList = skipL (s.data.toList.drop (n + m + (List.takeWhile noNl (s.data.toList.drop (n + m))).length)) := by
        rw [hk1, hcons, skip_hash hc, ← hcons, dropWhile_drop, List.drop_drop]
      have hpos : 1 ≤ (List.takeWhile noNl (s.data.toList.drop (n + m))).length := by
        rw [hcons, List.takeWhile_cons, if_pos (by rw [hc]; decide)]; simp
      clear e1
      generalize (List.takeWhile noNl (s.data.toList.drop (n + m))).length = m2 at *
      have HR2 := hide HR2
      have w2 : IntKind.i64.wrap ((n : Int) + (m : Int) + (m2 : Int)) = (n : Int) + (m : Int) + (m2 : Int) := IntWalk.i64_in _ (by omega)
      have HK2 := hide hk2
      have hcI : ((s[n + m].toNat : Int) != 35) = false := by rw [hc]; rfl
      have hcI2 : ((s[n + m].toNat : Int) == 35) = true := by rw [hc]; rfl
      clear hk1 hk2 hdw hcons hnsp hc
      go_wp2_with fail
      go_region_with ((first | (go_at_call 53; refine (among_any _ _).mono ?_; rintro e x1 ⟨⟨v, rfl, hv⟩, hb1⟩) | (go_at_call 52; refine (HR.out _ v hv).mono ?_; rintro e x2 ⟨rfl, hb2⟩)))
      go_wp2_with (go_at_call 52; refine (HR2.out _).mono ?_; rintro e x3 ⟨rfl, hb3⟩)
      have hB : Below w.heap.size w x2 := (hbr.drew.trans (hb1.mono hbr.size)).trans (hb2.mono (Nat.le_trans hbr.size hb1.size))
      go_roundw
      case rel => exact ⟨n + m + m2, by omega, by go_num, hB.trans (hb3.mono hB.size), HK2⟩
      case measure => simp [intOf]; omega
    · have HF := hide (show skipN s.data.toList = n + m by
        unfold skipN
        rw [hk1, hcons, skip_stop hnsp hc, ← hcons]
        simp; omega)
      have hcI : ((s[n + m].toNat : Int) != 35) = true := by
        simp only [bne_iff_ne, ne_eq]
        intro e
        exact hc (UInt8.toNat_inj.1 (by simpa using (Int.ofNat.inj e)))
      have hcI2 : ((s[n + m].toNat : Int) == 35) = false := by simpa [bne] using hcI
      clear hk1 hdw hcons hnsp hc
      go_wp2_with fail
      go_region_with ((first | (go_at_call 53; refine (among_any _ _).mono ?_; rintro e x1 ⟨⟨v, rfl, hv⟩, hb1⟩) | (go_at_call 52; refine (HR.out _ v hv).mono ?_; rintro e x2 ⟨rfl, hb2⟩)))
      go_wp2_with fail
      have hB : Below w.heap.size w x2 := (hbr.drew.trans (hb1.mono hbr.size)).trans (hb2.mono (Nat.le_trans hbr.size hb1.size))
      go_ret
      exact ⟨ret_congr (by rw [HF.out]; go_num), hB⟩
end Go.Proofs.YtanhkeeifnimgaaGreatDoor
