/- The walks of exodusref16: token, Scan. Conditions: lengths that fit memory. The walk of exodusref16.Scan. Conditions: lengths that fit memory. -/
import Derived.Test.YtanhkeeifnimgaaDoorRef16n
import Derived.Test.YtanhkeeifnimgaaDoorLex16f

namespace Go.Proofs.YtanhkeeifnimgaaDoor
open Go Go.RowKit Go.Proofs

theorem tokT_at {s : ByteArray} {k : Nat} (hk : k < s.size) : tokT (s.extract k s.size) = if letC s[k] then wordT (s.extract k s.size) else if digC s[k] then numT (s.extract k s.size) else if s[k] = 59 ∨ s[k] = 44 then (⟨4, (s.extract k s.size).extract 0 1, 0, 0⟩, 0) else (noTok, 3) := by
  unfold tokT
  rw [drop_ext, drop_cons s hk]
theorem let_dig (c : UInt8) (h : digC c = true) : letC c = false := by
  unfold digC digitI at h
  unfold letC letterI
  simp only [Bool.and_eq_true, decide_eq_true_eq] at h
  simp only [Bool.and_eq_false_iff, decide_eq_false_iff_not]
  omega

set_option maxRecDepth 100000 in
set_option maxHeartbeats 4000000 in
theorem token_ref (s : ByteArray) (k : Nat) (w : World) (hk : k < s.size) (hs : s.size ≤ 9223372036854775806) :
    Calls Tryd.prog 33 #[.string s, .int .i64 k] w (TokAt k (tokT (s.extract k s.size)) w) := by
  have hB : Below w.heap.size w (w.alloc (.cells tok0 33)) := (Below.refl _ _).alloc (Nat.le_refl _) _
  have hkI : (k : Int) < (s.size : Int) := by omega
  have hT := tokT_at hk
  have hDF := fun X => digit_any (s[k].toNat : Int) X
  have hLF := fun X => letter_any (s[k].toNat : Int) X
  cases hd : digitI (s[k].toNat : Int)
  · cases hl : letterI (s[k].toNat : Int)
    · rw [if_neg (by rw [show letC s[k] = false from hl]; decide), if_neg (by rw [show digC s[k] = false from hd]; decide)] at hT
      rw [hd] at hDF
      rw [hl] at hLF
      have HDF := hide hDF
      have HLF := hide hLF
      have e1 : ((s[k].toNat : Int) == 59) = decide (s[k] = 59) := byte_eqI s[k] 59
      have e2 : ((s[k].toNat : Int) == 44) = decide (s[k] = 44) := byte_eqI s[k] 44
      clear hDF hLF hd hl
      have hext : (s.extract k s.size).extract 0 1 = s.extract k (k + 1) := ext_ext s (by omega)
      have w1 : IntKind.i64.wrap ((k : Int) + 1) = (k : Int) + 1 := IntWalk.i64_in _ (by omega)
      have hsym : (((s[k].toNat : Int) == 59) = true) ∨ (((s[k].toNat : Int) == 59) = false ∧ ((s[k].toNat : Int) == 44) = true) ∨ (((s[k].toNat : Int) == 59) = false ∧ ((s[k].toNat : Int) == 44) = false) := by
        cases h1 : ((s[k].toNat : Int) == 59)
        · cases h2 : ((s[k].toNat : Int) == 44)
          · exact .inr (.inr ⟨rfl, rfl⟩)
          · exact .inr (.inl ⟨rfl, rfl⟩)
        · exact .inl rfl
      rcases hsym with h1 | ⟨h1, h2⟩ | ⟨h1, h2⟩
      · have HT := hide (hT.trans (by rw [if_pos (.inl (of_decide_eq_true (e1.symm.trans h1))), hext]))
        clear hT e1 e2 hext
        go_enter Tryd.func33, Tryd.ntmps33
        go_wp2_with (first | (go_at_call 61; refine (HDF.out _).mono ?_; rintro e w2 ⟨rfl, rfl⟩) | (go_at_call 63; refine (HLF.out _).mono ?_; rintro e w3 ⟨rfl, rfl⟩))
        refine bodyPost_ret (v := .tuple #[.agg #[.int .i64 4, .string (s.extract k (k + 1)), .int .i64 0, .int .i64 k], .int .i64 0]) (by simp [results, Tryd.results33, go_sem, *]) rfl ?_
        rw [HT.out]
        exact ⟨by rfl, by repeat (first | (with_reducible exact hB) | (with_reducible exact Below.alloc (Below.refl _ _) (Nat.le_refl _) _) | (with_reducible refine Below.setCell ?_ (by simp) _))⟩
      · have HT := hide (hT.trans (by rw [if_pos (.inr (of_decide_eq_true (e2.symm.trans h2))), hext]))
        clear hT e1 e2 hext
        go_enter Tryd.func33, Tryd.ntmps33
        go_wp2_with (first | (go_at_call 61; refine (HDF.out _).mono ?_; rintro e w2 ⟨rfl, rfl⟩) | (go_at_call 63; refine (HLF.out _).mono ?_; rintro e w3 ⟨rfl, rfl⟩))
        refine bodyPost_ret (v := .tuple #[.agg #[.int .i64 4, .string (s.extract k (k + 1)), .int .i64 0, .int .i64 k], .int .i64 0]) (by simp [results, Tryd.results33, go_sem, *]) rfl ?_
        rw [HT.out]
        exact ⟨by rfl, by repeat (first | (with_reducible exact hB) | (with_reducible exact Below.alloc (Below.refl _ _) (Nat.le_refl _) _) | (with_reducible refine Below.setCell ?_ (by simp) _))⟩
      · have HT := hide (hT.trans (by rw [if_neg (by rintro (h | h); exact absurd h (of_decide_eq_false (e1.symm.trans h1)); exact absurd h (of_decide_eq_false (e2.symm.trans h2)))]))
        clear hT e1 e2 hext
        go_enter Tryd.func33, Tryd.ntmps33
        go_wp2_with (first | (go_at_call 61; refine (HDF.out _).mono ?_; rintro e w2 ⟨rfl, rfl⟩) | (go_at_call 63; refine (HLF.out _).mono ?_; rintro e w3 ⟨rfl, rfl⟩))
        refine bodyPost_ret (v := .tuple #[.agg tok0, .int .i64 3]) (by simp [results, Tryd.results33, go_sem, *]) rfl ?_
        rw [HT.out]
        exact ⟨by rfl, by repeat (first | (with_reducible exact hB) | (with_reducible exact Below.alloc (Below.refl _ _) (Nat.le_refl _) _) | (with_reducible refine Below.setCell ?_ (by simp) _))⟩
    · rw [if_pos (show letC s[k] = true from hl)] at hT
      rw [hd] at hDF
      rw [hl] at hLF
      have HDF := hide hDF
      have HLF := hide hLF
      have hn0 : k + ((s.data.toList.drop k).takeWhile nmC).length ≤ s.size := by
        have := (List.takeWhile_prefix (l := s.data.toList.drop k) nmC).length_le
        simp at this
        omega
      have hwn : wordN (s.extract k s.size) = ((s.data.toList.drop k).takeWhile nmC).length := by unfold wordN; rw [drop_ext]
      have hext : ∀ n, k + n ≤ s.size → (s.extract k s.size).extract 0 n = s.extract k (k + n) := fun n h => ext_ext s h
      have hw : wordT (s.extract k s.size) = if 31 < wordN (s.extract k s.size) then (noTok, 8) else (⟨if hasS keywords ((s.extract k s.size).extract 0 (wordN (s.extract k s.size))) then 2 else 1, (s.extract k s.size).extract 0 (wordN (s.extract k s.size)), 0, 0⟩, 0) := rfl
      rw [hwn] at hw
      have HWD := fun X => word_ref s k (k + ((s.data.toList.drop k).takeWhile nmC).length) (hide rfl) X (by omega) hs
      generalize ((s.data.toList.drop k).takeWhile nmC).length = n at hn0 hw HWD
      rw [hext n hn0] at hw
      have hT := hT.trans hw
      have hx2 : (s.extract k (k + n)).size = n := by rw [ByteArray.size_extract]; omega
      have HWD := hide HWD
      have hnI : (k : Int) + (n : Int) ≤ (s.size : Int) := by omega
      clear hDF hLF hd hl hw hext hwn
      have hxI : ((s.extract k (k + n)).size : Int) = (n : Int) := by rw [hx2]
      by_cases hbig : 31 < n
      · rw [if_pos hbig] at hT
        have HT := hide hT
        have hbI : (31 : Int) < (n : Int) := by omega
        clear hT
        go_enter Tryd.func33, Tryd.ntmps33
        go_wp2_with (first | (go_at_call 61; refine (HDF.out _).mono ?_; rintro e w2 ⟨rfl, rfl⟩) | (go_at_call 63; refine (HLF.out _).mono ?_; rintro e w3 ⟨rfl, rfl⟩) | (go_at_call 64; refine (HWD.out _).mono ?_; rintro e w4 ⟨rfl, rfl⟩))
        refine bodyPost_ret (v := .tuple #[.agg tok0, .int .i64 8]) (by simp [results, Tryd.results33, go_sem, *]) rfl ?_
        rw [HT.out]
        exact ⟨by rfl, by repeat (first | (with_reducible exact hB) | (with_reducible refine Below.alloc ?_ (by simp) _) | (with_reducible refine Below.setCell ?_ (by simp) _))⟩
      · rw [if_neg hbig] at hT
        have HT := hide hT
        have hbI : ¬ (31 : Int) < (n : Int) := by omega
        clear hT
        go_enter Tryd.func33, Tryd.ntmps33
        go_wp2_with (first | (go_at_call 61; refine (HDF.out _).mono ?_; rintro e w2 ⟨rfl, rfl⟩) | (go_at_call 63; refine (HLF.out _).mono ?_; rintro e w3 ⟨rfl, rfl⟩) | (go_at_call 64; refine (HWD.out _).mono ?_; rintro e w4 ⟨rfl, rfl⟩))
        obtain ⟨Wt, hWt⟩ : ∃ Wt, Wt = (w.alloc (.cells tok0 33)).alloc (.cells #[.int .i64 1, .string (s.extract k (k + n)), .int .i64 0, .int .i64 k] 33) := ⟨_, rfl⟩
        have hb0 : Blk Wt w.heap.size 33 tok0 := by rw [hWt]; exact Blk.alloc (Blk.new w _ _) _
        have hb1 : Blk Wt (w.heap.size + 1) 33 #[.int .i64 1, .string (s.extract k (k + n)), .int .i64 0, .int .i64 k] := by
          rw [hWt]
          have := Blk.new (w.alloc (.cells tok0 33)) 33 #[.int .i64 1, .string (s.extract k (k + n)), .int .i64 0, .int .i64 k]
          simpa using this
        have hBt : Below w.heap.size w Wt := by rw [hWt]; exact hB.alloc hB.size _
        rw [← hWt]
        have t1 := Blk.cell hb1 1
        have tz := Blk.lt hb1
        simp at t1
        have hd0 : Below Wt.heap.size Wt Wt.drew := (Below.refl _ _).drew
        clear hWt hB
        cases hq : hasS keywords (s.extract k (k + n))
        · have HQ := hide hq
          rw [hq] at HT
          clear hq
          go_region_held3 (fun W => W.cell? ⟨w.heap.size + 1, 1, none⟩ = some (.string (s.extract k (k + n))) ∧ w.heap.size + 1 < W.heap.size ∧ Below Wt.heap.size Wt W)
            ((refine ⟨?_, ?_, ?_⟩ <;> (first | (with_reducible assumption) | (with_reducible exact t1) | (with_reducible exact tz) | exact hd0 | assumption)))
            ((first
              | (go_at_call 66; have hH := (by assumption : _ ∧ _ ∧ Below _ _ _); obtain ⟨a0, a1, a2⟩ := hH; refine (keywords_any _).mono ?_; rintro e x ⟨A, rfl, hA, hx⟩; have c0 := (hx.cell (p := ⟨w.heap.size + 1, 1, none⟩) a1).trans a0; have c1 := Nat.lt_of_lt_of_le a1 hx.size; have c2 := a2.trans (hx.mono a2.size); clear a0 a1 a2 hx)
              | (go_at_call 65; refine (has_any A _ keywords (s.extract k (k + n)) _ (by decide) hA).mono ?_; rw [HQ.out]; rintro e x2 ⟨rfl, rfl⟩)))
          obtain ⟨_, _, hbx⟩ := (by assumption : _ ∧ _ ∧ Below Wt.heap.size Wt _)
          have g0 := Blk.below hb0 hbx (Blk.lt hb0)
          have g1 := Blk.below hb1 hbx tz
          have r0 := g0.cell 0
          have r1 := g0.cell 1
          have r2 := g0.cell 2
          have r3 := g0.cell 3
          have f0 := g0.frozen 0
          have f1 := g0.frozen 1
          have f2 := g0.frozen 2
          have f3 := g0.frozen 3
          have rz := Blk.lt g0
          have s0 := g1.cell 0
          have s1 := g1.cell 1
          have s2 := g1.cell 2
          have s3 := g1.cell 3
          have z0 := g1.frozen 0
          have sz := Blk.lt g1
          simp at r0 r1 r2 r3 s0 s1 s2 s3
          have hBx := hide (hBt.trans (hbx.mono hBt.size))
          clear g0 g1 hb0 hb1 hbx hBt hd0 t1 tz
          go_wp2_with fail
          refine bodyPost_ret (v := .tuple #[.agg #[.int .i64 1, .string (s.extract k (k + n)), .int .i64 0, .int .i64 k], .int .i64 0]) (by simp [results, Tryd.results33, go_sem, *]) rfl ?_
          rw [HT.out]
          exact ⟨by rfl, by repeat (first | (with_reducible exact hBx.out) | (with_reducible refine Below.setCell ?_ (by simp) _))⟩
        · have HQ := hide hq
          rw [hq] at HT
          clear hq
          go_region_held3 (fun W => W.cell? ⟨w.heap.size + 1, 1, none⟩ = some (.string (s.extract k (k + n))) ∧ w.heap.size + 1 < W.heap.size ∧ Below Wt.heap.size Wt W)
            ((refine ⟨?_, ?_, ?_⟩ <;> (first | (with_reducible assumption) | (with_reducible exact t1) | (with_reducible exact tz) | exact hd0 | assumption)))
            ((first
              | (go_at_call 66; have hH := (by assumption : _ ∧ _ ∧ Below _ _ _); obtain ⟨a0, a1, a2⟩ := hH; refine (keywords_any _).mono ?_; rintro e x ⟨A, rfl, hA, hx⟩; have c0 := (hx.cell (p := ⟨w.heap.size + 1, 1, none⟩) a1).trans a0; have c1 := Nat.lt_of_lt_of_le a1 hx.size; have c2 := a2.trans (hx.mono a2.size); clear a0 a1 a2 hx)
              | (go_at_call 65; refine (has_any A _ keywords (s.extract k (k + n)) _ (by decide) hA).mono ?_; rw [HQ.out]; rintro e x2 ⟨rfl, rfl⟩)))
          obtain ⟨_, _, hbx⟩ := (by assumption : _ ∧ _ ∧ Below Wt.heap.size Wt _)
          have g0 := Blk.below hb0 hbx (Blk.lt hb0)
          have g1 := Blk.below hb1 hbx tz
          have r0 := g0.cell 0
          have r1 := g0.cell 1
          have r2 := g0.cell 2
          have r3 := g0.cell 3
          have f0 := g0.frozen 0
          have f1 := g0.frozen 1
          have f2 := g0.frozen 2
          have f3 := g0.frozen 3
          have rz := Blk.lt g0
          have s0 := g1.cell 0
          have s1 := g1.cell 1
          have s2 := g1.cell 2
          have s3 := g1.cell 3
          have z0 := g1.frozen 0
          have sz := Blk.lt g1
          simp at r0 r1 r2 r3 s0 s1 s2 s3
          have hBx := hide (hBt.trans (hbx.mono hBt.size))
          clear g0 g1 hb0 hb1 hbx hBt hd0 t1 tz
          go_wp2_with fail
          refine bodyPost_ret (v := .tuple #[.agg #[.int .i64 2, .string (s.extract k (k + n)), .int .i64 0, .int .i64 k], .int .i64 0]) (by simp [results, Tryd.results33, go_sem, *]) rfl ?_
          rw [HT.out]
          exact ⟨by rfl, by repeat (first | (with_reducible exact hBx.out) | (with_reducible refine Below.setCell ?_ (by simp) _))⟩
  · have hld := let_dig s[k] hd
    rw [if_neg (by rw [hld]; decide), if_pos (show digC s[k] = true from hd)] at hT
    rw [hd] at hDF
    have HDF := hide hDF
    have HN : ∀ X, Calls Tryd.prog 62 #[.string s, .int .i64 k] X fun e w' => e = .returned (.tuple #[tokV (if (numT (s.extract k s.size)).2 = 0 then { (numT (s.extract k s.size)).1 with pos := k } else noTok), .int .i64 (numT (s.extract k s.size)).2]) ∧ Below X.heap.size X w' := fun X => number_ref s k X hk hs
    have HT := hide hT
    generalize numT (s.extract k s.size) = r at HN HT
    obtain ⟨q, er⟩ := r
    have HQ : ∃ q2 : Tok, Hid (q2 = if er = 0 then { q with pos := (k : Int) } else noTok) := ⟨_, hide rfl⟩
    obtain ⟨q2, hq2⟩ := HQ
    simp only at HN
    rw [← hq2.out] at HN
    obtain ⟨tk, tt, tn, tp⟩ := q2
    have HN : ∀ X, Calls Tryd.prog 62 #[.string s, .int .i64 k] X fun e w' => e = .returned (.tuple #[.agg #[.int .i64 tk, .string tt, .int .i64 tn, .int .i64 tp], .int .i64 er]) ∧ Below X.heap.size X w' := HN
    have HN := hide HN
    have hR := Blk.new w 33 tok0
    have HB := hide (And.intro hB hR)
    clear hDF hLF hd hld hT hB hR
    go_enter Tryd.func33, Tryd.ntmps33
    go_wp2_with (first
      | (go_at_call 61; refine (HDF.out _).mono ?_; rintro e w2 ⟨rfl, rfl⟩)
      | (go_at_call 62; refine (HN.out _).mono ?_; rintro e w3 ⟨rfl, hb3⟩
         have hR3 := Blk.below HB.out.2 hb3 (by simp)
         have r0 := hR3.cell 0
         have r1 := hR3.cell 1
         have r2 := hR3.cell 2
         have r3 := hR3.cell 3
         have f0 := hR3.frozen 0
         have f1 := hR3.frozen 1
         have f2 := hR3.frozen 2
         have f3 := hR3.frozen 3
         have rz := Blk.lt hR3
         simp at r0 r1 r2 r3))
    refine bodyPost_ret (v := .tuple #[.agg #[.int .i64 tk, .string tt, .int .i64 tn, .int .i64 tp], .int .i64 er]) (by simp [results, Tryd.results33, go_sem, *]) rfl ?_
    rw [HT.out]
    have hB3 := HB.out.1.trans (hb3.mono HB.out.1.size)
    refine ⟨?_, by repeat (first | (with_reducible exact hB3) | (with_reducible refine Below.setCell ?_ (by simp) _))⟩
    simp only
    rw [← hq2.out]
    rfl
end Go.Proofs.YtanhkeeifnimgaaDoor

namespace Go.Proofs.YtanhkeeifnimgaaDoor
open Go Go.RowKit Go.Proofs

theorem own_tok0 (w : World) : OwnT w.heap.size (w.alloc (.cells #[] 33)) (.slice (some ⟨w.heap.size, 0, none⟩) 0 0) [] :=
  World.ownsRow_lit (e := 33) (size := 4) w #[] 0 (Nat.le_refl _) (by decide) (by simp)
set_option maxRecDepth 100000 in
set_option maxHeartbeats 4000000 in
theorem scan_ref (s : ByteArray) (w : World) (hs : s.size ≤ 9223372036854775806) :
    Calls Tryd.prog 13 #[.string s] w (ScanP (scanT s) w) := by
  by_cases hbig : 16384 < s.size
  · have HT := hide (show scanT s = ([], 0, 8) by unfold scanT; rw [if_pos hbig])
    have hbI : (16384 : Int) < (s.size : Int) := by omega
    go_enter Tryd.func13, Tryd.ntmps13
    go_wp2_with fail
    go_ret3
    rw [HT.out]
    exact scanP_no 0 8 (Below.refl _ _)
  have hbI : ¬ (16384 : Int) < (s.size : Int) := by omega
  have HS0 := hide (show scanT s = scanGo s (s.size + 1) (skipN s.data.toList) [] by unfold scanT; rw [if_neg hbig])
  have hk0 : skipN s.data.toList ≤ s.size := by have := skipN_le s.data.toList; simpa using this
  have HSK := hide fun X => skip_ref s 0 (skipN s.data.toList) (hide (by simp)) X (Nat.zero_le _) hs
  generalize skipN s.data.toList = k0 at HS0 hk0 HSK
  have hb0 : Below w.heap.size w (w.alloc (.cells #[] 33)) := (Below.refl _ _).alloc (Nat.le_refl _) _
  have HB0 := hide hb0
  clear hb0
  go_enter Tryd.func13, Tryd.ntmps13
  go_wp2_with (go_at_call 32; refine (HSK.out _).mono ?_; rintro e w1 ⟨rfl, rfl⟩)
  go_loopw [5, 6] (fun v i wr => ∃ (k f : Nat) (l : List Tok), k ≤ s.size ∧ i = .int .i64 k ∧ OwnT w.heap.size wr v l ∧ l.length ≤ k ∧ s.size < f + k ∧ Below w.heap.size w wr ∧ Hid (scanT s = scanGo s f k l)) (fun _ i _ => s.size - (intOf i).toNat)
  case atStart => exact ⟨k0, s.size + 1, [], hk0, rfl, own_tok0 w, Nat.zero_le _, by omega, HB0.out, HS0⟩
  case round =>
    obtain ⟨k, f, l, hk, rfl, hO, hlk, hf, hB, hsc⟩ := hrel
    obtain ⟨f', rfl⟩ : ∃ f', f = f' + 1 := ⟨f - 1, by omega⟩
    by_cases hlt : k < s.size
    · have hstep := hsc.out
      rw [scanGo, if_pos hlt] at hstep
      have hx0 : 0 < (s.extract k s.size).size := by rw [ByteArray.size_extract]; omega
      have hx2 : (s.extract k s.size).size = s.size - k := by rw [ByteArray.size_extract]; omega
      have HT : ∀ X, Calls Tryd.prog 33 #[.string s, .int .i64 k] X fun e w' => e = .returned (.tuple #[tokV (if (tokT (s.extract k s.size)).2 = 0 then { (tokT (s.extract k s.size)).1 with pos := k } else noTok), .int .i64 (tokT (s.extract k s.size)).2]) ∧ Below X.heap.size X w' := fun X => token_ref s k X hlt hs
      have hts := tok_size hx0
      rw [hx2] at hts
      have hkI : (k : Int) ≤ (s.size : Int) := by omega
      have hkI2 : (k : Int) < (s.size : Int) := by omega
      clear hx0 hx2 hsc
      generalize tokT (s.extract k s.size) = r at HT hts hstep
      obtain ⟨⟨tk, tt, tn, tp⟩, er⟩ := r
      simp only at hts hstep HT
      by_cases her : er = 0
      · obtain ⟨ht1, ht2⟩ := hts her
        subst her
        rw [if_neg (by simp)] at hstep
        have HT : ∀ X, Calls Tryd.prog 33 #[.string s, .int .i64 k] X fun e w' => e = .returned (.tuple #[.agg #[.int .i64 tk, .string tt, .int .i64 tn, .int .i64 k], .int .i64 0]) ∧ Below X.heap.size X w' := HT
        have HT := hide HT
        have hkk : skipN (s.data.toList.drop (k + tt.size)) ≤ s.size - (k + tt.size) := by
          have := skipN_le (s.data.toList.drop (k + tt.size))
          simpa using this
        have HK := hide fun X => skip_ref s (k + tt.size) (k + tt.size + skipN (s.data.toList.drop (k + tt.size))) (hide rfl) X (by omega) hs
        have HST := hide hstep
        generalize skipN (s.data.toList.drop (k + tt.size)) = m at HK hkk HST
        have w1 : IntKind.i64.wrap ((k : Int) + (tt.size : Int)) = (k : Int) + (tt.size : Int) := IntWalk.i64_in _ (by omega)
        clear hstep hts
        have hlen : l.length + 1 ≤ 1099511627776 := by omega
        go_wp2_with (first
          | (go_at_call 33; refine (HT.out _).mono ?_; rintro e z ⟨rfl, hz⟩; have B9 := hB.trans (hz.mono hB.size); have O9 := hO.below hz; clear hz)
          | (at_builtin; refine append_toks rfl _ _ rfl w.heap.size _ l rfl ((O9.alloc (.cells #[.int .i64 tk, .string tt, .int .i64 tn, .int .i64 k] 33)).alloc _) _ _ 1 [⟨tk, tt, tn, k⟩] rfl (Toks.new1 _ ⟨tk, tt, tn, k⟩ 33 (by simp)) hlen (by have := B9.size; simp; omega) ?_; intro v3 x3 hO3 hg3 _; have hg : ((z.alloc (.cells #[.int .i64 tk, .string tt, .int .i64 tn, .int .i64 k] 33)).alloc (.cells #[.int .i64 tk, .string tt, .int .i64 tn, .int .i64 k] 33)).grownBy x3 u5.ownBlock := hg3; have hlo := O9.lt; have hT1 := (((Blk.new z 33 #[.int .i64 tk, .string tt, .int .i64 tn, .int .i64 k]).alloc (.cells #[.int .i64 tk, .string tt, .int .i64 tn, .int .i64 k] 33)).grown hg (fun e => by have := (hlo _ e.symm).2; omega)).cell 1; have B3 := ((B9.alloc B9.size (.cells #[.int .i64 tk, .string tt, .int .i64 tn, .int .i64 k] 33)).alloc (Nat.le_trans B9.size (by simp)) (.cells #[.int .i64 tk, .string tt, .int .i64 tn, .int .i64 k] 33)).grown hg (Nat.le_trans B9.size (by simp; omega)) (fun q hq => (hlo q hq).1); simp at hT1; clear hg3 hg hlo)
          | (go_at_call 32; refine (HK.out _).mono ?_; rintro e x4 ⟨rfl, rfl⟩))
        refine ⟨⟨k + tt.size + m, f', l ++ [⟨tk, tt, tn, k⟩], by omega, by go_num, hO3, by simp; omega, by omega, B3, HST⟩, by simp [intOf]; omega⟩
      · have HE := hide (show scanT s = ([], (k : Int), er) by rw [hstep, if_pos her])
        have herI : ((er : Int) != 0) = true := by simpa using her
        rw [if_neg her] at HT
        have HT : ∀ X, Calls Tryd.prog 33 #[.string s, .int .i64 k] X fun e w' => e = .returned (.tuple #[.agg #[.int .i64 0, .string ⟨#[]⟩, .int .i64 0, .int .i64 0], .int .i64 er]) ∧ Below X.heap.size X w' := HT
        have HT := hide HT
        clear hstep hts her
        go_wp2_with (go_at_call 33; refine (HT.out _).mono ?_; rintro e z ⟨rfl, hz⟩; have B9 := hB.trans (hz.mono hB.size); clear hz)
        go_ret3
        rw [HE.out]
        exact scanP_no _ _ (B9.alloc B9.size _)
    · have hstep := hsc.out
      rw [scanGo, if_neg hlt] at hstep
      have HE := hide hstep
      have hkI : ¬ (k : Int) < (s.size : Int) := by omega
      have hlen : l.length + 1 ≤ 1099511627776 := by omega
      clear hstep hsc
      go_wp2_with (at_builtin; refine append_toks rfl _ _ rfl w.heap.size _ l rfl (hO.alloc _) _ _ 1 [⟨0, ⟨#[]⟩, 0, s.size⟩] rfl (Toks.new1 _ ⟨0, ⟨#[]⟩, 0, s.size⟩ 33 rfl) hlen (by have := hB.size; simp; omega) ?_; intro v3 x3 hO3 hg3 _; have hg : (wr.alloc (.cells #[.int .i64 0, .string ⟨#[]⟩, .int .i64 0, .int .i64 s.size] 33)).grownBy x3 u5.ownBlock := hg3; have hlo := hO.lt; have B3 := (hB.alloc hB.size (.cells #[.int .i64 0, .string ⟨#[]⟩, .int .i64 0, .int .i64 s.size] 33)).grown hg (Nat.le_trans hB.size (by simp)) (fun q hq => (hlo q hq).1); clear hg3 hg hlo)
      go_ret3
      rw [HE.out]
      obtain ⟨A, c, rfl, hc, hA⟩ := hO3.form
      exact ⟨A, c, rfl, hc, hA, B3⟩
end Go.Proofs.YtanhkeeifnimgaaDoor
