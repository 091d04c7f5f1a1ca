/- The walk of package lexer's number. Conditions: lengths that fit memory. -/
import Derived.Test.YtanhkeeifnimgaaDoorLex16c
import Derived.Laws.IdiomStrings
namespace Go.Proofs.YtanhkeeifnimgaaDoor
open Go Go.RowKit Go.Proofs

theorem below_drawnN {B : Nat} {w w' : World} (h : Below B w w') (n : Nat) : Below B w (w'.drewN n) := by
  induction n with
  | zero => exact h
  | succ n ih => exact ih.drew
theorem clsL_two {w : World} {v0 v1 : Value} {p0 p1 : UInt8 → Bool} {T : TypeId} (h0 : Cls w v0 p0) (h1 : Cls w v1 p1) :
    ClsL (w.alloc (.cells #[v0, v1] T)) (some ⟨w.heap.size, 0, none⟩) [v0, v1] [p0, p1] := by
  have hB : Below w.heap.size w (w.alloc (.cells #[v0, v1] T)) := (Below.refl _ _).alloc (Nat.le_refl _) _
  refine ⟨(Reads.newRow w #[v0, v1] T 2 1 rfl).more (by simp), rfl, fun i hi _ => ?_⟩
  match i, hi with
  | 0, _ => exact h0.below hB
  | 1, _ => exact h1.below hB
theorem low_any (c : UInt8) : [inB 97 122, fun c => ((⟨#[95]⟩ : ByteArray) : ByteArray).data.toList.contains c].any (atB c) = lowC c := by
  simp only [List.any_cons, List.any_nil, Bool.or_false, atB, lowC]
  have : ((⟨#[95]⟩ : ByteArray) : ByteArray).data.toList.contains c = decide (c = 95) := by
    rw [Bool.eq_iff_iff]
    simp
  rw [this]
  rfl
theorem dig_any (c : UInt8) : inB 48 57 c = digC c := rfl

theorem head_byte {s : ByteArray} (h0 : 0 < s.size) {c : UInt8} (h : s.data.toList.head? = some c) : s[0] = c := by
  rw [List.head?_eq_getElem?, List.getElem?_eq_getElem (by simpa using h0)] at h
  exact Option.some.inj h
theorem head_of {s : ByteArray} (h0 : 0 < s.size) {c : UInt8} (h : s[0] = c) : s.data.toList.head? = some c := by
  rw [List.head?_eq_getElem?, List.getElem?_eq_getElem (by simpa using h0)]
  exact congrArg some h
theorem take_numN (s : ByteArray) : s.data.toList.take (numN s) = s.data.toList.takeWhile digC := by
  have := List.takeWhile_prefix (l := s.data.toList) digC
  exact (List.prefix_iff_eq_take.1 this).symm
theorem num_digits {s : ByteArray} {c : UInt8} (h : c ∈ s.data.toList.take (numN s)) : 48 ≤ c.toNat ∧ c.toNat ≤ 57 := by
  rw [take_numN] at h
  have := List.all_eq_true.1 (List.all_takeWhile (l := s.data.toList) (p := digC)) c h
  simp only [digC, digitI, Bool.and_eq_true, decide_eq_true_eq] at this
  omega
theorem bytes_cells (A : World) (s : ByteArray) (cap : Nat) (T : TypeId) (fr : Nat × Nat) {g : Nat} (hg : g = A.heap.size) (j : Nat) (hj : j < s.size) : ((A.alloc (.cells (bytesRow s cap) T fr)).drew).cell? ⟨g, j, none⟩ = some (.int .u8 (s.data.toList[j]'(by simpa using hj)).toNat) := by
  subst hg
  show (A.alloc (.cells (bytesRow s cap) T fr)).cell? _ = _
  rw [World.cell?_alloc_mark, bytesRow_at s cap j (by simpa using hj)]
  simp
theorem numV_step {L : List UInt8} {i : Nat} (hi : i < L.length) (a : Int) : numV (L.drop i) a = if 1048576 < 10 * a + ((L[i].toNat : Int) - 48) then none else numV (L.drop (i + 1)) (10 * a + ((L[i].toNat : Int) - 48)) := by
  rw [List.drop_eq_getElem_cons hi]; rfl
theorem extract_take (s : ByteArray) (n : Nat) : (s.extract 0 n).data.toList = s.data.toList.take n := by
  rw [Lib.extract_data]; simp
/-- the bytes from an offset on that are letters or underscores -/
def oddN (s : ByteArray) (n : Nat) : Nat := ((s.data.toList.drop n).takeWhile lowC).length

set_option maxRecDepth 100000 in
set_option maxHeartbeats 4000000 in
theorem lexNumber_any (s : ByteArray) (w : World) (hs : s.size ≤ 9223372036854775807) :
    Calls Tryd.prog 108 #[.string s] w (TokRet (numT s) w) := by
  have hn0 : numN s ≤ s.size := by
    have := (List.takeWhile_prefix (l := s.data.toList) digC).length_le
    simpa [numN] using this
  have HR : ∀ (X : World) (v : Value), Cls X v digC → Calls Tryd.prog 103 #[.string s, v] X fun e w' => e = .returned (.int .i64 (numN s)) ∧ Below X.heap.size X w' := fun X v h => run_any s v digC X hs h
  have HR := hide HR
  have HR2 : ∀ (X : World) (v : Value), Cls X v lowC → Calls Tryd.prog 103 #[.string (s.extract (numN s) s.size), v] X fun e w' => e = .returned (.int .i64 (oddN s (numN s))) ∧ Below X.heap.size X w' := fun X v h => by
    have := run_any (s.extract (numN s) s.size) v lowC X (by rw [ByteArray.size_extract]; omega) h
    rw [Lib.extract_to_end] at this
    exact this
  have HR2 := hide HR2
  generalize hn : numN s = n at HR HR2 hn0
  have HN := hide hn
  clear hn
  -- CASES
  by_cases hA : 1 < n ∧ s.data.toList.head? = some 48
  · have HT := hide (show numT s = (noTok, 3) by unfold numT numOdd; rw [HN.out, if_pos (by simp [hA.1, hA.2])])
    have h0 : 0 < s.size := by omega
    have q1 : (1 : Int) < (n : Int) := by omega
    have q2 : ((s[0].toNat : Int) == 48) = true := by rw [head_byte h0 hA.2]; rfl
    clear hA HR2
    go_enter Tryd.func108, Tryd.ntmps108
    go_wp2_with fail
    refine (from_any 48 57 _).mono ?_
    rintro e x1 ⟨⟨v1, rfl, hv1⟩, hb1⟩
    go_wp2_with fail
    refine (HR.out _ v1 (cls_congr hv1 dig_any)).mono ?_
    rintro e x2 ⟨rfl, hb2⟩
    have hB0 : Below w.heap.size w (w.alloc (.cells #[.int .i64 0, .string ⟨#[]⟩, .int .i64 0, .int .i64 0] 33)) := (Below.refl _ _).alloc (Nat.le_refl _) _
    have hB2 := (hB0.trans (hb1.mono hB0.size)).trans (hb2.mono (Nat.le_trans hB0.size hb1.size))
    have hD2 := ((Blk.new w 33 #[.int .i64 0, .string ⟨#[]⟩, .int .i64 0, .int .i64 0]).below hb1 (by simp)).below hb2 (by have := hb1.size; simp at this; omega)
    clear hb1 hb2 hB0 hv1
    go_wp2_with fail
    go_quiet (fail)
    have d0 := hD2.cell 0
    have d1 := hD2.cell 1
    have d2 := hD2.cell 2
    have d3 := hD2.cell 3
    have f0 := hD2.frozen 0
    have f1 := hD2.frozen 1
    have f2 := hD2.frozen 2
    have f3 := hD2.frozen 3
    have eZ := hD2.lt
    simp at d0 d1 d2 d3
    go_wp2_with fail
    refine bodyPost_ret (v := .tuple #[.agg #[.int .i64 0, .string ⟨#[]⟩, .int .i64 0, .int .i64 0], .int .i64 3]) (by simp [results, Tryd.results108, go_sem, *]) rfl ⟨by rw [HT.out]; rfl, ?_⟩
    repeat (first | (with_reducible exact (below_drawnN hB2 _)) | (with_reducible refine Below.setCell ?_ (by simp <;> omega) _))
  have hg : (¬ (1 : Int) < (n : Int)) ∨ ((1 : Int) < (n : Int) ∧ ∃ h0 : 0 < s.size, ((s[0].toNat : Int) == 48) = false) := by
    by_cases h1 : (1 : Int) < (n : Int)
    · have h0 : 0 < s.size := by omega
      refine .inr ⟨h1, h0, ?_⟩
      rw [Bool.eq_false_iff]
      intro hq
      exact hA ⟨by omega, head_of h0 (UInt8.toNat_inj.1 (by have hq' := beq_iff_eq.1 hq; have h48 : s[0].toNat = 48 := (by omega); exact h48))⟩
    · exact .inl h1
  have hnI : (n : Int) ≤ (s.size : Int) := by omega
  by_cases hO : 0 < oddN s n
  · have HT := hide (show numT s = (noTok, 3) by unfold numT numOdd; rw [HN.out, if_pos (by have : 0 < ((s.data.toList.drop n).takeWhile lowC).length := hO; simp [this])])
    have hO' : (0 : Int) < (oddN s n : Int) := by omega
    clear hA
    rcases hg with q1 | ⟨q1, h0, q2⟩
    · go_enter Tryd.func108, Tryd.ntmps108
      go_wp2_with fail
      refine (from_any 48 57 _).mono ?_
      rintro e x1 ⟨⟨v1, rfl, hv1⟩, hb1⟩
      go_wp2_with fail
      refine (HR.out _ v1 (cls_congr hv1 dig_any)).mono ?_
      rintro e x2 ⟨rfl, hb2⟩
      have hB0 : Below w.heap.size w (w.alloc (.cells #[.int .i64 0, .string ⟨#[]⟩, .int .i64 0, .int .i64 0] 33)) := (Below.refl _ _).alloc (Nat.le_refl _) _
      have hB2 := (hB0.trans (hb1.mono hB0.size)).trans (hb2.mono (Nat.le_trans hB0.size hb1.size))
      have hD2 := ((Blk.new w 33 #[.int .i64 0, .string ⟨#[]⟩, .int .i64 0, .int .i64 0]).below hb1 (by simp)).below hb2 (by have := hb1.size; simp at this; omega)
      clear hb1 hb2 hB0 hv1
      go_wp2_with fail
      have hU : undef = Value.tuple #[] := rfl
      first | (go_region_with ((first
        | (go_at_call 106; refine (from_any 97 122 _).mono ?_; rintro e y1 ⟨⟨u1, rfl, hu1⟩, hc1⟩; obtain ⟨g1, lb1, rfl⟩ := hu1.form; have aB := ((Below.refl x2.heap.size x2).drew).trans hc1; clear hc1)
        | (go_at_call 104; refine (among_any (⟨#[95]⟩ : ByteArray) _).mono ?_; rintro e y2 ⟨⟨u2, rfl, hu2⟩, hc2⟩; obtain ⟨g2, lb2, rfl⟩ := hu2.form; have hu1' := hu1.below hc2; have bB := aB.trans (hc2.mono aB.size); clear aB hc2 hu1)
        | (go_at_call 126; refine (anyOf_any _ 2 [.func (.func g1) #[] lb1, .func (.func g2) #[] lb2] _ _ (by simp) (clsL_two hu1' hu2)).mono ?_; rintro e y3 ⟨⟨u3, rfl, hu3⟩, hc3⟩; have cB := (bB.alloc bB.size (.cells #[.func (.func g1) #[] lb1, .func (.func g2) #[] lb2] 91)).trans (hc3.mono (Nat.le_trans bB.size (by simp))); clear hc3 bB)
        | (go_at_call 103; refine (HR2.out _ u3 (cls_congr hu3 low_any)).mono ?_; rintro e y4 ⟨rfl, hc4⟩; have dB := cB.trans (hc4.mono cB.size); clear hc4 cB)))) | fail
      clear hU
      have hE4 := hB2.trans (dB.mono hB2.size)
      have hD4 := hD2.below dB hD2.lt
      clear dB hD2 hB2
      have d0 := hD4.cell 0
      have d1 := hD4.cell 1
      have d2 := hD4.cell 2
      have d3 := hD4.cell 3
      have f0 := hD4.frozen 0
      have f1 := hD4.frozen 1
      have f2 := hD4.frozen 2
      have f3 := hD4.frozen 3
      have eZ := hD4.lt
      simp at d0 d1 d2 d3
      go_wp2_with fail
      refine bodyPost_ret (v := .tuple #[.agg #[.int .i64 0, .string ⟨#[]⟩, .int .i64 0, .int .i64 0], .int .i64 3]) (by simp [results, Tryd.results108, go_sem, *]) rfl ⟨by rw [HT.out]; rfl, ?_⟩
      repeat (first | (with_reducible exact hE4) | (with_reducible refine Below.setCell ?_ (by simp <;> omega) _))
    · go_enter Tryd.func108, Tryd.ntmps108
      go_wp2_with fail
      refine (from_any 48 57 _).mono ?_
      rintro e x1 ⟨⟨v1, rfl, hv1⟩, hb1⟩
      go_wp2_with fail
      refine (HR.out _ v1 (cls_congr hv1 dig_any)).mono ?_
      rintro e x2 ⟨rfl, hb2⟩
      have hB0 : Below w.heap.size w (w.alloc (.cells #[.int .i64 0, .string ⟨#[]⟩, .int .i64 0, .int .i64 0] 33)) := (Below.refl _ _).alloc (Nat.le_refl _) _
      have hB2 := (hB0.trans (hb1.mono hB0.size)).trans (hb2.mono (Nat.le_trans hB0.size hb1.size))
      have hD2 := ((Blk.new w 33 #[.int .i64 0, .string ⟨#[]⟩, .int .i64 0, .int .i64 0]).below hb1 (by simp)).below hb2 (by have := hb1.size; simp at this; omega)
      clear hb1 hb2 hB0 hv1
      go_wp2_with fail
      go_region_held3 (fun X => x2.heap.size ≤ X.heap.size ∧ Below x2.heap.size x2 X) ((first | (go_keep; done) | (refine ⟨?_, ?_⟩ <;> (first | assumption | exact (Below.refl _ _).drew | exact Nat.le_refl _ | exact aB.alloc aB.size _ | exact Nat.le_trans aB.size (by simp)))))
        ((first
        | (go_at_call 106; have hH := (by assumption : x2.heap.size ≤ _ ∧ Below x2.heap.size x2 _); obtain ⟨z1, h1⟩ := hH; refine (from_any 97 122 _).mono ?_; rintro e y1 ⟨⟨u1, rfl, hu1⟩, hc1⟩; obtain ⟨g1, lb1, rfl⟩ := hu1.form; have aB := h1.trans (hc1.mono h1.size); have aZ := aB.size; clear z1 h1 hc1)
        | (go_at_call 104; refine (among_any (⟨#[95]⟩ : ByteArray) _).mono ?_; rintro e y2 ⟨⟨u2, rfl, hu2⟩, hc2⟩; obtain ⟨g2, lb2, rfl⟩ := hu2.form; have hu1' := hu1.below hc2; have bB := aB.trans (hc2.mono aB.size); have bZ := bB.size; clear aB aZ hc2 hu1; have aB := bB; have aZ := bZ)
        | (go_at_call 126; refine (anyOf_any _ 2 [.func (.func g1) #[] lb1, .func (.func g2) #[] lb2] _ _ (by simp) (clsL_two hu1' hu2)).mono ?_; rintro e y3 ⟨⟨u3, rfl, hu3⟩, hc3⟩; have cB := (aB.alloc aB.size (.cells #[.func (.func g1) #[] lb1, .func (.func g2) #[] lb2] 91)).trans (hc3.mono (Nat.le_trans aB.size (by simp))); have cZ := cB.size; clear hc3)
        | (go_at_call 103; refine (HR2.out _ u3 (cls_congr hu3 low_any)).mono ?_; rintro e y4 ⟨rfl, hc4⟩; have dB := cB.trans (hc4.mono cB.size); have dZ := dB.size; clear hc4)))
      have hE4 := hB2.trans (dB.mono hB2.size)
      have hD4 := hD2.below dB hD2.lt
      clear dB hD2 hB2
      have d0 := hD4.cell 0
      have d1 := hD4.cell 1
      have d2 := hD4.cell 2
      have d3 := hD4.cell 3
      have f0 := hD4.frozen 0
      have f1 := hD4.frozen 1
      have f2 := hD4.frozen 2
      have f3 := hD4.frozen 3
      have eZ := hD4.lt
      simp at d0 d1 d2 d3
      go_wp2_with fail
      refine bodyPost_ret (v := .tuple #[.agg #[.int .i64 0, .string ⟨#[]⟩, .int .i64 0, .int .i64 0], .int .i64 3]) (by simp [results, Tryd.results108, go_sem, *]) rfl ⟨by rw [HT.out]; rfl, ?_⟩
      repeat (first | (with_reducible exact hE4) | (with_reducible refine Below.setCell ?_ (by simp <;> omega) _))
  have HO := hide (show numT s = match numV (s.data.toList.take n) 0 with | some v => (⟨3, s.extract 0 n, v, 0⟩, 0) | none => (noTok, 2) by
    unfold numT numOdd
    rw [HN.out, if_neg (by have h2 : ¬ 0 < ((s.data.toList.drop n).takeWhile lowC).length := hO; simp only [Bool.or_eq_true, Bool.and_eq_true, decide_eq_true_eq, not_or]; exact ⟨hA, h2⟩)]
    cases numV (List.take n s.data.toList) 0 <;> rfl)
  have hO' : ¬ (0 : Int) < (oddN s n : Int) := by omega
  clear hA hO
  have hz : (s.extract 0 n).size = n := by rw [ByteArray.size_extract]; omega
  have hcv := fun (W : World) => run_bytes_of_string (P := Tryd.prog) W 9 68 5 (s.extract 0 n) Tryd.underlying9 Tryd.underlying68 Tryd.underlying5
  rw [hz] at hcv
  have HZ := hide hz
  clear hz
  rcases hg with q1 | ⟨q1, h0, q2⟩
  · go_enter Tryd.func108, Tryd.ntmps108
    go_wp2_with fail
    refine (from_any 48 57 _).mono ?_
    rintro e x1 ⟨⟨v1, rfl, hv1⟩, hb1⟩
    go_wp2_with fail
    refine (HR.out _ v1 (cls_congr hv1 dig_any)).mono ?_
    rintro e x2 ⟨rfl, hb2⟩
    have hB0 : Below w.heap.size w (w.alloc (.cells #[.int .i64 0, .string ⟨#[]⟩, .int .i64 0, .int .i64 0] 33)) := (Below.refl _ _).alloc (Nat.le_refl _) _
    have hB2 := (hB0.trans (hb1.mono hB0.size)).trans (hb2.mono (Nat.le_trans hB0.size hb1.size))
    have hD2 := ((Blk.new w 33 #[.int .i64 0, .string ⟨#[]⟩, .int .i64 0, .int .i64 0]).below hb1 (by simp)).below hb2 (by have := hb1.size; simp at this; omega)
    clear hb1 hb2 hB0 hv1
    go_wp2_with fail
    have hU : undef = Value.tuple #[] := rfl
    first | (go_region_with ((first
      | (go_at_call 106; refine (from_any 97 122 _).mono ?_; rintro e y1 ⟨⟨u1, rfl, hu1⟩, hc1⟩; obtain ⟨g1, lb1, rfl⟩ := hu1.form; have aB := ((Below.refl x2.heap.size x2).drew).trans hc1; clear hc1)
      | (go_at_call 104; refine (among_any (⟨#[95]⟩ : ByteArray) _).mono ?_; rintro e y2 ⟨⟨u2, rfl, hu2⟩, hc2⟩; obtain ⟨g2, lb2, rfl⟩ := hu2.form; have hu1' := hu1.below hc2; have bB := aB.trans (hc2.mono aB.size); clear aB hc2 hu1)
      | (go_at_call 126; refine (anyOf_any _ 2 [.func (.func g1) #[] lb1, .func (.func g2) #[] lb2] _ _ (by simp) (clsL_two hu1' hu2)).mono ?_; rintro e y3 ⟨⟨u3, rfl, hu3⟩, hc3⟩; have cB := (bB.alloc bB.size (.cells #[.func (.func g1) #[] lb1, .func (.func g2) #[] lb2] 91)).trans (hc3.mono (Nat.le_trans bB.size (by simp))); clear hc3 bB)
      | (go_at_call 103; refine (HR2.out _ u3 (cls_congr hu3 low_any)).mono ?_; rintro e y4 ⟨rfl, hc4⟩; have dB := cB.trans (hc4.mono cB.size); clear hc4 cB)))) | fail
    clear hU
    have hE4 := hB2.trans (dB.mono hB2.size)
    have hD4 := hD2.below dB hD2.lt
    clear dB hD2 hB2
    have hE0 : Blk (y4.alloc (.cells #[.int .i64 3, .string (s.extract 0 n), .int .i64 0, .int .i64 0] 33)) y4.heap.size 33 #[.int .i64 3, .string (s.extract 0 n), .int .i64 0, .int .i64 0] := Blk.new _ _ _
    have hD0 := hD4.alloc (.cells #[.int .i64 3, .string (s.extract 0 n), .int .i64 0, .int .i64 0] 33)
    have hB0 := hE4.alloc hE4.size (.cells #[.int .i64 3, .string (s.extract 0 n), .int .i64 0, .int .i64 0] 33)
    have hDl := hD4.lt
    go_wp2_with fail
    generalize grownCap (y4.alloc (.cells #[.int .i64 3, .string (s.extract 0 n), .int .i64 0, .int .i64 0] 33)) n 0 5 = cap at *
    have hbc := fun j hj => bytes_cells (y4.alloc (.cells #[.int .i64 3, .string (s.extract 0 n), .int .i64 0, .int .i64 0] 33)) (s.extract 0 n) cap 5 ((bytesRow (s.extract 0 n) cap).size, (bytesRow (s.extract 0 n) cap).size + 1) (g := y4.heap.size + 1) (by simp) j hj
    have hE := (hE0.alloc (.cells (bytesRow (s.extract 0 n) cap) 5 ((bytesRow (s.extract 0 n) cap).size, (bytesRow (s.extract 0 n) cap).size + 1))).drew
    have hD := (hD0.alloc (.cells (bytesRow (s.extract 0 n) cap) 5 ((bytesRow (s.extract 0 n) cap).size, (bytesRow (s.extract 0 n) cap).size + 1))).drew
    have hB := (hB0.alloc hB0.size (.cells (bytesRow (s.extract 0 n) cap) 5 ((bytesRow (s.extract 0 n) cap).size, (bytesRow (s.extract 0 n) cap).size + 1))).drew
    clear hE0 hD0 hB0 hE4 hD4 hcv
    generalize (((y4.alloc (.cells #[.int .i64 3, .string (s.extract 0 n), .int .i64 0, .int .i64 0] 33)).alloc (.cells (bytesRow (s.extract 0 n) cap) 5 ((bytesRow (s.extract 0 n) cap).size, (bytesRow (s.extract 0 n) cap).size + 1))).drew) = W at *
    have hne : w.heap.size ≠ y4.heap.size := by omega
    have hge : w.heap.size ≤ y4.heap.size := by omega
    generalize y4.heap.size = gt at *
    have HBC := hide hbc
    clear hbc
    go_loopw [38] (fun i wr => ∃ (k : Nat) (acc : Int), k ≤ n ∧ i = .int .i64 k ∧ 0 ≤ acc ∧ acc ≤ 1048576 ∧ Blk wr gt 33 #[.int .i64 3, .string (s.extract 0 n), .int .i64 acc, .int .i64 0] ∧ Blk wr w.heap.size 33 #[.int .i64 0, .string ⟨#[]⟩, .int .i64 0, .int .i64 0] ∧ Below w.heap.size w wr ∧ Hid (∀ j, wr.cell? ⟨gt + 1, j, none⟩ = W.cell? ⟨gt + 1, j, none⟩) ∧ Hid (numV (s.data.toList.take n) 0 = numV ((s.data.toList.take n).drop k) acc)) (fun i _ => n - (intOf i).toNat)
    case atStart => exact ⟨0, 0, Nat.zero_le _, rfl, by omega, by omega, hE, hD, hB, fun _ => rfl, hide rfl⟩
    case round =>
      clear hE hD hB
      obtain ⟨k, acc, hk, rfl, ha0, ha1, hE, hD, hB, hcell, hnv⟩ := hrel
      have hZ := HZ.out
      have e0 := hE.cell 0
      have e1 := hE.cell 1
      have e2 := hE.cell 2
      have e3 := hE.cell 3
      have k2 := hE.frozen 2
      have d0 := hD.cell 0
      have d1 := hD.cell 1
      have d2 := hD.cell 2
      have d3 := hD.cell 3
      have f0 := hD.frozen 0
      have f1 := hD.frozen 1
      have f2 := hD.frozen 2
      have f3 := hD.frozen 3
      have eZ := hD.lt
      simp at e0 e1 e2 e3 d0 d1 d2 d3
      by_cases hlt : k < n
      · have hL : k < (s.data.toList.take n).length := by simp; have : s.data.toList.length = s.size := by simp
                                                          omega
        have hstep := numV_step hL acc
        have hrng := num_digits (s := s) (c := (s.data.toList.take n)[k]) (by rw [HN.out]; exact List.getElem_mem _)
        have hb := (hcell.out k).trans (HBC.out k (by omega))
        have hbe : (s.extract 0 n).data.toList[k]'(by rw [extract_take]; exact hL) = (s.data.toList.take n)[k] := by simp only [extract_take]
        rw [hbe] at hb
        have HNV := hide (hnv.out.trans hstep)
        clear hbe hstep hnv hZ
        generalize (s.data.toList.take n)[k] = c at hb hrng HNV
        have hc0 : (48 : Int) ≤ (c.toNat : Int) := by omega
        have hc1 : (c.toNat : Int) ≤ 57 := by omega
        have hkI : (k : Int) < (n : Int) := by omega
        clear hrng
        by_cases hbig : 1048576 < 10 * acc + ((c.toNat : Int) - 48)
        · have HT := hide (show numT s = (noTok, 2) by rw [HO.out, HNV.out, if_pos hbig])
          go_wp2_with fail
          refine bodyPost_ret (v := .tuple #[.agg #[.int .i64 0, .string ⟨#[]⟩, .int .i64 0, .int .i64 0], .int .i64 2]) (by simp [results, Tryd.results108, go_sem, *]) rfl ⟨by rw [HT.out]; rfl, ?_⟩
          repeat (first | (with_reducible exact hB) | (with_reducible refine Below.setCell ?_ (by simp <;> omega) _))
        · have HS := hide (HNV.out.trans (by rw [if_neg hbig]))
          go_wp2_with fail
          refine ⟨⟨k + 1, 10 * acc + ((c.toNat : Int) - 48), by omega, by go_num, by omega, by omega, ?_, hD.far (by simp; omega) _, hB.setCell (by simp; omega) _, ?_, HS⟩, by simp [intOf]; omega⟩
          · have := hE.set_ 2 (.int .i64 (10 * acc + ((c.toNat : Int) - 48)))
            simpa using this
          · exact hide (fun j => (World.cell?_setCell_other _ _ _ _ (by simp)).trans (hcell.out j))
      · have hkn : k = n := by omega
        have HT := hide (show numT s = (⟨3, s.extract 0 n, acc, 0⟩, 0) by
          rw [HO.out, hnv.out, hkn, List.drop_of_length_le (by simp; omega)]; rfl)
        have hkI : ¬ (k : Int) < (n : Int) := by omega
        clear hkn hnv hZ
        go_wp2_with fail
        refine bodyPost_ret (v := .tuple #[.agg #[.int .i64 3, .string (s.extract 0 n), .int .i64 acc, .int .i64 0], .int .i64 0]) (by simp [results, Tryd.results108, go_sem, *]) rfl ⟨by rw [HT.out]; rfl, ?_⟩
        repeat (first | (with_reducible exact hB) | (with_reducible refine Below.setCell ?_ (by simp <;> omega) _))
  · go_enter Tryd.func108, Tryd.ntmps108
    go_wp2_with fail
    refine (from_any 48 57 _).mono ?_
    rintro e x1 ⟨⟨v1, rfl, hv1⟩, hb1⟩
    go_wp2_with fail
    refine (HR.out _ v1 (cls_congr hv1 dig_any)).mono ?_
    rintro e x2 ⟨rfl, hb2⟩
    have hB0 : Below w.heap.size w (w.alloc (.cells #[.int .i64 0, .string ⟨#[]⟩, .int .i64 0, .int .i64 0] 33)) := (Below.refl _ _).alloc (Nat.le_refl _) _
    have hB2 := (hB0.trans (hb1.mono hB0.size)).trans (hb2.mono (Nat.le_trans hB0.size hb1.size))
    have hD2 := ((Blk.new w 33 #[.int .i64 0, .string ⟨#[]⟩, .int .i64 0, .int .i64 0]).below hb1 (by simp)).below hb2 (by have := hb1.size; simp at this; omega)
    clear hb1 hb2 hB0 hv1
    go_wp2_with fail
    go_region_held3 (fun X => x2.heap.size ≤ X.heap.size ∧ Below x2.heap.size x2 X) ((first | (go_keep; done) | (refine ⟨?_, ?_⟩ <;> (first | assumption | exact (Below.refl _ _).drew | exact Nat.le_refl _ | exact aB.alloc aB.size _ | exact Nat.le_trans aB.size (by simp)))))
      ((first
      | (go_at_call 106; have hH := (by assumption : x2.heap.size ≤ _ ∧ Below x2.heap.size x2 _); obtain ⟨z1, h1⟩ := hH; refine (from_any 97 122 _).mono ?_; rintro e y1 ⟨⟨u1, rfl, hu1⟩, hc1⟩; obtain ⟨g1, lb1, rfl⟩ := hu1.form; have aB := h1.trans (hc1.mono h1.size); have aZ := aB.size; clear z1 h1 hc1)
      | (go_at_call 104; refine (among_any (⟨#[95]⟩ : ByteArray) _).mono ?_; rintro e y2 ⟨⟨u2, rfl, hu2⟩, hc2⟩; obtain ⟨g2, lb2, rfl⟩ := hu2.form; have hu1' := hu1.below hc2; have bB := aB.trans (hc2.mono aB.size); have bZ := bB.size; clear aB aZ hc2 hu1; have aB := bB; have aZ := bZ)
      | (go_at_call 126; refine (anyOf_any _ 2 [.func (.func g1) #[] lb1, .func (.func g2) #[] lb2] _ _ (by simp) (clsL_two hu1' hu2)).mono ?_; rintro e y3 ⟨⟨u3, rfl, hu3⟩, hc3⟩; have cB := (aB.alloc aB.size (.cells #[.func (.func g1) #[] lb1, .func (.func g2) #[] lb2] 91)).trans (hc3.mono (Nat.le_trans aB.size (by simp))); have cZ := cB.size; clear hc3)
      | (go_at_call 103; refine (HR2.out _ u3 (cls_congr hu3 low_any)).mono ?_; rintro e y4 ⟨rfl, hc4⟩; have dB := cB.trans (hc4.mono cB.size); have dZ := dB.size; clear hc4)))
    have hE4 := hB2.trans (dB.mono hB2.size)
    have hD4 := hD2.below dB hD2.lt
    clear dB hD2 hB2
    have hE0 : Blk (y4.alloc (.cells #[.int .i64 3, .string (s.extract 0 n), .int .i64 0, .int .i64 0] 33)) y4.heap.size 33 #[.int .i64 3, .string (s.extract 0 n), .int .i64 0, .int .i64 0] := Blk.new _ _ _
    have hD0 := hD4.alloc (.cells #[.int .i64 3, .string (s.extract 0 n), .int .i64 0, .int .i64 0] 33)
    have hB0 := hE4.alloc hE4.size (.cells #[.int .i64 3, .string (s.extract 0 n), .int .i64 0, .int .i64 0] 33)
    have hDl := hD4.lt
    go_wp2_with fail
    generalize grownCap (y4.alloc (.cells #[.int .i64 3, .string (s.extract 0 n), .int .i64 0, .int .i64 0] 33)) n 0 5 = cap at *
    have hbc := fun j hj => bytes_cells (y4.alloc (.cells #[.int .i64 3, .string (s.extract 0 n), .int .i64 0, .int .i64 0] 33)) (s.extract 0 n) cap 5 ((bytesRow (s.extract 0 n) cap).size, (bytesRow (s.extract 0 n) cap).size + 1) (g := y4.heap.size + 1) (by simp) j hj
    have hE := (hE0.alloc (.cells (bytesRow (s.extract 0 n) cap) 5 ((bytesRow (s.extract 0 n) cap).size, (bytesRow (s.extract 0 n) cap).size + 1))).drew
    have hD := (hD0.alloc (.cells (bytesRow (s.extract 0 n) cap) 5 ((bytesRow (s.extract 0 n) cap).size, (bytesRow (s.extract 0 n) cap).size + 1))).drew
    have hB := (hB0.alloc hB0.size (.cells (bytesRow (s.extract 0 n) cap) 5 ((bytesRow (s.extract 0 n) cap).size, (bytesRow (s.extract 0 n) cap).size + 1))).drew
    clear hE0 hD0 hB0 hE4 hD4 hcv
    generalize (((y4.alloc (.cells #[.int .i64 3, .string (s.extract 0 n), .int .i64 0, .int .i64 0] 33)).alloc (.cells (bytesRow (s.extract 0 n) cap) 5 ((bytesRow (s.extract 0 n) cap).size, (bytesRow (s.extract 0 n) cap).size + 1))).drew) = W at *
    have hne : w.heap.size ≠ y4.heap.size := by omega
    have hge : w.heap.size ≤ y4.heap.size := by omega
    generalize y4.heap.size = gt at *
    have HBC := hide hbc
    clear hbc
    go_loopw [38] (fun i wr => ∃ (k : Nat) (acc : Int), k ≤ n ∧ i = .int .i64 k ∧ 0 ≤ acc ∧ acc ≤ 1048576 ∧ Blk wr gt 33 #[.int .i64 3, .string (s.extract 0 n), .int .i64 acc, .int .i64 0] ∧ Blk wr w.heap.size 33 #[.int .i64 0, .string ⟨#[]⟩, .int .i64 0, .int .i64 0] ∧ Below w.heap.size w wr ∧ Hid (∀ j, wr.cell? ⟨gt + 1, j, none⟩ = W.cell? ⟨gt + 1, j, none⟩) ∧ Hid (numV (s.data.toList.take n) 0 = numV ((s.data.toList.take n).drop k) acc)) (fun i _ => n - (intOf i).toNat)
    case atStart => exact ⟨0, 0, Nat.zero_le _, rfl, by omega, by omega, hE, hD, hB, fun _ => rfl, hide rfl⟩
    case round =>
      clear hE hD hB
      obtain ⟨k, acc, hk, rfl, ha0, ha1, hE, hD, hB, hcell, hnv⟩ := hrel
      have hZ := HZ.out
      have e0 := hE.cell 0
      have e1 := hE.cell 1
      have e2 := hE.cell 2
      have e3 := hE.cell 3
      have k2 := hE.frozen 2
      have d0 := hD.cell 0
      have d1 := hD.cell 1
      have d2 := hD.cell 2
      have d3 := hD.cell 3
      have f0 := hD.frozen 0
      have f1 := hD.frozen 1
      have f2 := hD.frozen 2
      have f3 := hD.frozen 3
      have eZ := hD.lt
      simp at e0 e1 e2 e3 d0 d1 d2 d3
      by_cases hlt : k < n
      · have hL : k < (s.data.toList.take n).length := by simp; have : s.data.toList.length = s.size := by simp
                                                          omega
        have hstep := numV_step hL acc
        have hrng := num_digits (s := s) (c := (s.data.toList.take n)[k]) (by rw [HN.out]; exact List.getElem_mem _)
        have hb := (hcell.out k).trans (HBC.out k (by omega))
        have hbe : (s.extract 0 n).data.toList[k]'(by rw [extract_take]; exact hL) = (s.data.toList.take n)[k] := by simp only [extract_take]
        rw [hbe] at hb
        have HNV := hide (hnv.out.trans hstep)
        clear hbe hstep hnv hZ
        generalize (s.data.toList.take n)[k] = c at hb hrng HNV
        have hc0 : (48 : Int) ≤ (c.toNat : Int) := by omega
        have hc1 : (c.toNat : Int) ≤ 57 := by omega
        have hkI : (k : Int) < (n : Int) := by omega
        clear hrng
        by_cases hbig : 1048576 < 10 * acc + ((c.toNat : Int) - 48)
        · have HT := hide (show numT s = (noTok, 2) by rw [HO.out, HNV.out, if_pos hbig])
          go_wp2_with fail
          refine bodyPost_ret (v := .tuple #[.agg #[.int .i64 0, .string ⟨#[]⟩, .int .i64 0, .int .i64 0], .int .i64 2]) (by simp [results, Tryd.results108, go_sem, *]) rfl ⟨by rw [HT.out]; rfl, ?_⟩
          repeat (first | (with_reducible exact hB) | (with_reducible refine Below.setCell ?_ (by simp <;> omega) _))
        · have HS := hide (HNV.out.trans (by rw [if_neg hbig]))
          go_wp2_with fail
          refine ⟨⟨k + 1, 10 * acc + ((c.toNat : Int) - 48), by omega, by go_num, by omega, by omega, ?_, hD.far (by simp; omega) _, hB.setCell (by simp; omega) _, ?_, HS⟩, by simp [intOf]; omega⟩
          · have := hE.set_ 2 (.int .i64 (10 * acc + ((c.toNat : Int) - 48)))
            simpa using this
          · exact hide (fun j => (World.cell?_setCell_other _ _ _ _ (by simp)).trans (hcell.out j))
      · have hkn : k = n := by omega
        have HT := hide (show numT s = (⟨3, s.extract 0 n, acc, 0⟩, 0) by
          rw [HO.out, hnv.out, hkn, List.drop_of_length_le (by simp; omega)]; rfl)
        have hkI : ¬ (k : Int) < (n : Int) := by omega
        clear hkn hnv hZ
        go_wp2_with fail
        refine bodyPost_ret (v := .tuple #[.agg #[.int .i64 3, .string (s.extract 0 n), .int .i64 acc, .int .i64 0], .int .i64 0]) (by simp [results, Tryd.results108, go_sem, *]) rfl ⟨by rw [HT.out]; rfl, ?_⟩
        repeat (first | (with_reducible exact hB) | (with_reducible refine Below.setCell ?_ (by simp <;> omega) _))
end Go.Proofs.YtanhkeeifnimgaaDoor
