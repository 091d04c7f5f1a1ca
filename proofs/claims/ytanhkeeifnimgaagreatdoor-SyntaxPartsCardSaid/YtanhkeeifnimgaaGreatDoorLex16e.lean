/- The walk of package lexer's token. Conditions: lengths that fit memory; the tables are laid. -/
import Derived.Test.YtanhkeeifnimgaaGreatDoorLex16d
namespace Go.Proofs.YtanhkeeifnimgaaGreatDoor
open Go Go.RowKit Go.Proofs

theorem symC_any (c : UInt8) : ((⟨#[59, 44]⟩ : ByteArray) : ByteArray).data.toList.contains c = decide (c = 59 ∨ c = 44) := by
  rw [Bool.eq_iff_iff]; simp

set_option maxRecDepth 100000 in
set_option maxHeartbeats 4000000 in
theorem token_any (s : ByteArray) (w : World) (ha : Asc w) (hs : s.size ≤ 9223372036854775807) (h0 : 0 < s.size) :
    Calls Tryz.prog 28 #[.string s] w (TokRet (tokT s) w) := by
  have HA := hide ha
  clear ha
  have hcons : ∃ t, s.data.toList = s[0] :: t := by
    have : s.data.toList.head? = some s[0] := head_of h0 rfl
    cases h : s.data.toList with
    | nil => rw [h] at this; cases this
    | cons a t => rw [h] at this; exact ⟨t, by rw [Option.some.inj this]⟩
  obtain ⟨t, ht⟩ := hcons
  have HTK : tokT s = if letC s[0] then wordT s else if digC s[0] then numT s else if s[0] = 59 ∨ s[0] = 44 then (⟨4, s.extract 0 1, 0, 0⟩, 0) else (noTok, 3) := by
    unfold tokT; rw [ht]
  clear ht
  -- CASES
  have h0I : (0 : Int) < (s.size : Int) := by omega
  have h1I : (1 : Int) ≤ (s.size : Int) := by omega
  generalize hc : s[0] = c at HTK
  cases h1 : letC c
  rotate_left
  · have HR := hide (show tokT s = wordT s by rw [HTK, if_pos h1])
    have H1 := hide (show inB 97 122 c = true from h1)
    clear HTK h1
    have HW := (fun (X : World) (ha : Asc X) => word_any s X ha hs)
    generalize wordT s = r at HR HW
    obtain ⟨⟨tk, tt, tn, tp⟩, er⟩ := r
    have HT := HR
    have HW : ∀ (X : World), Asc X → Calls Tryz.prog 56 #[.string s] X (fun e w' => e = .returned (.tuple #[.agg #[.int .i64 tk, .string tt, .int .i64 tn, .int .i64 tp], .int .i64 er]) ∧ Below X.heap.size X w') := HW
    have HW := hide HW
    go_enter Tryz.func28, Tryz.ntmps28
    have B0 : Below w.heap.size w (w.alloc (.cells #[.int .i64 0, .string ⟨#[]⟩, .int .i64 0, .int .i64 0] 34)) := (Below.refl _ _).alloc (Nat.le_refl _) _
    have D0 := Blk.new w 34 #[.int .i64 0, .string ⟨#[]⟩, .int .i64 0, .int .i64 0]
    go_wp2_with fail
    refine (from_any 97 122 _).mono ?_
    rintro e x1 ⟨⟨v1, rfl, hv1⟩, hb1⟩
    obtain ⟨g1, lb1, rfl, eg1, hcl1⟩ := hv1
    have hcc1 := hcl1 c x1 (Below.refl _ _)
    rw [show inB 97 122 c = true from H1.out] at hcc1
    have HCC1 := hide hcc1
    clear hcl1 hcc1
    have B1 := B0.trans (hb1.mono B0.size)
    have D1 := D0.below hb1 D0.lt
    clear hb1
    go_wp2_with (refine HCC1.out.mono ?_; rintro e y1 ⟨rfl, hd1⟩)
    have C1 := B1.trans (hd1.mono B1.size)
    have E1 := D1.below hd1 D1.lt
    clear hd1
    go_wp2_with (go_at_call 56; refine (HW.out _ (Asc.below HA.out (Nat.le_refl _) C1)).mono ?_; rintro e z ⟨rfl, hz⟩; have B9 := C1.trans (hz.mono C1.size); have D9 := E1.below hz E1.lt; clear hz; have d0 := D9.cell 0; have d1 := D9.cell 1; have d2 := D9.cell 2; have d3 := D9.cell 3; have f0 := D9.frozen 0; have f1 := D9.frozen 1; have f2 := D9.frozen 2; have f3 := D9.frozen 3; have eZ := D9.lt; simp at d0 d1 d2 d3)
    refine bodyPost_ret (v := .tuple #[.agg #[.int .i64 tk, .string tt, .int .i64 tn, .int .i64 tp], .int .i64 er]) (by simp [results, Tryz.results28, go_sem, *]) rfl ⟨by rw [HT.out]; rfl, ?_⟩
    repeat (first | (with_reducible exact B9) | (with_reducible refine Below.setCell ?_ (by simp <;> omega) _))
  cases h2 : digC c
  rotate_left
  · have HR := hide (show tokT s = numT s by rw [HTK, if_neg (by simp [h1]), if_pos h2])
    have H1 := hide (show inB 97 122 c = false from h1)
    have H2 := hide (show inB 48 57 c = true from h2)
    clear HTK h1 h2
    have HW := (fun (X : World) => lexNumber_any s X hs)
    generalize numT s = r at HR HW
    obtain ⟨⟨tk, tt, tn, tp⟩, er⟩ := r
    have HT := HR
    have HW : ∀ (X : World), Calls Tryz.prog 57 #[.string s] X (fun e w' => e = .returned (.tuple #[.agg #[.int .i64 tk, .string tt, .int .i64 tn, .int .i64 tp], .int .i64 er]) ∧ Below X.heap.size X w') := HW
    have HW := hide HW
    go_enter Tryz.func28, Tryz.ntmps28
    have B0 : Below w.heap.size w (w.alloc (.cells #[.int .i64 0, .string ⟨#[]⟩, .int .i64 0, .int .i64 0] 34)) := (Below.refl _ _).alloc (Nat.le_refl _) _
    have D0 := Blk.new w 34 #[.int .i64 0, .string ⟨#[]⟩, .int .i64 0, .int .i64 0]
    go_wp2_with fail
    refine (from_any 97 122 _).mono ?_
    rintro e x1 ⟨⟨v1, rfl, hv1⟩, hb1⟩
    obtain ⟨g1, lb1, rfl, eg1, hcl1⟩ := hv1
    have hcc1 := hcl1 c x1 (Below.refl _ _)
    rw [show inB 97 122 c = false from H1.out] at hcc1
    have HCC1 := hide hcc1
    clear hcl1 hcc1
    have B1 := B0.trans (hb1.mono B0.size)
    have D1 := D0.below hb1 D0.lt
    clear hb1
    go_wp2_with (refine HCC1.out.mono ?_; rintro e y1 ⟨rfl, hd1⟩)
    have C1 := B1.trans (hd1.mono B1.size)
    have E1 := D1.below hd1 D1.lt
    clear hd1
    go_wp2_with fail
    refine (from_any 48 57 _).mono ?_
    rintro e x2 ⟨⟨v2, rfl, hv2⟩, hb2⟩
    obtain ⟨g2, lb2, rfl, eg2, hcl2⟩ := hv2
    have hcc2 := hcl2 c x2 (Below.refl _ _)
    rw [show inB 48 57 c = true from H2.out] at hcc2
    have HCC2 := hide hcc2
    clear hcl2 hcc2
    have B2 := C1.trans (hb2.mono C1.size)
    have D2 := E1.below hb2 E1.lt
    clear hb2
    go_wp2_with (refine HCC2.out.mono ?_; rintro e y2 ⟨rfl, hd2⟩)
    have C2 := B2.trans (hd2.mono B2.size)
    have E2 := D2.below hd2 D2.lt
    clear hd2
    go_wp2_with (go_at_call 57; refine (HW.out _).mono ?_; rintro e z ⟨rfl, hz⟩; have B9 := C2.trans (hz.mono C2.size); have D9 := E2.below hz E2.lt; clear hz; have d0 := D9.cell 0; have d1 := D9.cell 1; have d2 := D9.cell 2; have d3 := D9.cell 3; have f0 := D9.frozen 0; have f1 := D9.frozen 1; have f2 := D9.frozen 2; have f3 := D9.frozen 3; have eZ := D9.lt; simp at d0 d1 d2 d3)
    refine bodyPost_ret (v := .tuple #[.agg #[.int .i64 tk, .string tt, .int .i64 tn, .int .i64 tp], .int .i64 er]) (by simp [results, Tryz.results28, go_sem, *]) rfl ⟨by rw [HT.out]; rfl, ?_⟩
    repeat (first | (with_reducible exact B9) | (with_reducible refine Below.setCell ?_ (by simp <;> omega) _))
  by_cases h3 : c = 59 ∨ c = 44
  · have HT := hide (show tokT s = (⟨4, s.extract 0 1, 0, 0⟩, 0) by rw [HTK, if_neg (by simp [h1]), if_neg (by simp [h2]), if_pos h3])
    have H1 := hide (show inB 97 122 c = false from h1)
    have H2 := hide (show inB 48 57 c = false from h2)
    have H3 := hide (show (fun c => ((⟨#[59, 44]⟩ : ByteArray) : ByteArray).data.toList.contains c) c = true by show ((⟨#[59, 44]⟩ : ByteArray) : ByteArray).data.toList.contains c = true; rw [symC_any]; simp [h3])
    clear HTK h1 h2 h3
    go_enter Tryz.func28, Tryz.ntmps28
    have B0 : Below w.heap.size w (w.alloc (.cells #[.int .i64 0, .string ⟨#[]⟩, .int .i64 0, .int .i64 0] 34)) := (Below.refl _ _).alloc (Nat.le_refl _) _
    have D0 := Blk.new w 34 #[.int .i64 0, .string ⟨#[]⟩, .int .i64 0, .int .i64 0]
    go_wp2_with fail
    refine (from_any 97 122 _).mono ?_
    rintro e x1 ⟨⟨v1, rfl, hv1⟩, hb1⟩
    obtain ⟨g1, lb1, rfl, eg1, hcl1⟩ := hv1
    have hcc1 := hcl1 c x1 (Below.refl _ _)
    rw [show inB 97 122 c = false from H1.out] at hcc1
    have HCC1 := hide hcc1
    clear hcl1 hcc1
    have B1 := B0.trans (hb1.mono B0.size)
    have D1 := D0.below hb1 D0.lt
    clear hb1
    go_wp2_with (refine HCC1.out.mono ?_; rintro e y1 ⟨rfl, hd1⟩)
    have C1 := B1.trans (hd1.mono B1.size)
    have E1 := D1.below hd1 D1.lt
    clear hd1
    go_wp2_with fail
    refine (from_any 48 57 _).mono ?_
    rintro e x2 ⟨⟨v2, rfl, hv2⟩, hb2⟩
    obtain ⟨g2, lb2, rfl, eg2, hcl2⟩ := hv2
    have hcc2 := hcl2 c x2 (Below.refl _ _)
    rw [show inB 48 57 c = false from H2.out] at hcc2
    have HCC2 := hide hcc2
    clear hcl2 hcc2
    have B2 := C1.trans (hb2.mono C1.size)
    have D2 := E1.below hb2 E1.lt
    clear hb2
    go_wp2_with (refine HCC2.out.mono ?_; rintro e y2 ⟨rfl, hd2⟩)
    have C2 := B2.trans (hd2.mono B2.size)
    have E2 := D2.below hd2 D2.lt
    clear hd2
    go_wp2_with fail
    refine (among_any (⟨#[59, 44]⟩ : ByteArray) _).mono ?_
    rintro e x3 ⟨⟨v3, rfl, hv3⟩, hb3⟩
    obtain ⟨g3, lb3, rfl, eg3, hcl3⟩ := hv3
    have hcc3 := hcl3 c x3 (Below.refl _ _)
    rw [show (fun c => ((⟨#[59, 44]⟩ : ByteArray) : ByteArray).data.toList.contains c) c = true from H3.out] at hcc3
    have HCC3 := hide hcc3
    clear hcl3 hcc3
    have B3 := C2.trans (hb3.mono C2.size)
    have D3 := E2.below hb3 E2.lt
    clear hb3
    go_wp2_with (refine HCC3.out.mono ?_; rintro e y3 ⟨rfl, hd3⟩; have B9 := B3.trans (hd3.mono B3.size); have D9 := D3.below hd3 D3.lt; clear hd3; have d0 := D9.cell 0; have d1 := D9.cell 1; have d2 := D9.cell 2; have d3 := D9.cell 3; have f0 := D9.frozen 0; have f1 := D9.frozen 1; have f2 := D9.frozen 2; have f3 := D9.frozen 3; have eZ := D9.lt; simp at d0 d1 d2 d3)
    refine bodyPost_ret (v := .tuple #[.agg #[.int .i64 4, .string (s.extract 0 1), .int .i64 0, .int .i64 0], .int .i64 0]) (by simp [results, Tryz.results28, go_sem, *]) rfl ⟨by rw [HT.out]; rfl, ?_⟩
    repeat (first | (with_reducible exact B9) | (with_reducible refine Below.setCell ?_ (by simp <;> omega) _))
  · have HT := hide (show tokT s = (noTok, 3) by rw [HTK, if_neg (by simp [h1]), if_neg (by simp [h2]), if_neg h3])
    have H1 := hide (show inB 97 122 c = false from h1)
    have H2 := hide (show inB 48 57 c = false from h2)
    have H3 := hide (show (fun c => ((⟨#[59, 44]⟩ : ByteArray) : ByteArray).data.toList.contains c) c = false by show ((⟨#[59, 44]⟩ : ByteArray) : ByteArray).data.toList.contains c = false; rw [symC_any]; simp [h3])
    clear HTK h1 h2 h3
    go_enter Tryz.func28, Tryz.ntmps28
    have B0 : Below w.heap.size w (w.alloc (.cells #[.int .i64 0, .string ⟨#[]⟩, .int .i64 0, .int .i64 0] 34)) := (Below.refl _ _).alloc (Nat.le_refl _) _
    have D0 := Blk.new w 34 #[.int .i64 0, .string ⟨#[]⟩, .int .i64 0, .int .i64 0]
    go_wp2_with fail
    refine (from_any 97 122 _).mono ?_
    rintro e x1 ⟨⟨v1, rfl, hv1⟩, hb1⟩
    obtain ⟨g1, lb1, rfl, eg1, hcl1⟩ := hv1
    have hcc1 := hcl1 c x1 (Below.refl _ _)
    rw [show inB 97 122 c = false from H1.out] at hcc1
    have HCC1 := hide hcc1
    clear hcl1 hcc1
    have B1 := B0.trans (hb1.mono B0.size)
    have D1 := D0.below hb1 D0.lt
    clear hb1
    go_wp2_with (refine HCC1.out.mono ?_; rintro e y1 ⟨rfl, hd1⟩)
    have C1 := B1.trans (hd1.mono B1.size)
    have E1 := D1.below hd1 D1.lt
    clear hd1
    go_wp2_with fail
    refine (from_any 48 57 _).mono ?_
    rintro e x2 ⟨⟨v2, rfl, hv2⟩, hb2⟩
    obtain ⟨g2, lb2, rfl, eg2, hcl2⟩ := hv2
    have hcc2 := hcl2 c x2 (Below.refl _ _)
    rw [show inB 48 57 c = false from H2.out] at hcc2
    have HCC2 := hide hcc2
    clear hcl2 hcc2
    have B2 := C1.trans (hb2.mono C1.size)
    have D2 := E1.below hb2 E1.lt
    clear hb2
    go_wp2_with (refine HCC2.out.mono ?_; rintro e y2 ⟨rfl, hd2⟩)
    have C2 := B2.trans (hd2.mono B2.size)
    have E2 := D2.below hd2 D2.lt
    clear hd2
    go_wp2_with fail
    refine (among_any (⟨#[59, 44]⟩ : ByteArray) _).mono ?_
    rintro e x3 ⟨⟨v3, rfl, hv3⟩, hb3⟩
    obtain ⟨g3, lb3, rfl, eg3, hcl3⟩ := hv3
    have hcc3 := hcl3 c x3 (Below.refl _ _)
    rw [show (fun c => ((⟨#[59, 44]⟩ : ByteArray) : ByteArray).data.toList.contains c) c = false from H3.out] at hcc3
    have HCC3 := hide hcc3
    clear hcl3 hcc3
    have B3 := C2.trans (hb3.mono C2.size)
    have D3 := E2.below hb3 E2.lt
    clear hb3
    go_wp2_with (refine HCC3.out.mono ?_; rintro e y3 ⟨rfl, hd3⟩; have B9 := B3.trans (hd3.mono B3.size); have D9 := D3.below hd3 D3.lt; clear hd3; have d0 := D9.cell 0; have d1 := D9.cell 1; have d2 := D9.cell 2; have d3 := D9.cell 3; have f0 := D9.frozen 0; have f1 := D9.frozen 1; have f2 := D9.frozen 2; have f3 := D9.frozen 3; have eZ := D9.lt; simp at d0 d1 d2 d3)
    refine bodyPost_ret (v := .tuple #[.agg #[.int .i64 0, .string ⟨#[]⟩, .int .i64 0, .int .i64 0], .int .i64 3]) (by simp [results, Tryz.results28, go_sem, *]) rfl ⟨by rw [HT.out]; rfl, ?_⟩
    repeat (first | (with_reducible exact B9) | (with_reducible refine Below.setCell ?_ (by simp <;> omega) _))
end Go.Proofs.YtanhkeeifnimgaaGreatDoor
