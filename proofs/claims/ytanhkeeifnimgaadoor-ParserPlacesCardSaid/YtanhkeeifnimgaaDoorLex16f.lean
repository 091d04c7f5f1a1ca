/- The walk of package lexer's token. Conditions: lengths that fit memory; the tables are laid. The walk of package lexer's Scan. Conditions: lengths that fit memory; the tables are laid. -/
import Derived.Test.YtanhkeeifnimgaaDoorLex16d

namespace Go.Proofs.YtanhkeeifnimgaaDoor
open Go Go.RowKit Go.Proofs

theorem symC_any (c : UInt8) : ((⟨#[59, 44]⟩ : ByteArray) : ByteArray).data.toList.contains c = decide (c = 59 ∨ c = 44) := by
  rw [Bool.eq_iff_iff]; simp

set_option maxRecDepth 100000 in
set_option maxHeartbeats 4000000 in
theorem token_any (s : ByteArray) (w : World) (ha : Asc w) (hs : s.size ≤ 9223372036854775807) (h0 : 0 < s.size) :
    Calls Tryd.prog 51 #[.string s] w (TokRet (tokT s) w) := by
  have HA := hide ha
  clear ha
  have hcons : ∃ t, s.data.toList = s[0] :: t := by
    have : s.data.toList.head? = some s[0] := head_of h0 rfl
    cases h : s.data.toList with
    | nil => rw [h] at this; cases this
    | cons a t => rw [h] at this; exact ⟨t, by rw [Option.some.inj this]⟩
  obtain ⟨t, ht⟩ := hcons
  have HTK : tokT s = if letC s[0] then wordT s else if digC s[0] then numT s else if s[0] = 59 ∨ s[0] = 44 then (⟨4, s.extract 0 1, 0, 0⟩, 0) else (noTok, 3) := by
    unfold tokT; rw [ht]
  clear ht
  -- CASES
  have h0I : (0 : Int) < (s.size : Int) := by omega
  have h1I : (1 : Int) ≤ (s.size : Int) := by omega
  generalize hc : s[0] = c at HTK
  cases h1 : letC c
  rotate_left
  · have HR := hide (show tokT s = wordT s by rw [HTK, if_pos h1])
    have H1 := hide (show inB 97 122 c = true from h1)
    clear HTK h1
    have HW := (fun (X : World) (ha : Asc X) => word_any s X ha hs)
    generalize wordT s = r at HR HW
    obtain ⟨⟨tk, tt, tn, tp⟩, er⟩ := r
    have HT := HR
    have HW : ∀ (X : World), Asc X → Calls Tryd.prog 107 #[.string s] X (fun e w' => e = .returned (.tuple #[.agg #[.int .i64 tk, .string tt, .int .i64 tn, .int .i64 tp], .int .i64 er]) ∧ Below X.heap.size X w') := HW
    have HW := hide HW
    go_enter Tryd.func51, Tryd.ntmps51
    have B0 : Below w.heap.size w (w.alloc (.cells #[.int .i64 0, .string ⟨#[]⟩, .int .i64 0, .int .i64 0] 33)) := (Below.refl _ _).alloc (Nat.le_refl _) _
    have D0 := Blk.new w 33 #[.int .i64 0, .string ⟨#[]⟩, .int .i64 0, .int .i64 0]
    go_wp2_with fail
    refine (from_any 97 122 _).mono ?_
    rintro e x1 ⟨⟨v1, rfl, hv1⟩, hb1⟩
    obtain ⟨g1, lb1, rfl, eg1, hcl1⟩ := hv1
    have hcc1 := hcl1 c x1 (Below.refl _ _)
    rw [show inB 97 122 c = true from H1.out] at hcc1
    have HCC1 := hide hcc1
    clear hcl1 hcc1
    have B1 := B0.trans (hb1.mono B0.size)
    have D1 := D0.below hb1 D0.lt
    clear hb1
    go_wp2_with (refine HCC1.out.mono ?_; rintro e y1 ⟨rfl, hd1⟩)
    have C1 := B1.trans (hd1.mono B1.size)
    have E1 := D1.below hd1 D1.lt
    clear hd1
    go_wp2_with (go_at_call 107; refine (HW.out _ (Asc.below HA.out (Nat.le_refl _) C1)).mono ?_; rintro e z ⟨rfl, hz⟩; have B9 := C1.trans (hz.mono C1.size); have D9 := E1.below hz E1.lt; clear hz; have d0 := D9.cell 0; have d1 := D9.cell 1; have d2 := D9.cell 2; have d3 := D9.cell 3; have f0 := D9.frozen 0; have f1 := D9.frozen 1; have f2 := D9.frozen 2; have f3 := D9.frozen 3; have eZ := D9.lt; simp at d0 d1 d2 d3)
    refine bodyPost_ret (v := .tuple #[.agg #[.int .i64 tk, .string tt, .int .i64 tn, .int .i64 tp], .int .i64 er]) (by simp [results, Tryd.results51, go_sem, *]) rfl ⟨by rw [HT.out]; rfl, ?_⟩
    repeat (first | (with_reducible exact B9) | (with_reducible refine Below.setCell ?_ (by simp <;> omega) _))
  cases h2 : digC c
  rotate_left
  · have HR := hide (show tokT s = numT s by rw [HTK, if_neg (by simp [h1]), if_pos h2])
    have H1 := hide (show inB 97 122 c = false from h1)
    have H2 := hide (show inB 48 57 c = true from h2)
    clear HTK h1 h2
    have HW := (fun (X : World) => lexNumber_any s X hs)
    generalize numT s = r at HR HW
    obtain ⟨⟨tk, tt, tn, tp⟩, er⟩ := r
    have HT := HR
    have HW : ∀ (X : World), Calls Tryd.prog 108 #[.string s] X (fun e w' => e = .returned (.tuple #[.agg #[.int .i64 tk, .string tt, .int .i64 tn, .int .i64 tp], .int .i64 er]) ∧ Below X.heap.size X w') := HW
    have HW := hide HW
    go_enter Tryd.func51, Tryd.ntmps51
    have B0 : Below w.heap.size w (w.alloc (.cells #[.int .i64 0, .string ⟨#[]⟩, .int .i64 0, .int .i64 0] 33)) := (Below.refl _ _).alloc (Nat.le_refl _) _
    have D0 := Blk.new w 33 #[.int .i64 0, .string ⟨#[]⟩, .int .i64 0, .int .i64 0]
    go_wp2_with fail
    refine (from_any 97 122 _).mono ?_
    rintro e x1 ⟨⟨v1, rfl, hv1⟩, hb1⟩
    obtain ⟨g1, lb1, rfl, eg1, hcl1⟩ := hv1
    have hcc1 := hcl1 c x1 (Below.refl _ _)
    rw [show inB 97 122 c = false from H1.out] at hcc1
    have HCC1 := hide hcc1
    clear hcl1 hcc1
    have B1 := B0.trans (hb1.mono B0.size)
    have D1 := D0.below hb1 D0.lt
    clear hb1
    go_wp2_with (refine HCC1.out.mono ?_; rintro e y1 ⟨rfl, hd1⟩)
    have C1 := B1.trans (hd1.mono B1.size)
    have E1 := D1.below hd1 D1.lt
    clear hd1
    go_wp2_with fail
    refine (from_any 48 57 _).mono ?_
    rintro e x2 ⟨⟨v2, rfl, hv2⟩, hb2⟩
    obtain ⟨g2, lb2, rfl, eg2, hcl2⟩ := hv2
    have hcc2 := hcl2 c x2 (Below.refl _ _)
    rw [show inB 48 57 c = true from H2.out] at hcc2
    have HCC2 := hide hcc2
    clear hcl2 hcc2
    have B2 := C1.trans (hb2.mono C1.size)
    have D2 := E1.below hb2 E1.lt
    clear hb2
    go_wp2_with (refine HCC2.out.mono ?_; rintro e y2 ⟨rfl, hd2⟩)
    have C2 := B2.trans (hd2.mono B2.size)
    have E2 := D2.below hd2 D2.lt
    clear hd2
    go_wp2_with (go_at_call 108; refine (HW.out _).mono ?_; rintro e z ⟨rfl, hz⟩; have B9 := C2.trans (hz.mono C2.size); have D9 := E2.below hz E2.lt; clear hz; have d0 := D9.cell 0; have d1 := D9.cell 1; have d2 := D9.cell 2; have d3 := D9.cell 3; have f0 := D9.frozen 0; have f1 := D9.frozen 1; have f2 := D9.frozen 2; have f3 := D9.frozen 3; have eZ := D9.lt; simp at d0 d1 d2 d3)
    refine bodyPost_ret (v := .tuple #[.agg #[.int .i64 tk, .string tt, .int .i64 tn, .int .i64 tp], .int .i64 er]) (by simp [results, Tryd.results51, go_sem, *]) rfl ⟨by rw [HT.out]; rfl, ?_⟩
    repeat (first | (with_reducible exact B9) | (with_reducible refine Below.setCell ?_ (by simp <;> omega) _))
  by_cases h3 : c = 59 ∨ c = 44
  · have HT := hide (show tokT s = (⟨4, s.extract 0 1, 0, 0⟩, 0) by rw [HTK, if_neg (by simp [h1]), if_neg (by simp [h2]), if_pos h3])
    have H1 := hide (show inB 97 122 c = false from h1)
    have H2 := hide (show inB 48 57 c = false from h2)
    have H3 := hide (show (fun c => ((⟨#[59, 44]⟩ : ByteArray) : ByteArray).data.toList.contains c) c = true by show ((⟨#[59, 44]⟩ : ByteArray) : ByteArray).data.toList.contains c = true; rw [symC_any]; simp [h3])
    clear HTK h1 h2 h3
    go_enter Tryd.func51, Tryd.ntmps51
    have B0 : Below w.heap.size w (w.alloc (.cells #[.int .i64 0, .string ⟨#[]⟩, .int .i64 0, .int .i64 0] 33)) := (Below.refl _ _).alloc (Nat.le_refl _) _
    have D0 := Blk.new w 33 #[.int .i64 0, .string ⟨#[]⟩, .int .i64 0, .int .i64 0]
    go_wp2_with fail
    refine (from_any 97 122 _).mono ?_
    rintro e x1 ⟨⟨v1, rfl, hv1⟩, hb1⟩
    obtain ⟨g1, lb1, rfl, eg1, hcl1⟩ := hv1
    have hcc1 := hcl1 c x1 (Below.refl _ _)
    rw [show inB 97 122 c = false from H1.out] at hcc1
    have HCC1 := hide hcc1
    clear hcl1 hcc1
    have B1 := B0.trans (hb1.mono B0.size)
    have D1 := D0.below hb1 D0.lt
    clear hb1
    go_wp2_with (refine HCC1.out.mono ?_; rintro e y1 ⟨rfl, hd1⟩)
    have C1 := B1.trans (hd1.mono B1.size)
    have E1 := D1.below hd1 D1.lt
    clear hd1
    go_wp2_with fail
    refine (from_any 48 57 _).mono ?_
    rintro e x2 ⟨⟨v2, rfl, hv2⟩, hb2⟩
    obtain ⟨g2, lb2, rfl, eg2, hcl2⟩ := hv2
    have hcc2 := hcl2 c x2 (Below.refl _ _)
    rw [show inB 48 57 c = false from H2.out] at hcc2
    have HCC2 := hide hcc2
    clear hcl2 hcc2
    have B2 := C1.trans (hb2.mono C1.size)
    have D2 := E1.below hb2 E1.lt
    clear hb2
    go_wp2_with (refine HCC2.out.mono ?_; rintro e y2 ⟨rfl, hd2⟩)
    have C2 := B2.trans (hd2.mono B2.size)
    have E2 := D2.below hd2 D2.lt
    clear hd2
    go_wp2_with fail
    refine (among_any (⟨#[59, 44]⟩ : ByteArray) _).mono ?_
    rintro e x3 ⟨⟨v3, rfl, hv3⟩, hb3⟩
    obtain ⟨g3, lb3, rfl, eg3, hcl3⟩ := hv3
    have hcc3 := hcl3 c x3 (Below.refl _ _)
    rw [show (fun c => ((⟨#[59, 44]⟩ : ByteArray) : ByteArray).data.toList.contains c) c = true from H3.out] at hcc3
    have HCC3 := hide hcc3
    clear hcl3 hcc3
    have B3 := C2.trans (hb3.mono C2.size)
    have D3 := E2.below hb3 E2.lt
    clear hb3
    go_wp2_with (refine HCC3.out.mono ?_; rintro e y3 ⟨rfl, hd3⟩; have B9 := B3.trans (hd3.mono B3.size); have D9 := D3.below hd3 D3.lt; clear hd3; have d0 := D9.cell 0; have d1 := D9.cell 1; have d2 := D9.cell 2; have d3 := D9.cell 3; have f0 := D9.frozen 0; have f1 := D9.frozen 1; have f2 := D9.frozen 2; have f3 := D9.frozen 3; have eZ := D9.lt; simp at d0 d1 d2 d3)
    refine bodyPost_ret (v := .tuple #[.agg #[.int .i64 4, .string (s.extract 0 1), .int .i64 0, .int .i64 0], .int .i64 0]) (by simp [results, Tryd.results51, go_sem, *]) rfl ⟨by rw [HT.out]; rfl, ?_⟩
    repeat (first | (with_reducible exact B9) | (with_reducible refine Below.setCell ?_ (by simp <;> omega) _))
  · have HT := hide (show tokT s = (noTok, 3) by rw [HTK, if_neg (by simp [h1]), if_neg (by simp [h2]), if_neg h3])
    have H1 := hide (show inB 97 122 c = false from h1)
    have H2 := hide (show inB 48 57 c = false from h2)
    have H3 := hide (show (fun c => ((⟨#[59, 44]⟩ : ByteArray) : ByteArray).data.toList.contains c) c = false by show ((⟨#[59, 44]⟩ : ByteArray) : ByteArray).data.toList.contains c = false; rw [symC_any]; simp [h3])
    clear HTK h1 h2 h3
    go_enter Tryd.func51, Tryd.ntmps51
    have B0 : Below w.heap.size w (w.alloc (.cells #[.int .i64 0, .string ⟨#[]⟩, .int .i64 0, .int .i64 0] 33)) := (Below.refl _ _).alloc (Nat.le_refl _) _
    have D0 := Blk.new w 33 #[.int .i64 0, .string ⟨#[]⟩, .int .i64 0, .int .i64 0]
    go_wp2_with fail
    refine (from_any 97 122 _).mono ?_
    rintro e x1 ⟨⟨v1, rfl, hv1⟩, hb1⟩
    obtain ⟨g1, lb1, rfl, eg1, hcl1⟩ := hv1
    have hcc1 := hcl1 c x1 (Below.refl _ _)
    rw [show inB 97 122 c = false from H1.out] at hcc1
    have HCC1 := hide hcc1
    clear hcl1 hcc1
    have B1 := B0.trans (hb1.mono B0.size)
    have D1 := D0.below hb1 D0.lt
    clear hb1
    go_wp2_with (refine HCC1.out.mono ?_; rintro e y1 ⟨rfl, hd1⟩)
    have C1 := B1.trans (hd1.mono B1.size)
    have E1 := D1.below hd1 D1.lt
    clear hd1
    go_wp2_with fail
    refine (from_any 48 57 _).mono ?_
    rintro e x2 ⟨⟨v2, rfl, hv2⟩, hb2⟩
    obtain ⟨g2, lb2, rfl, eg2, hcl2⟩ := hv2
    have hcc2 := hcl2 c x2 (Below.refl _ _)
    rw [show inB 48 57 c = false from H2.out] at hcc2
    have HCC2 := hide hcc2
    clear hcl2 hcc2
    have B2 := C1.trans (hb2.mono C1.size)
    have D2 := E1.below hb2 E1.lt
    clear hb2
    go_wp2_with (refine HCC2.out.mono ?_; rintro e y2 ⟨rfl, hd2⟩)
    have C2 := B2.trans (hd2.mono B2.size)
    have E2 := D2.below hd2 D2.lt
    clear hd2
    go_wp2_with fail
    refine (among_any (⟨#[59, 44]⟩ : ByteArray) _).mono ?_
    rintro e x3 ⟨⟨v3, rfl, hv3⟩, hb3⟩
    obtain ⟨g3, lb3, rfl, eg3, hcl3⟩ := hv3
    have hcc3 := hcl3 c x3 (Below.refl _ _)
    rw [show (fun c => ((⟨#[59, 44]⟩ : ByteArray) : ByteArray).data.toList.contains c) c = false from H3.out] at hcc3
    have HCC3 := hide hcc3
    clear hcl3 hcc3
    have B3 := C2.trans (hb3.mono C2.size)
    have D3 := E2.below hb3 E2.lt
    clear hb3
    go_wp2_with (refine HCC3.out.mono ?_; rintro e y3 ⟨rfl, hd3⟩; have B9 := B3.trans (hd3.mono B3.size); have D9 := D3.below hd3 D3.lt; clear hd3; have d0 := D9.cell 0; have d1 := D9.cell 1; have d2 := D9.cell 2; have d3 := D9.cell 3; have f0 := D9.frozen 0; have f1 := D9.frozen 1; have f2 := D9.frozen 2; have f3 := D9.frozen 3; have eZ := D9.lt; simp at d0 d1 d2 d3)
    refine bodyPost_ret (v := .tuple #[.agg #[.int .i64 0, .string ⟨#[]⟩, .int .i64 0, .int .i64 0], .int .i64 3]) (by simp [results, Tryd.results51, go_sem, *]) rfl ⟨by rw [HT.out]; rfl, ?_⟩
    repeat (first | (with_reducible exact B9) | (with_reducible refine Below.setCell ?_ (by simp <;> omega) _))
end Go.Proofs.YtanhkeeifnimgaaDoor

namespace Go.Proofs.YtanhkeeifnimgaaDoor
open Go Go.RowKit Go.Proofs

/-- a slice of tokens -/
def Toks (w : World) (B : Nat) (A : Option Addr) (l : List Tok) : Prop := Reads w B 4 A l.length (l.flatMap tokCells)
/-- a slice of tokens of the call's own -/
def OwnT (B : Nat) (w : World) (v : Value) (l : List Tok) : Prop := w.ownsRow B 33 4 v l.length (l.flatMap tokCells)
theorem infoT : (Tryd.prog.info? 33).map (fun i => (i.zero, i.size, i.bytes)) = some (some (.agg #[.int .i64 0, .string ⟨#[]⟩, .int .i64 0, .int .i64 0]), 4, 40) := by kernel_rfl
theorem OwnT.nil_ (B : Nat) (w : World) : OwnT B w (.slice none 0 0) [] := World.ownsRow_nil _ _ _ _
theorem OwnT.kept {B : Nat} {w w' : World} {v : Value} {l : List Tok} (h : OwnT B w v l) {row : Option Nat} (hg : w.grownBy w' row) (hne : v.ownBlock = none ∨ v.ownBlock ≠ row) : OwnT B w' v l := World.ownsRow.kept h hg hne
theorem OwnT.below {B : Nat} {w w' : World} {v : Value} {l : List Tok} (h : OwnT B w v l) (hb : Below w.heap.size w w') : OwnT B w' v l := by
  refine h.kept (grown_of_below hb none) ?_
  cases hv : v.ownBlock
  · exact .inl rfl
  · exact .inr (by simp)
theorem OwnT.alloc {B : Nat} {w : World} {v : Value} {l : List Tok} (h : OwnT B w v l) (o : Obj) : OwnT B (w.alloc o) v l := World.ownsRow.alloc h o
theorem OwnT.lt {B : Nat} {w : World} {v : Value} {l : List Tok} (h : OwnT B w v l) : ∀ k, v.ownBlock = some k → B ≤ k ∧ k < w.heap.size := World.ownsRow.lt h
theorem OwnT.form {B : Nat} {w : World} {v : Value} {l : List Tok} (h : OwnT B w v l) : ∃ A c, v = .slice A l.length c ∧ l.length ≤ c ∧ Toks w w.heap.size A l := by
  have h2 := h
  rcases h2.2 with ⟨rfl, h0⟩ | ⟨g, cap, cur, rfl, _, _, hc, _⟩
  · have : l = [] := List.eq_nil_of_length_eq_zero h0
    subst this
    exact ⟨none, 0, rfl, Nat.le_refl _, Reads.none_⟩
  · exact ⟨_, _, rfl, hc, Reads.of_own h⟩

theorem append_toks {ops : Array Oper} {rest : List Oper} {o : Oper} {a : Act} {Q : Exit → Act → World → Prop} {w : World} (hgd : o.guard = none) (s x : Operand)
    (ho : o.op = .call { callee := .builtin .append, args := #[s, x], argTypes := #[29, 29] })
    (base : Nat) (v : Value) (l : List Tok) (hs : a.eval s = v) (hown : OwnT base w v l)
    (B : Nat) (A : Option Addr) (c : Nat) (m : List Tok) (hx : a.eval x = .slice A m.length c) (hr : Toks w B A m)
    (hlen : l.length + m.length ≤ 1099511627776) (hbase : base ≤ w.heap.size)
    (h : ∀ v' w', OwnT base w' v' (l ++ m) → w.grownBy w' v.ownBlock → (v'.ownBlock = v.ownBlock ∨ v'.ownBlock = some w.heap.size) → wpList Tryd.prog ops Q rest (a.put o.dst v') w') : wpList Tryd.prog ops Q (o :: rest) a w := by
  obtain ⟨i0, hi, hz0, hz1, hz2⟩ := info_parts infoT
  refine wpList_plain hgd fun _ hK => wp_append_any w s x 29 ho base 33 i0 _ 4 40 Tryd.underlying29 hi hz0 hz1 hz2 rfl (by omega) v l.length (l.flatMap tokCells) hs hown B A m.length c (m.flatMap tokCells) hx hr ?_ ?_ ?_ hbase
    fun v' w' h2 h3 h4 => hK _ _ (h v' w' ?_ h3 h4)
  · intro u hu
    obtain ⟨y, _, hy⟩ := List.mem_flatMap.1 hu
    simp only [tokCells, List.mem_cons, List.not_mem_nil, or_false] at hy
    rcases hy with rfl | rfl | rfl | rfl <;> rfl
  · unfold maxLen; omega
  · omega
  · unfold OwnT; rw [List.flatMap_append, List.length_append]; exact h2
theorem Toks.new1 (w : World) (t : Tok) (T : TypeId) {b : Nat} (hb : b = w.heap.size) : Toks (w.alloc (.cells #[.int .i64 t.kind, .string t.text, .int .i64 t.n, .int .i64 t.pos] T)) (w.heap.size + 1) (some ⟨b, 0, none⟩) [t] := by
  subst hb
  exact Reads.newRow w #[.int .i64 t.kind, .string t.text, .int .i64 t.n, .int .i64 t.pos] T 1 4 rfl
/-- what Scan answers -/
def ScanP (r : List Tok × Int × Int) (w : World) (e : Ending) (w' : World) : Prop :=
  ∃ A c, e = .returned (.tuple #[.slice A r.1.length c, .int .i64 r.2.1, .int .i64 r.2.2]) ∧ r.1.length ≤ c ∧ Toks w' w'.heap.size A r.1 ∧ Below w.heap.size w w'
theorem scanP_no {w w' : World} (p e : Int) (h : Below w.heap.size w w') : ScanP ([], p, e) w (.returned (.tuple #[.slice none 0 0, .int .i64 p, .int .i64 e])) w' :=
  ⟨none, 0, rfl, Nat.le_refl _, Reads.none_, h⟩

set_option maxRecDepth 100000 in
set_option maxHeartbeats 4000000 in
theorem scan_any (s : ByteArray) (w : World) (ha : Asc w) (hs : s.size ≤ 9223372036854775807) :
    Calls Tryd.prog 26 #[.string s] w (ScanP (scanT s) w) := by
  have HA := hide ha
  clear ha
  by_cases hbig : 16384 < s.size
  · have HT := hide (show scanT s = ([], 0, 8) by unfold scanT; rw [if_pos hbig])
    have hbI : (16384 : Int) < (s.size : Int) := by omega
    go_enter Tryd.func26, Tryd.ntmps26
    go_wp2_with fail
    go_ret3
    rw [HT.out]
    exact scanP_no 0 8 (Below.refl _ _)
  have hbI : ¬ (16384 : Int) < (s.size : Int) := by omega
  have HS0 := hide (show scanT s = scanGo s (s.size + 1) (skipN s.data.toList) [] by unfold scanT; rw [if_neg hbig])
  have hk0 : skipN s.data.toList ≤ s.size := by have := skipN_le s.data.toList; simpa using this
  have HSK := hide (skip_any s w hs)
  go_enter Tryd.func26, Tryd.ntmps26
  go_wp2_with (go_at_call 50; refine HSK.out.mono ?_; rintro e w1 ⟨rfl, hb1⟩)
  go_loopw [5, 6] (fun v i wr => ∃ (k f : Nat) (l : List Tok), k ≤ s.size ∧ i = .int .i64 k ∧ OwnT w.heap.size wr v l ∧ l.length ≤ k ∧ s.size < f + k ∧ Below w.heap.size w wr ∧ Hid (scanT s = scanGo s f k l)) (fun _ i _ => s.size - (intOf i).toNat)
  case atStart => exact ⟨_, s.size + 1, [], hk0, rfl, OwnT.nil_ _ _, by simp, by omega, hb1, HS0⟩
  case round =>
    clear hb1
    obtain ⟨k, f, l, hk, rfl, hO, hlk, hf, hB, hsc⟩ := hrel
    obtain ⟨f', rfl⟩ : ∃ f', f = f' + 1 := ⟨f - 1, by omega⟩
    by_cases hlt : k < s.size
    · have hstep := hsc.out
      rw [scanGo, if_pos hlt] at hstep
      have hx0 : 0 < (s.extract k s.size).size := by rw [ByteArray.size_extract]; omega
      have hx1 : (s.extract k s.size).size ≤ 9223372036854775807 := by rw [ByteArray.size_extract]; omega
      have hx2 : (s.extract k s.size).size = s.size - k := by rw [ByteArray.size_extract]; omega
      have HT := (fun (X : World) (ha : Asc X) => token_any (s.extract k s.size) X ha hx1 hx0)
      have hts := tok_size hx0
      rw [hx2] at hts
      have hkI : (k : Int) ≤ (s.size : Int) := by omega
      have hkI2 : (k : Int) < (s.size : Int) := by omega
      clear hx0 hx1 hx2 hsc
      generalize tokT (s.extract k s.size) = r at HT hts hstep
      obtain ⟨⟨tk, tt, tn, tp⟩, er⟩ := r
      simp only at hts hstep
      have HT : ∀ (X : World), Asc X → Calls Tryd.prog 51 #[.string (s.extract k s.size)] X (fun e w' => e = .returned (.tuple #[.agg #[.int .i64 tk, .string tt, .int .i64 tn, .int .i64 tp], .int .i64 er]) ∧ Below X.heap.size X w') := HT
      have HT := hide HT
      by_cases her : er = 0
      · obtain ⟨ht1, ht2⟩ := hts her
        rw [if_neg (by simp [her])] at hstep
        have hsz3 : (s.extract (k + tt.size) s.size).size ≤ 9223372036854775807 := by rw [ByteArray.size_extract]; omega
        have HK := (fun (X : World) => skip_any (s.extract (k + tt.size) s.size) X hsz3)
        rw [Lib.extract_to_end] at HK
        have hkk : skipN (s.data.toList.drop (k + tt.size)) ≤ s.size - (k + tt.size) := by
          have := skipN_le (s.data.toList.drop (k + tt.size))
          simpa using this
        have HST := hide hstep
        generalize skipN (s.data.toList.drop (k + tt.size)) = m at HK hkk HST
        have HK := hide HK
        have herI : ((er : Int) != 0) = false := by simp [her]
        have w1 : IntKind.i64.wrap ((k : Int) + (tt.size : Int)) = (k : Int) + (tt.size : Int) := IntWalk.i64_in _ (by omega)
        have w2 : IntKind.i64.wrap ((k : Int) + (tt.size : Int) + (m : Int)) = (k : Int) + (tt.size : Int) + (m : Int) := IntWalk.i64_in _ (by omega)
        have w3 : ((k : Int) + (tt.size : Int)).toNat = k + tt.size := by omega
        have w4 : (k : Int) + (tt.size : Int) ≤ (s.size : Int) := by omega
        clear hstep hts hsz3 her
        have hlen : l.length + 1 ≤ 1099511627776 := by omega
        go_wp2_with (first
          | (go_at_call 51; refine (HT.out _ (Asc.below HA.out (Nat.le_refl _) hB)).mono ?_; rintro e z ⟨rfl, hz⟩; have B9 := hB.trans (hz.mono hB.size); have O9 := hO.below hz; clear hz)
          | (at_builtin; refine append_toks rfl _ _ rfl w.heap.size _ l rfl ((O9.alloc (.cells #[.int .i64 tk, .string tt, .int .i64 tn, .int .i64 k] 33)).alloc _) _ _ 1 [⟨tk, tt, tn, k⟩] rfl (Toks.new1 _ ⟨tk, tt, tn, k⟩ 33 (by simp)) hlen (by have := B9.size; simp; omega) ?_; intro v3 x3 hO3 hg3 _; have hg : ((z.alloc (.cells #[.int .i64 tk, .string tt, .int .i64 tn, .int .i64 k] 33)).alloc (.cells #[.int .i64 tk, .string tt, .int .i64 tn, .int .i64 k] 33)).grownBy x3 u5.ownBlock := hg3; have hlo := O9.lt; have hT1 := (((Blk.new z 33 #[.int .i64 tk, .string tt, .int .i64 tn, .int .i64 k]).alloc (.cells #[.int .i64 tk, .string tt, .int .i64 tn, .int .i64 k] 33)).grown hg (fun e => by have := (hlo _ e.symm).2; omega)).cell 1; have B3 := ((B9.alloc B9.size (.cells #[.int .i64 tk, .string tt, .int .i64 tn, .int .i64 k] 33)).alloc (Nat.le_trans B9.size (by simp)) (.cells #[.int .i64 tk, .string tt, .int .i64 tn, .int .i64 k] 33)).grown hg (Nat.le_trans B9.size (by simp; omega)) (fun q hq => (hlo q hq).1); simp at hT1; clear hg3 hg hlo)
          | (go_at_call 50; refine (HK.out _).mono ?_; rintro e x4 ⟨rfl, hb4⟩))
        refine ⟨⟨k + tt.size + m, f', l ++ [⟨tk, tt, tn, k⟩], by omega, by go_num, hO3.below hb4, by simp; omega, by omega, B3.trans (hb4.mono B3.size), HST⟩, by simp [intOf]; omega⟩
      · have HE := hide (show scanT s = ([], (k : Int), er) by rw [hstep, if_pos her])
        have herI : ((er : Int) != 0) = true := by simpa using her
        clear hstep hts her
        go_wp2_with (go_at_call 51; refine (HT.out _ (Asc.below HA.out (Nat.le_refl _) hB)).mono ?_; rintro e z ⟨rfl, hz⟩; have B9 := hB.trans (hz.mono hB.size); clear hz)
        go_ret3
        rw [HE.out]
        exact scanP_no _ _ (B9.alloc B9.size _)
    · have hstep := hsc.out
      rw [scanGo, if_neg hlt] at hstep
      have HE := hide hstep
      have hkI : ¬ (k : Int) < (s.size : Int) := by omega
      have hlen : l.length + 1 ≤ 1099511627776 := by omega
      clear hstep hsc
      go_wp2_with (at_builtin; refine append_toks rfl _ _ rfl w.heap.size _ l rfl (hO.alloc _) _ _ 1 [⟨0, ⟨#[]⟩, 0, s.size⟩] rfl (Toks.new1 _ ⟨0, ⟨#[]⟩, 0, s.size⟩ 33 rfl) hlen (by have := hB.size; simp; omega) ?_; intro v3 x3 hO3 hg3 _; have hg : (wr.alloc (.cells #[.int .i64 0, .string ⟨#[]⟩, .int .i64 0, .int .i64 s.size] 33)).grownBy x3 u5.ownBlock := hg3; have hlo := hO.lt; have B3 := (hB.alloc hB.size (.cells #[.int .i64 0, .string ⟨#[]⟩, .int .i64 0, .int .i64 s.size] 33)).grown hg (Nat.le_trans hB.size (by simp)) (fun q hq => (hlo q hq).1); clear hg3 hg hlo)
      go_ret3
      rw [HE.out]
      obtain ⟨A, c, rfl, hc, hA⟩ := hO3.form
      exact ⟨A, c, rfl, hc, hA, B3⟩
end Go.Proofs.YtanhkeeifnimgaaDoor
