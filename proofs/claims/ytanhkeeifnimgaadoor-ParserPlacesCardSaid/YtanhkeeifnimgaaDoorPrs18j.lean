/- The walks of package parser: the closures over the rules, slices.IndexFunc and ContainsFunc at rules, beyond. Conditions: none. The walk of parser.decl. Conditions: lengths that fit memory. The walk of parser.decl, the way with a rule. Conditions: lengths that fit memory. -/
import Derived.Test.YtanhkeeifnimgaaDoorPrs18g

namespace Go.Proofs.YtanhkeeifnimgaaDoor
open Go Go.RowKit Go.Proofs

set_option maxRecDepth 100000 in
set_option maxHeartbeats 2000000 in
theorem is_beyond (t : Tok) (bt : Nat) (r : ByteArray × Int × List Part) (A : Option Addr) (n c : Nat) (W : World) (hb : bt < W.heap.size)
    (h0 : W.cell? ⟨bt, 0, none⟩ = some (.int .i64 t.kind)) (h1 : W.cell? ⟨bt, 1, none⟩ = some (.string t.text)) :
    Calls Tryd.prog 54 #[.agg #[.string r.1, .int .i64 r.2.1, .slice A n c], .pointer (some ⟨bt, 0, none⟩)] W fun e w' => e = .returned (.bool (isRule t r)) ∧ Below W.heap.size W w' := by
  obtain ⟨tk, tt, tn, tp⟩ := t
  obtain ⟨w, k, ps⟩ := r
  simp only at h0 h1
  have hB : Below W.heap.size W (W.alloc (.cells #[.string w, .int .i64 k, .slice A n c] 85)) := (Below.refl _ _).alloc (Nat.le_refl _) _
  by_cases hk : tk = 2
  · have b0 : ((tk : Int) == 2) = true := by simp [hk]
    have hq := hide (toList_beq w tt)
    have HI := hide (show isRule ⟨tk, tt, tn, tp⟩ (w, k, ps) = decide (w = tt) by simp [isRule, hk])
    clear hk
    go_enter Tryd.func54, Tryd.ntmps54
    go_wp2_with fail
    go_ret
    exact ⟨ret_congr (by rw [HI.out, ← hq.out]; rfl), hB⟩
  · have b0 : ((tk : Int) == 2) = false := by simpa using hk
    have HI := hide (show isRule ⟨tk, tt, tn, tp⟩ (w, k, ps) = false by simp [isRule, hk])
    clear hk
    go_enter Tryd.func54, Tryd.ntmps54
    go_wp2_with fail
    go_ret
    exact ⟨ret_congr (by rw [HI.out]; rfl), hB⟩

set_option maxRecDepth 100000 in
set_option maxHeartbeats 2000000 in
theorem is_decl (t : Tok) (bt : Nat) (r : ByteArray × Int × List Part) (A : Option Addr) (n c : Nat) (W : World) (hb : bt < W.heap.size)
    (h0 : W.cell? ⟨bt, 0, none⟩ = some (.int .i64 t.kind)) (h1 : W.cell? ⟨bt, 1, none⟩ = some (.string t.text)) :
    Calls Tryd.prog 56 #[.agg #[.string r.1, .int .i64 r.2.1, .slice A n c], .pointer (some ⟨bt, 0, none⟩)] W fun e w' => e = .returned (.bool (isRule t r)) ∧ Below W.heap.size W w' := by
  obtain ⟨tk, tt, tn, tp⟩ := t
  obtain ⟨w, k, ps⟩ := r
  simp only at h0 h1
  have hB : Below W.heap.size W (W.alloc (.cells #[.string w, .int .i64 k, .slice A n c] 85)) := (Below.refl _ _).alloc (Nat.le_refl _) _
  by_cases hk : tk = 2
  · have b0 : ((tk : Int) == 2) = true := by simp [hk]
    have hq := hide (toList_beq w tt)
    have HI := hide (show isRule ⟨tk, tt, tn, tp⟩ (w, k, ps) = decide (w = tt) by simp [isRule, hk])
    clear hk
    go_enter Tryd.func56, Tryd.ntmps56
    go_wp2_with fail
    go_ret
    exact ⟨ret_congr (by rw [HI.out, ← hq.out]; rfl), hB⟩
  · have b0 : ((tk : Int) == 2) = false := by simpa using hk
    have HI := hide (show isRule ⟨tk, tt, tn, tp⟩ (w, k, ps) = false by simp [isRule, hk])
    clear hk
    go_enter Tryd.func56, Tryd.ntmps56
    go_wp2_with fail
    go_ret
    exact ⟨ret_congr (by rw [HI.out]; rfl), hB⟩

set_option maxRecDepth 100000 in
set_option maxHeartbeats 2000000 in
theorem indexFunc_rules (g : Nat) (bt : Nat) (t : Tok) (eg : ∀ args w, (callFunc g args).run Tryd.prog w = .ok (.enter g args) w) (bp : Nat) (A : Option Addr) (c : Nat) (w : World) (h : RulesV w bp A)
    (hp : ∀ (r : ByteArray × Int × List Part) (A2 : Option Addr) (n2 c2 : Nat) (W : World), Below w.heap.size w W → Calls Tryd.prog g #[.agg #[.string r.1, .int .i64 r.2.1, .slice A2 n2 c2], .pointer (some ⟨bt, 0, none⟩)] W fun e w' => e = .returned (.bool (isRule t r)) ∧ Below W.heap.size W w') :
    Calls Tryd.prog 55 #[.slice A 17 c, .func (.func g) #[] #[.pointer (some ⟨bt, 0, none⟩)]] w fun e w' => e = .returned (.int .i64 (firstI (isRule t) rulesT)) ∧ Below w.heap.size w w' := by
  have HP := hide hp; clear hp
  have H17 := hide (show rulesT.length = 17 from rfl)
  go_enter Tryd.func55, Tryd.ntmps55
  go_wp2_with fail
  go_loopw [8] (fun i wr => ∃ k : Nat, k ≤ 17 ∧ i = .int .i64 k ∧ Below w.heap.size w wr ∧ Hid (∀ j (hj : j < rulesT.length), j < k → isRule t rulesT[j] = false)) (fun i _ => 17 - (intOf i).toNat)
  case atStart => exact ⟨0, Nat.zero_le _, rfl, Below.refl _ _, hide fun j hj h0 => absurd h0 (by omega)⟩
  case round =>
    obtain ⟨k, hk, rfl, hbr, hs⟩ := hrel
    by_cases hlt : k < 17
    · have hlt2 : k < rulesT.length := by rw [H17.out]; exact hlt
      obtain ⟨b, off, V, rfl, hb, hbn, hrow, y0, y1, y2⟩ := (h.but (But.ofBelow hbr)).at_ hlt2
      obtain ⟨A2, c2, vs, rfl, _⟩ := hrow
      generalize hrr : rulesT[k] = r at y0 y1 y2
      have hcall := HP.out r A2 r.2.2.length c2 wr hbr
      cases hx : isRule t r
      · rw [hx] at hcall
        have HCL := hide hcall
        have HX := hide (show isRule t rulesT[k] = false by rw [hrr]; exact hx)
        clear hcall hx hrr
        go_wp2_with (refine HCL.out.mono ?_; rintro e w1 ⟨rfl, hb1⟩)
        go_roundw
        case rel => exact ⟨k + 1, by omega, by go_num, hbr.trans (hb1.mono hbr.size), hide fun j hj h1 => by
          rcases Nat.lt_or_ge j k with h2 | h2
          · exact hs.out j hj h2
          · obtain rfl : j = k := by omega
            exact HX.out⟩
        case measure => simp [intOf]; omega
      · rw [hx] at hcall
        have HCL := hide hcall
        have HF := hide (firstI_at (p := isRule t) hlt2 (by rw [hrr]; exact hx) hs.out)
        clear hcall hx hrr
        go_wp2_with (refine HCL.out.mono ?_; rintro e w1 ⟨rfl, hb1⟩)
        go_ret
        exact ⟨ret_congr (by rw [HF.out]; rfl), hbr.trans (hb1.mono hbr.size)⟩
    · have HF := hide (firstI_none (p := isRule t) fun j hj => hs.out j hj (by have := H17.out; omega))
      have hk17 : k = 17 := by omega
      go_wp2_with fail
      go_ret
      exact ⟨ret_congr (by rw [HF.out]; rfl), hbr⟩
set_option maxHeartbeats 1000000 in
theorem containsFunc_rules (g : Nat) (bt : Nat) (t : Tok) (eg : ∀ args w, (callFunc g args).run Tryd.prog w = .ok (.enter g args) w) (bp : Nat) (A : Option Addr) (c : Nat) (w : World) (h : RulesV w bp A)
    (hp : ∀ (r : ByteArray × Int × List Part) (A2 : Option Addr) (n2 c2 : Nat) (W : World), Below w.heap.size w W → Calls Tryd.prog g #[.agg #[.string r.1, .int .i64 r.2.1, .slice A2 n2 c2], .pointer (some ⟨bt, 0, none⟩)] W fun e w' => e = .returned (.bool (isRule t r)) ∧ Below W.heap.size W w') :
    Calls Tryd.prog 52 #[.slice A 17 c, .func (.func g) #[] #[.pointer (some ⟨bt, 0, none⟩)]] w fun e w' => e = .returned (.bool (ruleOf t).isSome) ∧ Below w.heap.size w w' := by
  have HF := hide ((firstI_any (isRule t) rulesT).trans (any_rule t))
  have HC := hide (indexFunc_rules g bt t eg bp A c w h hp)
  clear hp h
  go_enter Tryd.func52, Tryd.ntmps52
  go_wp2_with (go_at_call 55; refine HC.out.mono ?_; rintro e w1 ⟨rfl, hb1⟩)
  go_ret
  exact ⟨ret_congr (congrArg Value.bool HF.out), hb1⟩
set_option maxRecDepth 100000 in
set_option maxHeartbeats 2000000 in
theorem beyond_st {bp B : Nat} {s : PS} (X : World) (h : PSt X bp B s) :
    Calls Tryd.prog 29 #[.pointer (some ⟨bp, 0, none⟩)] X fun e W => e = .returned (.int .i64 s.beyond) ∧ Below X.heap.size X W := by
  have hbp := h.cells.2.2.2.2.2.1
  have HN := hide (next_st X h)
  have HB := hide (show s.beyond = if (ruleOf s.next).isSome then 8 else 3 from rfl)
  clear h
  generalize s.next = t at HN HB
  obtain ⟨tk, tt, tn, tp⟩ := t
  simp only at HN
  cases hr : (ruleOf ⟨tk, tt, tn, tp⟩).isSome
  all_goals
    rw [hr] at HB
    have hR := hide hr
    clear hr
    go_enter Tryd.func29, Tryd.ntmps29
    go_wp2_with (first
      | (go_at_call 27; refine HN.out.mono ?_; rintro e1 z ⟨rfl, hz⟩; have hbz := Nat.lt_of_lt_of_le hbp hz.size)
      | (go_at_call 53; refine (rules_any bp _ (by first | omega | (simp; omega))).mono ?_; rintro e2 y ⟨⟨A, c, rfl, hV⟩, hy⟩
         have hD := (Blk.new z 33 #[.int .i64 tk, .string tt, .int .i64 tn, .int .i64 tp]).below hy (by simp)
         have d0 := hD.cell 0
         have d1 := hD.cell 1
         have dz := hD.lt)
      | (go_at_call 52; refine (containsFunc_rules 54 z.heap.size ⟨tk, tt, tn, tp⟩ (fun args w => by kernel_rfl) bp A c y hV (fun r A2 n2 c2 W hW => is_beyond ⟨tk, tt, tn, tp⟩ z.heap.size r A2 n2 c2 W (Nat.lt_of_lt_of_le dz hW.size) ((hW.cell (p := ⟨z.heap.size, 0, none⟩) dz).trans d0) ((hW.cell (p := ⟨z.heap.size, 1, none⟩) dz).trans d1))).mono ?_; rw [hR.out]; rintro e3 x ⟨rfl, hx⟩))
    go_ret
    have hza := hz.alloc hz.size (.cells #[.int .i64 tk, .string tt, .int .i64 tn, .int .i64 tp] 33)
    have hyb := hza.trans (hy.mono hza.size)
    exact ⟨ret_congr (by rw [HB.out]; rfl), hyb.trans (hx.mono hyb.size)⟩
end Go.Proofs.YtanhkeeifnimgaaDoor

namespace Go.Proofs.YtanhkeeifnimgaaDoor
open Go Go.RowKit Go.Proofs

/-- what decl answers: the declaration, in rows from B' on, and the parser behind it -/
def DeclP (bp B : Nat) (d : Decl) (s : PS) (X : World) (e : Ending) (W : World) : Prop := ∃ (B' : Nat) (rv nv : Value), e = .returned (.agg #[.int .i64 d.kind, .string d.name, rv, nv, .int .i64 d.by_, .bool d.always]) ∧ PSt W bp B' s ∧ B ≤ B' ∧ OwnS B' W rv d.refs ∧ OwnI B' W nv d.nums ∧ But bp X.heap.size X W

theorem fail_sb {bp B : Nat} {s : PS} (q : Int) (X : World) (h : PSt X bp B s) : Calls Tryd.prog 28 #[.pointer (some ⟨bp, 0, none⟩), .int .i64 q] X fun ee X' => StepR bp B (s.fail q) (.tuple #[]) X ee X' ∧ But bp X.heap.size X X' := by
  obtain ⟨b, off, c, rv, nv, h1, h2, h3, h4, h5, h6, h7, h8, h9, h10, h11⟩ := h
  have e1 : (s.fail q).toks = s.toks := fail_toks s q
  have e2 : (s.fail q).d = s.d := fail_d s q
  have e3 : (s.fail q).e = if s.e = 0 then q else s.e := by unfold PS.fail; split <;> rfl
  refine (fail_any q (s.fail q).e X h1 (hide e3)).mono ?_
  rintro ee X' ⟨rfl, hP, hB, hs⟩
  refine ⟨⟨rfl, ⟨b, off, c, rv, nv, by rw [e1, e2]; exact hP, by rw [e1]; exact h2, h3, h4, ?_, ?_, ?_, by rw [e1]; exact h8, h9, by omega, h11⟩, hB.mono h10⟩, hB⟩
  · rw [e1]; exact (Reads.but h5 (fun ad e => by injection e with e; subst e; exact h3) hB).more hB.size
  · rw [e2]; exact h6.but hB h9
  · rw [e2]; exact h7.but hB h9
theorem OwnS.off {B L : Nat} {w : World} {v : Value} {l : List ByteArray} {T : TypeId} {cs : Array Value} (h : OwnS B w v l) (hB : Blk w L T cs) (hT : T ≠ 9) : v.ownBlock ≠ some L := by
  rcases h.2 with ⟨rfl, _⟩ | ⟨g, cap, cur, rfl, _, hh, _⟩
  · intro e; cases e
  · intro e
    obtain rfl : g = L := Option.some.inj e
    rw [show w.heap[g]? = some (.cells cs T (0, 0)) from hB] at hh
    simp at hh
    exact hT hh.2
theorem OwnI.off {B L : Nat} {w : World} {v : Value} {l : List Int} {T : TypeId} {cs : Array Value} (h : OwnI B w v l) (hB : Blk w L T cs) (hT : T ≠ 3) : v.ownBlock ≠ some L := by
  rcases h.2 with ⟨rfl, _⟩ | ⟨g, cap, cur, rfl, _, hh, _⟩
  · intro e; cases e
  · intro e
    obtain rfl : g = L := Option.some.inj e
    rw [show w.heap[g]? = some (.cells cs T (0, 0)) from hB] at hh
    simp at hh
    exact hT hh.2
/-- a variable that holds a declaration is no part of a parser's state -/
theorem PSt.butD {w w' : World} {bp B L : Nat} {s : PS} {a0 : Int} {a1 : ByteArray} {A1 A2 : Option Addr} {n1 c1 n2 c2 : Nat} {a4 : Int} {a5 : Bool} {rv nv : Value} (h : PSt w bp B s) (h4 : w.cell? ⟨bp, 4, none⟩ = some rv) (h5 : w.cell? ⟨bp, 5, none⟩ = some nv)
    (hL : Blk w L 38 #[.int .i64 a0, .string a1, .slice A1 n1 c1, .slice A2 n2 c2, .int .i64 a4, .bool a5]) (hne : L ≠ bp) (hb : But L w.heap.size w w') :
    PSt w' bp B s ∧ OwnS B w' rv s.d.refs ∧ OwnI B w' nv s.d.nums := by
  obtain ⟨b, off, c, rv', nv', h1, h2, h3, h4', h5', h6, h7, h8, h9, h10, h11⟩ := h
  obtain ⟨x0, x1, x2, x3, x4, x5, x6, x7, xb⟩ := h1.cells
  obtain rfl : rv' = rv := Option.some.inj (x4.symm.trans h4)
  obtain rfl : nv' = nv := Option.some.inj (x5.symm.trans h5)
  have hbL : b ≠ L := by
    rintro rfl
    obtain ⟨tk, tt, tn, tp, ts, e⟩ := end_cons h8
    rw [e] at h5'
    obtain ⟨b', off', eA, _, y0, y1, y2, y3⟩ := h5'.at_ (j := 0) (by simp)
    obtain ⟨rfl, rfl⟩ : b = b' ∧ off = off' := by injection eA with h; injection h with h1 h2; exact ⟨h1, h2⟩
    simp at y0 y2
    rw [Blk.cell hL] at y0 y2
    match off, y0, y2 with
    | 0, _, y2 => simp at y2
    | 1, y0, _ => simp at y0
    | 2, y0, _ => simp at y0
    | 3, y0, _ => simp at y0
    | 4, _, y2 => simp at y2
    | 5, y0, _ => simp at y0
    | n + 6, y0, _ => simp at y0
  have hO := h6.kept hb.grown (.inr (h6.off hL (by decide)))
  have hI := h7.kept hb.grown (.inr (h7.off hL (by decide)))
  exact ⟨⟨b, off, c, rv', nv', But.blk hb h1 xb (by omega), h2, h3, h4', (Reads.but h5' (fun ad e => by injection e with e; subst e; exact hbL) hb).more hb.size, hO, hI, h8, h9, Nat.le_trans h10 hb.size, h11⟩, hO, hI⟩
theorem But.set6 {L B : Nat} (w : World) (v0 v1 v2 v3 v4 v5 : Value) : But L B w ((((((w.setCell ⟨L, 0, none⟩ v0).setCell ⟨L, 1, none⟩ v1).setCell ⟨L, 2, none⟩ v2).setCell ⟨L, 3, none⟩ v3).setCell ⟨L, 4, none⟩ v4).setCell ⟨L, 5, none⟩ v5) :=
  (((((But.set_ w 0 v0).trans (But.set_ _ 1 v1)).trans (But.set_ _ 2 v2)).trans (But.set_ _ 3 v3)).trans (But.set_ _ 4 v4)).trans (But.set_ _ 5 v5)
set_option maxRecDepth 100000 in
set_option maxHeartbeats 8000000 in
theorem decl_none {bp B : Nat} {s : PS} (X : World) (h : PSt X bp B s) (hr : ruleOf s.next = none) :
    Calls Tryd.prog 30 #[.pointer (some ⟨bp, 0, none⟩)] X (DeclP bp B s.decl.1 s.decl.2 X) := by
  have hlt := h.bp_lt
  have hbp := h.cells.2.2.2.2.2.1
  have HS := hide (show s.decl = (zeroD, s.fail 3) by unfold PS.decl; rw [hr])
  have hX1 : Below X.heap.size X (X.alloc (.cells #[.int .i64 0, .string ⟨#[]⟩, .slice none 0 0, .slice none 0 0, .int .i64 0, .bool false] 38)) := (Below.refl _ _).alloc (Nat.le_refl _) _
  have hR0 := Blk.new X 38 #[.int .i64 0, .string ⟨#[]⟩, .slice none 0 0, .slice none 0 0, .int .i64 0, .bool false]
  have h1 := h.below hX1
  have HN := hide (next_st _ h1)
  have hfi : firstI (isRule s.next) rulesT = -1 := by
    rcases ruleOf_first s.next with h | ⟨i, hi, h, _⟩
    · exact h.2
    · rw [hr] at h; cases h
  clear h hr
  generalize s.next = t at HN hfi
  obtain ⟨tk, tt, tn, tp⟩ := t
  simp only at HN
  have HFI := hide hfi
  have H1 := hide (And.intro h1 (And.intro hX1 hR0))
  clear hfi h1 hX1 hR0
  go_enter Tryd.func30, Tryd.ntmps30
  go_wp2_with (first
    | (go_at_call 27; refine HN.out.mono ?_; rintro e1 z ⟨rfl, hz⟩; have hzs := hz.size; have hbz : bp < z.heap.size := (by simp at hzs; omega)
       have hR1 := H1.out.2.2.below hz (by simp))
    | (go_at_call 53; refine (rules_any bp _ (by first | omega | (simp; omega))).mono ?_; rintro e2 y ⟨⟨A, c, rfl, hV⟩, hy⟩
       have hD := (Blk.new z 33 #[.int .i64 tk, .string tt, .int .i64 tn, .int .i64 tp]).below hy (by simp)
       have d0 := hD.cell 0
       have d1 := hD.cell 1
       have dz := hD.lt)
    | (go_at_call 55; refine (indexFunc_rules 56 z.heap.size ⟨tk, tt, tn, tp⟩ (fun args w => by kernel_rfl) bp A c y hV (fun r A2 n2 c2 W hW => is_decl ⟨tk, tt, tn, tp⟩ z.heap.size r A2 n2 c2 W (Nat.lt_of_lt_of_le dz hW.size) ((hW.cell (p := ⟨z.heap.size, 0, none⟩) dz).trans d0) ((hW.cell (p := ⟨z.heap.size, 1, none⟩) dz).trans d1))).mono ?_; rw [HFI.out]; rintro e3 x ⟨rfl, hx⟩
       have hza := hz.alloc hz.size (.cells #[.int .i64 tk, .string tt, .int .i64 tn, .int .i64 tp] 33)
       have hyb := hza.trans (hy.mono hza.size)
       have hxb := hyb.trans (hx.mono hyb.size))
    | (go_at_call 28; refine (fail_sb 3 _ (H1.out.1.below hxb)).mono ?_; rintro e4 q ⟨⟨rfl, hq, hbq⟩, hbb⟩
       have hRx := Blk.bw (Blk.bw (hR1.alloc (.cells #[.int .i64 tk, .string tt, .int .i64 tn, .int .i64 tp] 33)) hy) hx
       have hRq := But.blk hbb hRx (Blk.lt hRx) (by omega)
       have r0 := hRq.cell 0
       have r1 := hRq.cell 1
       have r2 := hRq.cell 2
       have r3 := hRq.cell 3
       have r4 := hRq.cell 4
       have r5 := hRq.cell 5
       have f0 := hRq.frozen 0
       have f1 := hRq.frozen 1
       have f2 := hRq.frozen 2
       have f3 := hRq.frozen 3
       have f4 := hRq.frozen 4
       have f5 := hRq.frozen 5
       have rz := hRq.lt
       simp at r0 r1 r2 r3 r4 r5))
  refine bodyPost_ret (v := .agg #[.int .i64 0, .string ⟨#[]⟩, .slice none 0 0, .slice none 0 0, .int .i64 0, .bool false]) (by simp [results, Tryd.results30, go_sem, *]) rfl ?_
  rw [HS.out]
  obtain ⟨rv, nv, q4, q5, _, _, _⟩ := hq.rows
  have h6 := But.set6 (L := X.heap.size) (B := q.heap.size) q (.int .i64 0) (.string ⟨#[]⟩) (.slice none 0 0) (.slice none 0 0) (.int .i64 0) (.bool false)
  obtain ⟨g1, _, _⟩ := PSt.butD hq q4 q5 hRq (by omega) h6
  exact ⟨B, _, _, rfl, g1, Nat.le_refl _, OwnS.nil_ _ _, OwnI.nil_ _ _, (But.ofBelow (H1.out.2.1.trans (hxb.mono (by simp)))).trans ((hbb.mono (Nat.le_trans (Nat.le_trans (Nat.le_succ _) (by simpa using hzs)) (Nat.le_trans (by have := hy.size; simp at this; omega) hx.size))).trans (But.mono' h6 (Nat.le_refl _) (Nat.le_of_lt (Nat.lt_of_lt_of_le (Blk.lt hRx) hbb.size))))⟩
end Go.Proofs.YtanhkeeifnimgaaDoor

namespace Go.Proofs.YtanhkeeifnimgaaDoor
open Go Go.RowKit Go.Proofs

theorem PSt.reset {w : World} {bp B : Nat} {s : PS} (h : PSt w bp B s) (k : Int) :
    PSt ((((((w.setCell ⟨bp, 2, none⟩ (.int .i64 k)).setCell ⟨bp, 3, none⟩ (.string ⟨#[]⟩)).setCell ⟨bp, 4, none⟩ (.slice none 0 0)).setCell ⟨bp, 5, none⟩ (.slice none 0 0)).setCell ⟨bp, 6, none⟩ (.int .i64 0)).setCell ⟨bp, 7, none⟩ (.bool false)) bp w.heap.size { s with d := { zeroD with kind := k } } ∧
    But bp w.heap.size w ((((((w.setCell ⟨bp, 2, none⟩ (.int .i64 k)).setCell ⟨bp, 3, none⟩ (.string ⟨#[]⟩)).setCell ⟨bp, 4, none⟩ (.slice none 0 0)).setCell ⟨bp, 5, none⟩ (.slice none 0 0)).setCell ⟨bp, 6, none⟩ (.int .i64 0)).setCell ⟨bp, 7, none⟩ (.bool false)) := by
  obtain ⟨b, off, c, rv, nv, h1, h2, h3, h4, h5, h6, h7, h8, h9, h10, h11⟩ := h
  have hB : But bp w.heap.size w ((((((w.setCell ⟨bp, 2, none⟩ (.int .i64 k)).setCell ⟨bp, 3, none⟩ (.string ⟨#[]⟩)).setCell ⟨bp, 4, none⟩ (.slice none 0 0)).setCell ⟨bp, 5, none⟩ (.slice none 0 0)).setCell ⟨bp, 6, none⟩ (.int .i64 0)).setCell ⟨bp, 7, none⟩ (.bool false)) :=
    (((((But.set_ w 2 _).trans (But.set_ _ 3 _)).trans (But.set_ _ 4 _)).trans (But.set_ _ 5 _)).trans (But.set_ _ 6 _)).trans (But.set_ _ 7 _)
  refine ⟨⟨b, off, c, .slice none 0 0, .slice none 0 0, ?_, h2, h3, by omega, ?_, OwnS.nil_ _ _, OwnI.nil_ _ _, h8, Blk.lt h1, hB.size, fun g e => by cases e⟩, hB⟩
  · exact Blk.set_ (Blk.set_ (Blk.set_ (Blk.set_ (Blk.set_ (Blk.set_ h1 2 _) 3 _) 4 _) 5 _) 6 _) 7 _
  · exact (Reads.but h5 (fun ad e => by injection e with e; subst e; exact h3) hB).more hB.size
theorem parts_drop {s : PS} {ps : List Part} {k : Nat} (hk : k < ps.length) : PS.parts s (ps.drop k) = PS.parts (if s.e = 0 then s.part ps[k] else s) (ps.drop (k + 1)) := by
  rw [List.drop_eq_getElem_cons hk, PS.parts]
/-- a state of reading parts: so much at most has been read -/
def Few18 (st : PS) (k : Nat) : Prop := st.d.refs.length + st.left ≤ 1000001 ∧ st.d.nums.length + st.left ≤ 1000001 ∧ 0 ≤ st.d.by_ ∧ st.d.by_ ≤ 20 * k
theorem Few18.step {st : PS} {k : Nat} (h : Few18 st k) (p : Part) (h0 : st.e = 0) : Few18 (st.part p) (k + 1) := by
  obtain ⟨h1, h2, h3, h4⟩ := h
  obtain ⟨s1, s2⟩ := part_sz st p h0
  obtain ⟨b1, b2⟩ := part_by st p h3
  exact ⟨by omega, by omega, b1, by omega⟩

set_option maxRecDepth 100000 in
set_option maxHeartbeats 16000000 in
theorem decl_some {bp B : Nat} {s : PS} (X : World) (h : PSt X bp B s) (i : Nat) (hi : i < rulesT.length) (hr : ruleOf s.next = some rulesT[i]) (hfi : firstI (isRule s.next) rulesT = (i : Int)) (hsz : s.toks.length ≤ 1000000) :
    Calls Tryd.prog 30 #[.pointer (some ⟨bp, 0, none⟩)] X (DeclP bp B s.decl.1 s.decl.2 X) := by
  have hlt := h.bp_lt
  have hbp := h.cells.2.2.2.2.2.1
  have HS := hide (show s.decl = (((PS.parts { (s.take 2 []).2 with d := { zeroD with kind := rulesT[i].2.1 } } rulesT[i].2.2).take 4 [(⟨#[59]⟩ : ByteArray)]).2.d, ((PS.parts { (s.take 2 []).2 with d := { zeroD with kind := rulesT[i].2.1 } } rulesT[i].2.2).take 4 [(⟨#[59]⟩ : ByteArray)]).2) by unfold PS.decl; rw [hr])
  have hX1 : Below X.heap.size X (X.alloc (.cells #[.int .i64 0, .string ⟨#[]⟩, .slice none 0 0, .slice none 0 0, .int .i64 0, .bool false] 38)) := (Below.refl _ _).alloc (Nat.le_refl _) _
  have hR0 := Blk.new X 38 #[.int .i64 0, .string ⟨#[]⟩, .slice none 0 0, .slice none 0 0, .int .i64 0, .bool false]
  have h1 := h.below hX1
  have HN := hide (next_st _ h1)
  have htl : (s.take 2 []).2.toks.length ≤ 1000000 := by
    obtain ⟨⟨k, e⟩, _⟩ := take_aft s (k := 2) (by decide) []
    rw [e, List.length_drop]; omega
  have hshort := rules_short rulesT[i] (List.getElem_mem _)
  clear h hr hsz
  generalize s.next = t at HN hfi
  obtain ⟨tk, tt, tn, tp⟩ := t
  simp only at HN
  have HFI := hide hfi
  have H1 := hide (And.intro h1 (And.intro hX1 hR0))
  generalize hrr : rulesT[i] = r at HS hshort
  obtain ⟨rw_, rk, ps⟩ := r
  have hi17 : i < 17 := hi
  simp only at HS hshort
  have HT : ∀ W, PSt W bp B s → Calls Tryd.prog 57 #[.pointer (some ⟨bp, 0, none⟩), .int .i64 2, .slice none 0 0] W fun ee X' => ee = .returned (.agg #[.int .i64 (s.take 2 []).1.kind, .string (s.take 2 []).1.text, .int .i64 (s.take 2 []).1.n, .int .i64 (s.take 2 []).1.pos]) ∧ PSt X' bp B (s.take 2 []).2 ∧ But bp W.heap.size W X' := fun W hW => take_sx 2 none 0 [] W hW (by decide) (strs_none _ _) (by decide)
  have HT := hide HT
  clear hfi h1 hX1 hR0
  generalize s.take 2 [] = r2 at HT HS htl
  obtain ⟨tk2, s1⟩ := r2
  simp only at HT HS htl
  go_enter Tryd.func30, Tryd.ntmps30
  go_wp2_with (first
    | (go_at_call 27; refine HN.out.mono ?_; rintro e1 z ⟨rfl, hz⟩; have hzs := hz.size; have hbz : bp < z.heap.size := (by simp at hzs; omega)
       have hR1 := H1.out.2.2.below hz (by simp))
    | (go_at_call 53; refine (rules_any bp _ (by first | omega | (simp; omega))).mono ?_; rintro e2 y ⟨⟨A, c, rfl, hV⟩, hy⟩
       have hD := (Blk.new z 33 #[.int .i64 tk, .string tt, .int .i64 tn, .int .i64 tp]).below hy (by simp)
       have d0 := hD.cell 0
       have d1 := hD.cell 1
       have dz := hD.lt)
    | (go_at_call 55; refine (indexFunc_rules 56 z.heap.size ⟨tk, tt, tn, tp⟩ (fun args w => by kernel_rfl) bp A c y hV (fun r A2 n2 c2 W hW => is_decl ⟨tk, tt, tn, tp⟩ z.heap.size r A2 n2 c2 W (Nat.lt_of_lt_of_le dz hW.size) ((hW.cell (p := ⟨z.heap.size, 0, none⟩) dz).trans d0) ((hW.cell (p := ⟨z.heap.size, 1, none⟩) dz).trans d1))).mono ?_; rw [HFI.out]; rintro e3 x ⟨rfl, hx⟩
       have hza := hz.alloc hz.size (.cells #[.int .i64 tk, .string tt, .int .i64 tn, .int .i64 tp] 33)
       have hyb := hza.trans (hy.mono hza.size)
       have hxb := hyb.trans (hx.mono hyb.size))
    | (go_at_call 57; go_loud (refine (HT.out x (H1.out.1.below hxb)).mono ?_); rintro e4 q ⟨rfl, hq, hbq⟩
       have hRx := Blk.bw (Blk.bw (hR1.alloc (.cells #[.int .i64 tk, .string tt, .int .i64 tn, .int .i64 tp] 33)) hy) hx
       have hRq := But.blk hbq hRx (Blk.lt hRx) (by omega)
       go_loud (have hVq := (hV.but (But.ofBelow hx)).but hbq)
       go_loud (have hat := hVq.at_ hi)
       go_loud (rw [hrr] at hat)
       go_loud (obtain ⟨b, off, V, rfl, hbb, hbn, hrow, y0, y1, y2⟩ := hat)
       have hrow2 := hrow
       go_loud (obtain ⟨A2, c2, vs, rfl, hreads, hoff, hpvs⟩ := hrow2)
       have hqc := hq.cells
       go_loud (obtain ⟨rv, nv, q4, q5, _, _, _⟩ := hq.rows)
       have q2 := hqc.2.1
       have q3 := hqc.2.2.1
       have q6 := hqc.2.2.2.1
       have q7 := hqc.2.2.2.2.1
       have qz := hqc.2.2.2.2.2.1
       have k2 := hqc.2.2.2.2.2.2 2
       have k3 := hqc.2.2.2.2.2.2 3
       have k4 := hqc.2.2.2.2.2.2 4
       have k5 := hqc.2.2.2.2.2.2 5
       have k6 := hqc.2.2.2.2.2.2 6
       have k7 := hqc.2.2.2.2.2.2 7
       have hbn2 : ¬ bp = b := fun e => hbn e.symm
       clear hqc))
  obtain ⟨W1, hW1⟩ : ∃ W1, W1 = ((((((q.setCell ⟨bp, 2, none⟩ (.int .i64 rk)).setCell ⟨bp, 3, none⟩ (.string ⟨#[]⟩)).setCell ⟨bp, 4, none⟩ (.slice none 0 0)).setCell ⟨bp, 5, none⟩ (.slice none 0 0)).setCell ⟨bp, 6, none⟩ (.int .i64 0)).setCell ⟨bp, 7, none⟩ (.bool false)) := ⟨_, rfl⟩
  have hre := PSt.reset hq rk
  rw [← hW1] at hre
  rw [← hW1]
  obtain ⟨hs2, hbW⟩ := hre
  have hzW : W1.heap.size = q.heap.size := by rw [hW1]; simp [World.setCell]
  have hRow1 : RowV W1 bp (.slice A2 ps.length c2) ps := hrow.but hbW
  have hRW := But.blk hbW hRq (Blk.lt hRq) (by omega)
  have hqB := Nat.lt_of_lt_of_le (Blk.lt hRx) hbq.size
  have hBase : But bp X.heap.size X W1 := (But.ofBelow (H1.out.2.1.trans (hxb.mono (by simp)))).trans ((hbq.mono (Nat.le_trans (Nat.le_trans (Nat.le_succ _) (by simpa using hzs)) (Nat.le_trans (by have := hy.size; simp at this; omega) hx.size))).trans (hbW.mono (Nat.le_of_lt hqB)))
  have hBB : B ≤ q.heap.size := hq.bp_lt.2
  have hF0 : Few18 { s1 with d := { zeroD with kind := rk } } 0 := by
    refine ⟨?_, ?_, Int.le_refl _, Int.le_refl _⟩
    · show 0 + ({ s1 with d := { zeroD with kind := rk } } : PS).left ≤ _; unfold PS.left; simp only; split <;> omega
    · show 0 + ({ s1 with d := { zeroD with kind := rk } } : PS).left ≤ _; unfold PS.left; simp only; split <;> omega
  clear HN HT H1 HFI hz hzs hR1 hV hy hD d0 d1 dz hza hyb hx hxb hq hbq hRx hRq hVq hrow hreads hoff hpvs y0 y1 y2 q4 q5 q2 q3 q6 q7 k2 k3 k4 k5 k6 k7 hW1 htl
  go_loopw [37] (fun v wr => ∃ (k : Nat) (st : PS), v = .int .i64 k ∧ k ≤ ps.length ∧ PSt wr bp q.heap.size st ∧ But bp W1.heap.size W1 wr ∧ Few18 st k ∧ Hid (PS.parts { s1 with d := { zeroD with kind := rk } } ps = PS.parts st (ps.drop k))) (fun v _ => ps.length - (intOf v).toNat)
  case atStart => exact ⟨0, _, rfl, Nat.zero_le _, hs2, But.refl _ _ _, hF0, hide (by rw [List.drop_zero])⟩
  case round =>
    clear hs2 hF0
    obtain ⟨k, st, rfl, hk, hst, hB, hF, HP⟩ := hrel
    have hc := hst.cells
    have x1 := hc.1
    have hbpr := hc.2.2.2.2.2.1
    by_cases hlt2 : k < ps.length
    · obtain ⟨A9, c9, vs9, hV9, hrd, hof, hpv⟩ := hRow1.but hB
      obtain ⟨rfl, rfl⟩ : A2 = A9 ∧ c2 = c9 := by injection hV9 with a b c; exact ⟨a, c⟩
      obtain ⟨v, hv, hpvk⟩ := hpv.at_ k hlt2
      obtain ⟨ad, u, rfl, had, hu, hcell⟩ := hrd.at_ hlt2
      obtain rfl : v = u := Option.some.inj (hv.symm.trans hu)
      have hstep := HP.out.trans (parts_drop hlt2)
      generalize hpk : ps[k] = p at hpvk hstep
      obtain ⟨g, fs, lb, rfl, eg, hcall⟩ := hpvk
      have hkI : (k : Int) < (ps.length : Int) := by omega
      clear hc hV9 hpv hrd hof hv hu hpk HP
      by_cases he : st.e = 0
      · rw [if_pos he] at hstep
        have HST := hide hstep
        have HC := hide (hcall q.heap.size st wr (But.refl _ _ _) hst ⟨he, by have := hF.1; omega, by have := hF.2.1; omega, hF.2.2.1, by have := hF.2.2.2; omega⟩)
        have b0 : ((st.e : Int) == 0) = true := by simpa using he
        have hF2 := hF.step p he
        clear hstep hcall
        go_wp2_with (refine HC.out.mono ?_; rintro e5 x5 ⟨rfl, h5, hb5⟩)
        go_roundw
        case rel => exact ⟨k + 1, _, by go_num, by omega, h5, hB.trans (by rw [hzW]; exact hb5), hF2, HST⟩
        case measure => simp [intOf]; omega
      · rw [if_neg he] at hstep
        have HST := hide hstep
        have b0 : ((st.e : Int) == 0) = false := by simpa using he
        clear hstep hcall
        go_wp2_with fail
        go_roundw
        case rel => exact ⟨k + 1, st, by go_num, by omega, hst, hB, ⟨hF.1, hF.2.1, hF.2.2.1, by have := hF.2.2.2; omega⟩, HST⟩
        case measure => simp [intOf]; omega
    · obtain rfl : k = ps.length := by omega
      have HE := hide (HP.out.trans (by rw [List.drop_length]; rfl : PS.parts st (ps.drop ps.length) = st))
      rw [HE.out] at HS
      have hRr := But.blk hB hRW (Blk.lt hRW) (by omega)
      have hRr2 := Blk.alloc hRr (.cells #[.string (⟨#[59]⟩ : ByteArray)] 9)
      have hA := Strs.newRow2 wr (b := wr.heap.size) 9 [(⟨#[59]⟩ : ByteArray)] rfl
      have hb9 : Below wr.heap.size wr (wr.alloc (.cells #[.string (⟨#[59]⟩ : ByteArray)] 9)) := (Below.refl _ _).alloc (Nat.le_refl _) _
      have HT4 := hide (take_sx 4 (some ⟨wr.heap.size, 0, none⟩) 1 [(⟨#[59]⟩ : ByteArray)] _ (hst.below hb9) (by decide) (hA.more (by simp)) (by simp))
      have hBz := hB.size
      clear hRow1 hk hF HP hc x1 hA HE hlt2
      generalize st.take 4 [(⟨#[59]⟩ : ByteArray)] = r4 at HS HT4
      obtain ⟨tk4, s4⟩ := r4
      simp only at HS HT4
      go_wp2_with (go_at_call 57; refine HT4.out.mono ?_; rintro e6 x6 ⟨rfl, h6, hb6⟩
                   have hRx := But.blk hb6 hRr2 (Blk.lt hRr2) (by omega)
                   have hc6 := h6.cells
                   obtain ⟨rv, nv, q4, q5, hO, hI, _⟩ := h6.rows
                   obtain ⟨A4, c4, rfl, _, _⟩ := hO.form3
                   obtain ⟨A5, c5, rfl, _, _⟩ := hI.form
                   have q2 := hc6.2.1
                   have q3 := hc6.2.2.1
                   have q6 := hc6.2.2.2.1
                   have q7 := hc6.2.2.2.2.1
                   have qz := hc6.2.2.2.2.2.1
                   have r0 := hRx.cell 0
                   have r1 := hRx.cell 1
                   have r2 := hRx.cell 2
                   have r3 := hRx.cell 3
                   have r4 := hRx.cell 4
                   have r5 := hRx.cell 5
                   have f0 := hRx.frozen 0
                   have f1 := hRx.frozen 1
                   have f2 := hRx.frozen 2
                   have f3 := hRx.frozen 3
                   have f4 := hRx.frozen 4
                   have f5 := hRx.frozen 5
                   have rz := Blk.lt hRx
                   simp at r0 r1 r2 r3 r4 r5
                   clear hc6)
      refine bodyPost_ret (v := .agg #[.int .i64 s4.d.kind, .string s4.d.name, .slice A4 s4.d.refs.length c4, .slice A5 s4.d.nums.length c5, .int .i64 s4.d.by_, .bool s4.d.always]) (by simp [results, Tryd.results30, go_sem, *]) rfl ?_
      rw [HS.out]
      have h7 := But.set6 (L := X.heap.size) (B := x6.heap.size) x6 (.int .i64 s4.d.kind) (.string s4.d.name) (.slice A4 s4.d.refs.length c4) (.slice A5 s4.d.nums.length c5) (.int .i64 s4.d.by_) (.bool s4.d.always)
      obtain ⟨g1, g2, g3⟩ := PSt.butD h6 q4 q5 hRx (by omega) h7
      exact ⟨q.heap.size, _, _, rfl, g1, hBB, g2, g3, hBase.trans ((hB.mono (by omega)).trans ((But.ofBelow ((Below.refl _ _).alloc (by omega) _)).trans ((hb6.mono (by simp; omega)).trans (But.mono' h7 (Nat.le_refl _) (Nat.le_of_lt rz)))))⟩
/-- decl reads a declaration -/
theorem decl_st {bp B : Nat} {s : PS} (X : World) (h : PSt X bp B s) (hsz : s.toks.length ≤ 1000000) : Calls Tryd.prog 30 #[.pointer (some ⟨bp, 0, none⟩)] X (DeclP bp B s.decl.1 s.decl.2 X) := by
  rcases ruleOf_first s.next with ⟨hr, _⟩ | ⟨i, hi, hr, hfi⟩
  · exact decl_none X h hr
  · exact decl_some X h i hi hr hfi hsz
end Go.Proofs.YtanhkeeifnimgaaDoor
