/- The walks of package parser: ref, number, list. Conditions: lengths that fit memory. -/
import Derived.Test.YtanhkeeifnimgaaDoorPrs18b
import Derived.Test.YtanhkeeifnimgaaDoorPar18g
import Derived.Deep.RegionLaw
namespace Go.Proofs.YtanhkeeifnimgaaDoor
open Go Go.RowKit Go.Proofs

theorem PSt.drew {w : World} {bp B : Nat} {s : PS} (h : PSt w bp B s) : PSt w.drew bp B s := h
theorem but_grown {bp B : Nat} {w w' : World} {v v' : Value} (hg : w.grownBy w' v.ownBlock) (hB : B ≤ w.heap.size) (hv : ∀ k, v.ownBlock = some k → B ≤ k ∧ k < w.heap.size) (i : Nat) : But bp B w (w'.setCell ⟨bp, i, none⟩ v') :=
  (But.ofGrown hg hB fun k hk => (hv k hk).1).trans (But.set_ _ _ _)
theorem own_of {w : World} {bp B : Nat} {s : PS} {rv : Value} (h : PSt w bp B s) (h4 : w.cell? ⟨bp, 4, none⟩ = some rv) : OwnS B w rv s.d.refs := by
  obtain ⟨rv', nv', x4, x5, hO, _⟩ := h.rows
  obtain rfl : rv' = rv := Option.some.inj (x4.symm.trans h4)
  exact hO
theorem own_ofI {w : World} {bp B : Nat} {s : PS} {nv : Value} (h : PSt w bp B s) (h5 : w.cell? ⟨bp, 5, none⟩ = some nv) : OwnI B w nv s.d.nums := by
  obtain ⟨rv', nv', x4, x5, _, hI, _⟩ := h.rows
  obtain rfl : nv' = nv := Option.some.inj (x5.symm.trans h5)
  exact hI
theorem PSt.keep_ {w w' : World} {bp B : Nat} {s : PS} {v : Value} {l : List ByteArray} (h : PSt w bp B s) (o : Obj) (hg : (w.alloc o).grownBy w' v.ownBlock) (hv : OwnS B w v l) (i : Nat) : w'.cell? ⟨bp, i, none⟩ = w.cell? ⟨bp, i, none⟩ ∧ bp < w'.heap.size ∧ w'.frozen? ⟨bp, i, none⟩ = false := by
  have hlt := h.bp_lt
  have hlo := hv.lt
  obtain ⟨b, off, c, rv, nv, h1, _⟩ := h
  have h2 := Blk.grown (Blk.alloc h1 o) hg (fun e => by have := (hlo _ e.symm).1; omega)
  exact ⟨World.cell?_of_block (h2.trans h1.symm), Blk.lt h2, Blk.frozen h2 i⟩
theorem PSt.alloc_ {w : World} {bp B : Nat} {s : PS} (h : PSt w bp B s) (o : Obj) {i : Nat} : PSt (w.alloc o) bp B s ∧ (w.alloc o).frozen? ⟨bp, i, none⟩ = false := by
  have h2 := h.below ((Below.refl w.heap.size w).alloc (Nat.le_refl _) o)
  exact ⟨h2, h2.cells.2.2.2.2.2.2 i⟩
set_option maxRecDepth 100000 in
set_option maxHeartbeats 4000000 in
theorem ref_st {bp B : Nat} {s : PS} (X : World) (h : PSt X bp B s) (hz : s.d.refs.length ≤ 1000000000) :
    Calls Tryd.prog 112 #[.pointer (some ⟨bp, 0, none⟩)] X (StepR bp B s.ref (.tuple #[]) X) := by
  obtain ⟨rv, nv, x4, x5, hO, _⟩ := h.rows
  have HT := hide (take_rows 1 none 0 [] X.drew (PSt.drew h) x4 x5 (by decide) (strs_none _ _) (by decide))
  have HS := hide (show s.ref = { (s.take 1 []).2 with d := { (s.take 1 []).2.d with refs := (s.take 1 []).2.d.refs ++ [(s.take 1 []).1.text] } } from rfl)
  have hd : (s.take 1 []).2.d = s.d := take_d s 1 []
  have hlt := h.bp_lt
  have hbp := h.cells.2.2.2.2.2.1
  have f4 := h.cells.2.2.2.2.2.2 4
  clear h x5
  generalize s.take 1 [] = r at HT HS hd
  have hfd := field_text r.1.kind r.1.text r.1.n r.1.pos
  go_enter Tryd.func112, Tryd.ntmps112
  go_wp2_with fail
  go_region_law
    ((first
      | (go_simp; go_at_call 57; refine HT.out.mono ?_; rintro e2 y ⟨rfl, hy, hby, y4, y5⟩; have hbpy := Nat.lt_of_lt_of_le hbp hby.size; have yf4 := hy.cells.2.2.2.2.2.2 4; dsimp only)
      | (refine step_append_strs rfl _ _ rfl B _ r.2.d.refs rfl (OwnS.alloc (own_of hy y4) _) _ _ 1 [r.1.text] rfl (Strs.newRow2 _ _ _ rfl) (by rw [hd]; simp; omega) (by have := hy.bp_lt; simp; omega) ?_; intro v3 x3 hO3 hg3 hv3; have k3 := PSt.keep_ hy _ hg3 (own_of hy y4) 4; rw [y4] at k3; have hg4 : (y.alloc (.cells #[.string r.1.text] 9)).grownBy x3 rv.ownBlock := hg3; have hv4 : v3.ownBlock = rv.ownBlock ∨ v3.ownBlock = some (y.alloc (.cells #[.string r.1.text] 9)).heap.size := hv3; clear hg3 hv3; have hfm := hO3.form3; obtain ⟨A3, c3, hvs, _, _⟩ := hfm; obtain ⟨n3, hn3⟩ : ∃ n3, n3 = (r.2.d.refs ++ [r.1.text]).length := ⟨_, rfl⟩; rw [← hn3] at hvs; clear hn3; subst hvs)))
  all_goals
    go_end0
    rw [HS.out]
    have hya := (PSt.alloc_ hy (.cells #[.string r.1.text] 9) (i := 0)).1
    have hBB := hby.mono hlt.2
    refine ⟨rfl, PSt.set_refs hya ((World.cell?_alloc_lt _ _ _ hbpy).trans y4) hg4 hv4 hO3, ((But.ofBelow (Below.refl B X).drew).trans (hBB.trans (But.ofBelow ((Below.refl B y).alloc hy.bp_lt.2 _)))).trans ((But.ofGrown hg4 hya.bp_lt.2 fun k hk => ((own_of hy y4).lt k hk).1).trans (But.set_ _ _ _))⟩
theorem step_append_ints {ops : Array Oper} {o : Oper} {a : Act} {K : Act → World → Prop} {Q : Exit → Act → World → Prop} {E : Prop} {w : World} (hgd : o.guard = none) (s x : Operand)
    (ho : o.op = .call { callee := .builtin .append, args := #[s, x], argTypes := #[36, 36] })
    (base : Nat) (v : Value) (l : List Int) (hs : a.eval s = v) (hown : OwnI base w v l)
    (B : Nat) (A : Option Addr) (c : Nat) (m : List Int) (hx : a.eval x = .slice A m.length c) (hr : Ints w B A m)
    (hlen : l.length + m.length ≤ 1099511627776) (hbase : base ≤ w.heap.size)
    (h : ∀ v' w', OwnI base w' v' (l ++ m) → w.grownBy w' v.ownBlock → (v'.ownBlock = v.ownBlock ∨ v'.ownBlock = some w.heap.size) → K (a.put o.dst v') w') :
    if Region.wanted o (yielded ops a.tmps) = true then Oper.wp Tryd.prog o a w K Q else E := by
  have hw : Region.wanted o (yielded ops a.tmps) = true := by simp [Region.wanted, hgd]
  rw [if_pos hw]
  obtain ⟨i0, hi, hz0, hz1, hz2⟩ := info_parts infoI
  refine wp_append_any w s x 36 ho base 3 i0 _ 1 8 Tryd.underlying36 hi hz0 hz1 hz2 rfl (by omega) v l.length (l.map (.int .i64)) hs hown B A m.length c (m.map (.int .i64)) hx hr ?_ ?_ ?_ hbase
    fun v' w' h2 h3 h4 => h v' w' ?_ h3 h4
  · intro u hu
    obtain ⟨y, _, rfl⟩ := List.mem_map.1 hu
    rfl
  · unfold maxLen; omega
  · omega
  · unfold OwnI; rw [List.map_append, List.length_append]; exact h2
theorem PSt.keepI_ {w w' : World} {bp B : Nat} {s : PS} {v : Value} {l : List Int} (h : PSt w bp B s) (o : Obj) (hg : (w.alloc o).grownBy w' v.ownBlock) (hv : OwnI B w v l) (i : Nat) : w'.cell? ⟨bp, i, none⟩ = w.cell? ⟨bp, i, none⟩ ∧ bp < w'.heap.size ∧ w'.frozen? ⟨bp, i, none⟩ = false := by
  have hlt := h.bp_lt
  have hlo := hv.lt
  obtain ⟨b, off, c, rv, nv, h1, _⟩ := h
  have h2 := Blk.grown (Blk.alloc h1 o) hg (fun e => by have := (hlo _ e.symm).1; omega)
  exact ⟨World.cell?_of_block (h2.trans h1.symm), Blk.lt h2, Blk.frozen h2 i⟩
set_option maxRecDepth 100000 in
set_option maxHeartbeats 4000000 in
theorem number_st {bp B : Nat} {s : PS} (X : World) (h : PSt X bp B s) (hz : s.d.nums.length ≤ 1000000000) :
    Calls Tryd.prog 110 #[.pointer (some ⟨bp, 0, none⟩)] X (StepR bp B s.number (.tuple #[]) X) := by
  obtain ⟨rv, nv, x4, x5, _, hO, _⟩ := h.rows
  have HT := hide (take_rows 3 none 0 [] X.drew (PSt.drew h) x4 x5 (by decide) (strs_none _ _) (by decide))
  have HS := hide (show s.number = { (s.take 3 []).2 with d := { (s.take 3 []).2.d with nums := (s.take 3 []).2.d.nums ++ [(s.take 3 []).1.n] } } from rfl)
  have hd : (s.take 3 []).2.d = s.d := take_d s 3 []
  have hlt := h.bp_lt
  have hbp := h.cells.2.2.2.2.2.1
  clear h x4
  generalize s.take 3 [] = r at HT HS hd
  have hfd := field_n r.1.kind r.1.text r.1.n r.1.pos
  go_enter Tryd.func110, Tryd.ntmps110
  go_wp2_with fail
  go_region_law
    ((first
      | (go_simp; go_at_call 57; refine HT.out.mono ?_; rintro e2 y ⟨rfl, hy, hby, y4, y5⟩; have hbpy := Nat.lt_of_lt_of_le hbp hby.size; have yf5 := hy.cells.2.2.2.2.2.2 5; dsimp only)
      | (refine step_append_ints rfl _ _ rfl B _ r.2.d.nums rfl (OwnI.alloc (own_ofI hy y5) _) _ _ 1 [r.1.n] rfl (Ints.newRow2 _ _ _ rfl) (by rw [hd]; simp; omega) (by have := hy.bp_lt; simp; omega) ?_; intro v3 x3 hO3 hg3 hv3; have k3 := PSt.keepI_ hy _ hg3 (own_ofI hy y5) 5; rw [y5] at k3; have hg4 : (y.alloc (.cells #[.int .i64 r.1.n] 3)).grownBy x3 nv.ownBlock := hg3; have hv4 : v3.ownBlock = nv.ownBlock ∨ v3.ownBlock = some (y.alloc (.cells #[.int .i64 r.1.n] 3)).heap.size := hv3; clear hg3 hv3; have hfm := hO3.form; obtain ⟨A3, c3, hvs, _, _⟩ := hfm; obtain ⟨n3, hn3⟩ : ∃ n3, n3 = (r.2.d.nums ++ [r.1.n]).length := ⟨_, rfl⟩; rw [← hn3] at hvs; clear hn3; subst hvs)))
  all_goals
    go_end0
    rw [HS.out]
    have hya := (PSt.alloc_ hy (.cells #[.int .i64 r.1.n] 3) (i := 0)).1
    have hBB := hby.mono hlt.2
    refine ⟨rfl, PSt.set_nums hya ((World.cell?_alloc_lt _ _ _ hbpy).trans y5) hg4 hv4 hO3, ((But.ofBelow (Below.refl B X).drew).trans (hBB.trans (But.ofBelow ((Below.refl B y).alloc hy.bp_lt.2 _)))).trans ((But.ofGrown hg4 hya.bp_lt.2 fun k hk => ((own_ofI hy y5).lt k hk).1).trans (But.set_ _ _ _))⟩

set_option maxRecDepth 100000 in
set_option maxHeartbeats 4000000 in
theorem list_st {bp B : Nat} {s : PS} (X : World) (h : PSt X bp B s) (hz : s.d.refs.length + s.left ≤ 1000000000) (h0 : s.e = 0) :
    Calls Tryd.prog 113 #[.pointer (some ⟨bp, 0, none⟩)] X (StepR bp B s.list (.tuple #[]) X) := by
  obtain ⟨_, hl1, hl2, _⟩ := ref_left s
  have hl1 := hl1 h0
  have HR := hide (ref_st X h (by unfold PS.left at hz; omega))
  have HS := hide (show s.list = PS.listGo (s.toks.length + 1) 1 s.ref from rfl)
  have hM : s.ref.left ≤ s.toks.length := by have : s.left ≤ s.toks.length + 1 := (by unfold PS.left; split <;> omega); omega
  have hM63 : s.toks.length ≤ 1000000000 := by unfold PS.left at hz; omega
  have hc1 : ∀ (W : World) (q : PS), PSt W bp B q → q.d.refs.length ≤ 1000000000 → Calls Tryd.prog 112 #[.pointer (some ⟨bp, 0, none⟩)] W (StepR bp B q.ref (.tuple #[]) W) := fun W q hW hq => ref_st W hW hq
  have HC1 := hide hc1
  clear h hc1
  have hz2 : s.ref.d.refs.length + s.ref.left ≤ 1000000000 := by omega
  generalize hM2 : s.toks.length = M at HS hM hM63
  generalize s.ref = s1 at HR HS hM hz2
  clear hl1 hl2 hz hM2
  go_enter Tryd.func113, Tryd.ntmps113
  go_wp2_with (go_at_call 112; refine HR.out.mono ?_; rintro e1 x1 ⟨rfl, h1, hb1⟩)
  go_loopw [2] (fun i wr => ∃ (k f : Nat) (st : PS), i = .int .i64 k ∧ 1 ≤ k ∧ PSt wr bp B st ∧ But bp B X wr ∧ st.left ≤ f ∧ k + st.left ≤ M + 1 ∧ Hid (s.list = PS.listGo f k st) ∧ st.d.refs.length + st.left ≤ 1000000000) (fun i _ => M + 2 - (intOf i).toNat)
  case atStart => exact ⟨1, M + 1, s1, rfl, Nat.le_refl _, h1, hb1, by omega, by omega, HS, hz2⟩
  case round =>
    clear hb1 h1 HR HS hz2
    obtain ⟨k, f, st, rfl, hk1, hst, hB, hf, hkM, HG, hzs⟩ := hrel
    have HCM := hide (comma_st wr hst)
    have hcl := comma_left (s := st)
    cases hcm : st.comma.1
    · have hstop : PS.listGo f k st = st := by
        cases f with
        | zero => rfl
        | succ f => rw [PS.listGo, if_neg (by rw [hcm]; decide)]
      have HE := hide (HG.out.trans hstop)
      rw [hcm] at HCM
      have hsame : st.comma.2 = st := by
        unfold PS.comma at hcm ⊢
        split
        · rfl
        · rename_i hc; rw [if_neg hc] at hcm; cases hcm
      rw [hsame] at HCM
      clear HG hstop hcl hcm hsame
      go_wp2_with (go_at_call 128; refine HCM.out.mono ?_; rintro e2 x2 ⟨rfl, h2, hb2⟩)
      go_end0
      rw [HE.out]
      exact ⟨rfl, h2, hB.trans hb2⟩
    · obtain ⟨hc1, hc2⟩ := hcl hcm
      obtain ⟨f', rfl⟩ : ∃ f', f = f' + 1 := ⟨f - 1, by omega⟩
      have hgo := HG.out
      rw [PS.listGo, if_pos hcm] at hgo
      rw [hcm] at HCM
      generalize st.comma.2 = c at HCM hgo hc1 hc2
      clear HG hcl hcm
      by_cases hk16 : k = 16
      · have b0 : ((k : Int) == 16) = true := by simp [hk16]
        have hfk := field_kind c.next.kind c.next.text c.next.n c.next.pos
        by_cases hkd : c.next.kind = 1
        · rw [if_pos ⟨hk16, hkd⟩] at hgo
          have HGO := hide hgo
          have b1 : ((c.next.kind : Int) == 1) = true := by simp [hkd]
          have hfl := fail_left c 8
          have hfd : (c.fail 8).d = st.d := (fail_d c 8).trans hc2
          obtain ⟨hr1, _, hr3, _⟩ := ref_left (c.fail 8)
          rw [hfd] at hr3
          have hrq : (c.fail 8).d.refs.length ≤ 1000000000 := by rw [hfd]; omega
          clear hgo hkd hc2 hfd
          go_wp2_with (first
            | (go_at_call 128; refine HCM.out.mono ?_; rintro e2 x2 ⟨rfl, h2, hb2⟩)
            | (go_at_call 27; refine (next_st x2 h2).mono ?_; rintro e3 z ⟨rfl, hz⟩; have h3 := h2.below hz; have hb3 : But bp B x2 z := But.ofBelow (hz.mono h2.bp_lt.2))
            | (go_at_call 28; refine (fail_st 8 z h3).mono ?_; rintro e4 x4 ⟨rfl, h4, hb4⟩)
            | (go_at_call 112; refine (HC1.out _ _ h4 (hrq)).mono ?_; rintro e5 x5 ⟨rfl, h5, hb5⟩))
          go_roundw
          case rel => exact ⟨k + 1, f', (c.fail 8).ref, by go_num, by omega, h5, hB.trans (hb2.trans (hb3.trans (hb4.trans hb5))), by omega, by omega, HGO, by omega⟩
          case measure => simp [intOf]; omega
        · rw [if_neg (fun h => hkd h.2)] at hgo
          have HGO := hide hgo
          have b1 : ((c.next.kind : Int) == 1) = false := by simpa using hkd
          obtain ⟨hr1, _, hr3, _⟩ := ref_left c
          rw [hc2] at hr3
          have hrq : c.d.refs.length ≤ 1000000000 := by rw [hc2]; omega
          clear hgo hkd hc2
          go_wp2_with (first
            | (go_at_call 128; refine HCM.out.mono ?_; rintro e2 x2 ⟨rfl, h2, hb2⟩)
            | (go_at_call 27; refine (next_st x2 h2).mono ?_; rintro e3 z ⟨rfl, hz⟩; have h3 := h2.below hz; have hb3 : But bp B x2 z := But.ofBelow (hz.mono h2.bp_lt.2))
            | (go_at_call 112; refine (HC1.out _ _ h3 (hrq)).mono ?_; rintro e5 x5 ⟨rfl, h5, hb5⟩))
          go_roundw
          case rel => exact ⟨k + 1, f', (c).ref, by go_num, by omega, h5, hB.trans (hb2.trans (hb3.trans hb5)), by omega, by omega, HGO, by omega⟩
          case measure => simp [intOf]; omega
      · have b0 : ((k : Int) == 16) = false := by simp; omega
        rw [if_neg (fun h => hk16 h.1)] at hgo
        have HGO := hide hgo
        obtain ⟨hr1, _, hr3, _⟩ := ref_left c
        rw [hc2] at hr3
        have hrq : c.d.refs.length ≤ 1000000000 := by rw [hc2]; omega
        clear hgo hc2 hk16
        go_wp2_with (first
          | (go_at_call 128; refine HCM.out.mono ?_; rintro e2 x2 ⟨rfl, h2, hb2⟩)
          | (go_at_call 112; refine (HC1.out _ _ h2 (hrq)).mono ?_; rintro e5 x5 ⟨rfl, h5, hb5⟩))
        go_roundw
        case rel => exact ⟨k + 1, f', (c).ref, by go_num, by omega, h5, hB.trans (hb2.trans hb5), by omega, by omega, HGO, by omega⟩
        case measure => simp [intOf]; omega
end Go.Proofs.YtanhkeeifnimgaaDoor
