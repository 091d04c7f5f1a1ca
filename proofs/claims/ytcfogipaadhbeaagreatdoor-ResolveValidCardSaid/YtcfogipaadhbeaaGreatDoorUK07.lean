/- A part of the claim: see its last text. -/
import Derived.Test.YtcfogipaadhbeaaGreatDoorUK06
import Derived.Deep.RegionHeld3

set_option maxRecDepth 100000
set_option maxHeartbeats 16000000
namespace Go.Proofs.YtcfogipaadhbeaaGreatDoor
open Go Go.RowKit Go.Proofs
theorem add1_prog (B br mt bm : Nat) (V : MV) (m : Mod) (d : Decl) (ra na : Option Addr) (rc nc : Nat) (nv : Value) (w : World) (hA : AD B br mt w V m) (hB : B ≤ w.heap.size) (hbm : Blk w bm 92 #[.pointer (some ⟨br, 1, none⟩)]) (hz : d.name.size ≤ 16384) (hlen : m.sT.length ≤ 900000) :
    Calls Tryz.prog 51 #[.agg #[.int .i64 d.kind, .string d.name, .slice ra d.refs.length rc, .slice na d.nums.length nc, .int .i64 d.by_, .bool d.always], nv, .pointer (some ⟨bm, 0, none⟩)] w
     (AdnQ B br mt w ⟨m.sT ++ [d.name], m.fT, m.rT, m.mT, m.lT, m.iT, m.dT, m.oT, m.vT, m.aT, m.uT⟩) := by
 obtain ⟨wa, hwa⟩ : ∃ wa, wa = w.alloc (.cells #[.int .i64 d.kind, .string d.name, .slice ra d.refs.length rc, .slice na d.nums.length nc, .int .i64 d.by_, .bool d.always] 43) := ⟨_, rfl⟩
 have hba : Below w.heap.size w wa := by rw [hwa]; exact (Below.refl _ _).alloc (Nat.le_refl _) _
 have HXA := hide (show Blk wa w.heap.size 43 _ from by rw [hwa]; exact Blk.new w _ _)
 have HAA := hide (hA.below hba)
 have HBM := hide (hbm.below hba hbm.lt)
 have HBA := hide hba
 have HB := hide hB
 have HWA := hide hwa
 have HLEN := hide hlen
 have HSB := hide (fun (W : World) (h : Blk W bm 92 #[.pointer (some ⟨br, 1, none⟩)] ∧ Blk W w.heap.size 43 #[.int .i64 d.kind, .string d.name, .slice ra d.refs.length rc, .slice na d.nums.length nc, .int .i64 d.by_, .bool d.always] ∧ Below B wa W) => (⟨⟨h.1.cell 0, h.2.1.cell 1⟩, h⟩ : (W.cell? ⟨bm, 0, none⟩ = some (.pointer (some ⟨br, 1, none⟩)) ∧ W.cell? ⟨w.heap.size, 1, none⟩ = some (.string d.name)) ∧ Blk W bm 92 #[.pointer (some ⟨br, 1, none⟩)] ∧ Blk W w.heap.size 43 #[.int .i64 d.kind, .string d.name, .slice ra d.refs.length rc, .slice na d.nums.length nc, .int .i64 d.by_, .bool d.always] ∧ Below B wa W))
 have HKP := hide (fun (W W' : World) (row : Option Nat) (T : TypeId) (h : Blk W bm 92 #[.pointer (some ⟨br, 1, none⟩)] ∧ Blk W w.heap.size 43 #[.int .i64 d.kind, .string d.name, .slice ra d.refs.length rc, .slice na d.nums.length nc, .int .i64 d.by_, .bool d.always] ∧ Below B wa W) (hg : W.grownBy W' row) (hT : RowT W row T) (hn1 : ¬ 92 = T) (hn2 : ¬ 43 = T) (hn3 : ¬ 3 = T) (hr : ∀ g, row = some g → B ≤ g) => (⟨(hg.block _ h.1.lt (fun e => by obtain ⟨cs, hb⟩ := hT _ e.symm; have := h.1.symm.trans hb; simp at this; exact hn1 this.2)).trans h.1, (hg.block _ h.2.1.lt (fun e => by obtain ⟨cs, hb⟩ := hT _ e.symm; have := h.2.1.symm.trans hb; simp at this; exact hn2 this.2)).trans h.2.1, h.2.2.grown hg (Nat.le_trans (Nat.le_trans HB.out HBA.out.size) h.2.2.size) hr⟩ : Blk W' bm 92 #[.pointer (some ⟨br, 1, none⟩)] ∧ Blk W' w.heap.size 43 #[.int .i64 d.kind, .string d.name, .slice ra d.refs.length rc, .slice na d.nums.length nc, .int .i64 d.by_, .bool d.always] ∧ Below B wa W'))
 have cf := HAA.out.cells
 obtain ⟨A0, c0, er, hcr, _⟩ := HAA.out.rm.s.formD
 have old : wa.cell? ⟨br, 1, none⟩ = some (.slice A0 m.sT.length c0) := by rw [← er]; exact HAA.out.blk.cell 1
 have HER := hide er
 have cl := HAA.out.blk.lt
 obtain ⟨nl, hnl⟩ : ∃ nl, nl = m.sT.length := ⟨_, rfl⟩
 have HNL := hide hnl
 rw [← hnl] at old
 have HSB0 := hide (show Blk wa.drew bm 92 #[.pointer (some ⟨br, 1, none⟩)] ∧ Blk wa.drew w.heap.size 43 #[.int .i64 d.kind, .string d.name, .slice ra d.refs.length rc, .slice na d.nums.length nc, .int .i64 d.by_, .bool d.always] ∧ Below B wa wa.drew from ⟨HBM.out, HXA.out, (Below.refl _ _).drew⟩)
 clear cf hwa hba hA hbm hB er hcr hnl hlen
 go_enter Tryz.func51, Tryz.ntmps51
 go_upto_region 1 with (fail)
 rw [show (w.alloc (.cells #[.int .i64 d.kind, .string d.name, .slice ra d.refs.length rc, .slice na d.nums.length nc, .int .i64 d.by_, .bool d.always] 43)) = wa from HWA.out.symm]
 refine wp_region_held_drew (S := (fun W => (W.cell? ⟨bm, 0, none⟩ = some (.pointer (some ⟨br, 1, none⟩)) ∧ W.cell? ⟨w.heap.size, 1, none⟩ = some (.string d.name)) ∧ Blk W bm 92 #[.pointer (some ⟨br, 1, none⟩)] ∧ Blk W w.heap.size 43 #[.int .i64 d.kind, .string d.name, .slice ra d.refs.length rc, .slice na d.nums.length nc, .int .i64 d.by_, .bool d.always] ∧ Below B wa W)) (by kernel_rfl) (HSB.out _ HSB0.out) (fun hHeld => ?_)
 refine wpAnyH_take (i := 0) (oi := _) (v := ?_) rfl (by kernel_rfl) (by kernel_rfl) (by kernel_rfl) (fun _ _ _ h => h) (Or.inl ⟨by rfl, ?_⟩) hHeld ?_
 rotate_left
 · intro W hSw; (try dsimp only at hSw); go_simp; try with_reducible rfl
 simp only [Act.put, List.getElem_toArray, List.getElem_cons_zero, List.setIfInBounds_toArray, List.set_cons_zero, List.set_cons_succ]
 refine wpAnyH_take (i := 1) (oi := _) (v := ?_) rfl (by kernel_rfl) (by kernel_rfl) (by kernel_rfl) (fun _ _ _ h => h) (Or.inl ⟨by rfl, ?_⟩) hHeld ?_
 rotate_left
 · intro W hSw; (try dsimp only at hSw); go_simp; try with_reducible rfl
 simp only [Act.put, List.getElem_toArray, List.getElem_cons_succ, List.getElem_cons_zero, List.setIfInBounds_toArray, List.set_cons_zero, List.set_cons_succ]
 refine wpAnyH_take (i := 2) (oi := _) (v := ?_) rfl (by kernel_rfl) (by kernel_rfl) (by kernel_rfl) (fun _ _ _ h => h) (Or.inl ⟨by rfl, ?_⟩) hHeld ?_
 rotate_left
 · intro W hSw; (try dsimp only at hSw); go_simp; try with_reducible rfl
 simp only [Act.put, List.getElem_toArray, List.getElem_cons_succ, List.getElem_cons_zero, List.setIfInBounds_toArray, List.set_cons_zero, List.set_cons_succ]
 refine wpAnyH_take (i := 3) (oi := _) (v := ?_) rfl (by kernel_rfl) (by kernel_rfl) (by kernel_rfl) (fun _ _ _ h => h) (Or.inl ⟨by rfl, ?_⟩) hHeld ?_
 rotate_left
 · intro W hSw; (try dsimp only at hSw); go_simp; try with_reducible rfl
 simp only [Act.put, List.getElem_toArray, List.getElem_cons_succ, List.getElem_cons_zero, List.setIfInBounds_toArray, List.set_cons_zero, List.set_cons_succ]
 refine wpAnyH_take (i := 5) (oi := _) (v := ?_) rfl (by kernel_rfl) (by kernel_rfl) (by kernel_rfl) (fun _ _ _ h => h) (Or.inl ⟨by rfl, ?_⟩) hHeld ?_
 rotate_left
 · intro W hSw; (try dsimp only at hSw); go_simp; try with_reducible rfl
 simp only [Act.put, List.getElem_toArray, List.getElem_cons_succ, List.getElem_cons_zero, List.setIfInBounds_toArray, List.set_cons_zero, List.set_cons_succ]
 refine wpAnyH_take (i := 6) (oi := _) (v := ?_) rfl (by kernel_rfl) (by kernel_rfl) (by kernel_rfl) (fun _ _ _ h => h) (Or.inl ⟨by rfl, ?_⟩) hHeld ?_
 rotate_left
 · intro W hSw; (try dsimp only at hSw); go_simp; try with_reducible rfl
 simp only [Act.put, List.getElem_toArray, List.getElem_cons_succ, List.getElem_cons_zero, List.setIfInBounds_toArray, List.set_cons_zero, List.set_cons_succ]
 have HSB1 := hide (HKP.out wa.drew (wa.alloc (.cells #[.string d.name] 9)).drew none 4 HSB0.out ⟨rfl, rfl, rfl, by simp, fun i hi _ => Below.heap_alloc wa _ i (by simpa using hi)⟩ (RowT.none_ _ _) (by decide) (by decide) (by decide) (fun g e => by cases e))
 refine wpAnyH_ready (rs := [4, 7]) (by kernel_rfl) (by simp) ?_
 refine AllReadyH.cons rfl (fun K hK => ?_) (AllReadyH.cons rfl (fun K hK => ?_) AllReadyH.nil)
 · go_simp
   refine hK.out _ _ (HSB.out _ HSB0.out) (fun hHeld => ?_)
   clear hK K
   refine wpAnyH_ready (rs := [7]) (by kernel_rfl) (by simp) ?_
   refine AllReadyH.cons rfl (fun K hK => ?_) AllReadyH.nil
   go_simp
   refine hK.out _ _ (HSB.out _ HSB1.out) (fun hHeld => ?_)
   clear hK K
   refine wpAnyH_ready (rs := [8]) (by kernel_rfl) (by simp) ?_
   refine AllReadyH.cons rfl (fun K hK => ?_) AllReadyH.nil
   refine step_append_strs rfl _ _ rfl B (.slice A0 nl c0) m.sT rfl ((show OwnS B wa (.slice A0 nl c0) m.sT from by rw [HNL.out, ← HER.out]; exact HAA.out.rm.s).below ((Below.refl _ wa).alloc (Nat.le_refl _) _).drew) _ _ 1 [d.name] rfl (Strs.newRow wa 9 [d.name]) (by have := HLEN.out; simp; omega) (by have := HBA.out.size; have := HB.out; simp; omega) ?_
   intro v1 w1 ho1 hg1 hv1
   have hbb := (Below.refl wa.heap.size wa).alloc (Nat.le_refl _) (.cells #[.string d.name] 9)
   have ha1 := HAA.out.below hbb
   have hg2 : (wa.alloc (.cells #[.string d.name] 9)).grownBy w1 V.s.ownBlock := by rw [HER.out, ← HNL.out]; exact ⟨hg1.os, hg1.tape, hg1.output, hg1.size, hg1.block⟩
   have hrT := RowT.own ha1.rm.s
   have hlo : ∀ g, V.s.ownBlock = some g → B ≤ g := fun g e => (ha1.rm.s.lt g e).1
   have hsb2 := HKP.out _ w1 _ _ HSB1.out (show (wa.alloc (.cells #[.string d.name] 9)).drew.grownBy w1 V.s.ownBlock from ⟨hg2.os, hg2.tape, hg2.output, hg2.size, hg2.block⟩) hrT (by decide) (by decide) (by decide) hlo
   have hv2 : v1.ownBlock = V.s.ownBlock ∨ v1.ownBlock = some (wa.alloc (.cells #[.string d.name] 9)).heap.size := by rw [HER.out, ← HNL.out]; exact hv1
   have hb2 : Blk w1 br 53 (resC mt V m) := (hg2.block br ha1.blk.lt (fun e => by obtain ⟨cs, hb⟩ := hrT _ e.symm; have := ha1.blk.symm.trans hb; first | (simp at this; done) | (simp at this; exact absurd this.2 (by decide)))).trans ha1.blk
   have hrm := ha1.rm.site ho1 hg2 hv2 hz
   have had := AD.put (mt := mt) (V' := ⟨v1, V.f, V.r, V.m, V.l, V.i, V.u⟩) (m' := ⟨m.sT ++ [d.name], m.fT, m.rT, m.mT, m.lT, m.iT, m.dT, m.oT, m.vT, m.aT, m.uT⟩) hb2 HAA.out.hB hrm (i := 1) (u := v1) rfl
   have f3 := hb2.frozen 1
   have q3 : w1.cell? ⟨br, 1, none⟩ = some V.s := hb2.cell 1
   have l3 := hb2.lt
   have hkx := ((KX.of_below HBA.out).trans (KX.of_below hbb)).trans ((KX.row hg2 hrT (by decide)).trans (KX.set_ hb2 (by decide) 1 v1))
   have hbw : Below B w (w1.setCell ⟨br, 1, none⟩ v1) := (((HBA.out.mono HB.out).trans hsb2.2.2)).setCell (p := ⟨br, 1, none⟩) HAA.out.hB v1
   have HFIN := hide (And.intro had (And.intro hbw hkx))
   have HSB2 := hide hsb2
   have HSB3 := hide (HKP.out w1 (w1.setCell ⟨br, 1, none⟩ v1) (some br) 53 hsb2 (But.set_ (B := w1.heap.size) w1 1 v1).grown (fun g e => by cases e; exact ⟨_, hb2⟩) (by decide) (by decide) (by decide) (fun g e => by cases e; exact HAA.out.hB))
   obtain ⟨A9, c9, e9, _, _⟩ := ho1.formD
   obtain ⟨n9, hn9⟩ : ∃ n9, n9 = (m.sT ++ [d.name]).length := ⟨_, rfl⟩
   rw [← hn9] at e9
   subst e9
   clear hn9 ho1 hg1 hv1 hbb ha1 hg2 hrT hlo hsb2 hb2 hrm had hkx hbw hv2
   (try dsimp only)
   refine hK.out _ _ (HSB.out _ HSB2.out) (fun hHeld => ?_)
   clear hK K
   refine wpAnyH_take (i := 9) (oi := _) (v := ?_) rfl (by kernel_rfl) (by kernel_rfl) (by kernel_rfl) (fun _ _ _ h => h) (Or.inl ⟨by rfl, ?_⟩) hHeld ?_
   rotate_left
   · intro W hSw; (try dsimp only at hSw); go_simp; try with_reducible rfl
   simp only [Act.put, List.getElem_toArray, List.getElem_cons_succ, List.getElem_cons_zero, List.setIfInBounds_toArray, List.set_cons_zero, List.set_cons_succ]
   refine wpAnyH_take (i := 10) (oi := _) (v := ?_) rfl (by kernel_rfl) (by kernel_rfl) (by kernel_rfl) (fun _ _ _ h => h) (Or.inl ⟨by rfl, ?_⟩) hHeld ?_
   rotate_left
   · intro W hSw; (try dsimp only at hSw); go_simp; try with_reducible rfl
   simp only [Act.put, List.getElem_toArray, List.getElem_cons_succ, List.getElem_cons_zero, List.setIfInBounds_toArray, List.set_cons_zero, List.set_cons_succ]
   refine wpAnyH_ready (rs := [11]) (by kernel_rfl) (by simp) ?_
   refine AllReadyH.cons rfl (fun K hK => ?_) AllReadyH.nil
   go_simp
   refine hK.out _ _ (HSB.out _ HSB3.out) (fun hHeld => ?_)
   clear hK K
   refine wpAnyH_done (by kernel_rfl) ?_ _
   go_wp2_with fail
   go_end0
   exact ⟨rfl, ⟨_, HFIN.out.1⟩, HFIN.out.2.1, HFIN.out.2.2⟩
 · go_simp
   refine hK.out _ _ (HSB.out _ HSB1.out) (fun hHeld => ?_)
   clear hK K
   refine wpAnyH_ready (rs := [4]) (by kernel_rfl) (by simp) ?_
   refine AllReadyH.cons rfl (fun K hK => ?_) AllReadyH.nil
   go_simp
   refine hK.out _ _ (HSB.out _ HSB1.out) (fun hHeld => ?_)
   clear hK K
   refine wpAnyH_ready (rs := [8]) (by kernel_rfl) (by simp) ?_
   refine AllReadyH.cons rfl (fun K hK => ?_) AllReadyH.nil
   refine step_append_strs rfl _ _ rfl B (.slice A0 nl c0) m.sT rfl ((show OwnS B wa (.slice A0 nl c0) m.sT from by rw [HNL.out, ← HER.out]; exact HAA.out.rm.s).below ((Below.refl _ wa).alloc (Nat.le_refl _) _).drew) _ _ 1 [d.name] rfl (Strs.newRow wa 9 [d.name]) (by have := HLEN.out; simp; omega) (by have := HBA.out.size; have := HB.out; simp; omega) ?_
   intro v1 w1 ho1 hg1 hv1
   have hbb := (Below.refl wa.heap.size wa).alloc (Nat.le_refl _) (.cells #[.string d.name] 9)
   have ha1 := HAA.out.below hbb
   have hg2 : (wa.alloc (.cells #[.string d.name] 9)).grownBy w1 V.s.ownBlock := by rw [HER.out, ← HNL.out]; exact ⟨hg1.os, hg1.tape, hg1.output, hg1.size, hg1.block⟩
   have hrT := RowT.own ha1.rm.s
   have hlo : ∀ g, V.s.ownBlock = some g → B ≤ g := fun g e => (ha1.rm.s.lt g e).1
   have hsb2 := HKP.out _ w1 _ _ HSB1.out (show (wa.alloc (.cells #[.string d.name] 9)).drew.grownBy w1 V.s.ownBlock from ⟨hg2.os, hg2.tape, hg2.output, hg2.size, hg2.block⟩) hrT (by decide) (by decide) (by decide) hlo
   have hv2 : v1.ownBlock = V.s.ownBlock ∨ v1.ownBlock = some (wa.alloc (.cells #[.string d.name] 9)).heap.size := by rw [HER.out, ← HNL.out]; exact hv1
   have hb2 : Blk w1 br 53 (resC mt V m) := (hg2.block br ha1.blk.lt (fun e => by obtain ⟨cs, hb⟩ := hrT _ e.symm; have := ha1.blk.symm.trans hb; first | (simp at this; done) | (simp at this; exact absurd this.2 (by decide)))).trans ha1.blk
   have hrm := ha1.rm.site ho1 hg2 hv2 hz
   have had := AD.put (mt := mt) (V' := ⟨v1, V.f, V.r, V.m, V.l, V.i, V.u⟩) (m' := ⟨m.sT ++ [d.name], m.fT, m.rT, m.mT, m.lT, m.iT, m.dT, m.oT, m.vT, m.aT, m.uT⟩) hb2 HAA.out.hB hrm (i := 1) (u := v1) rfl
   have f3 := hb2.frozen 1
   have q3 : w1.cell? ⟨br, 1, none⟩ = some V.s := hb2.cell 1
   have l3 := hb2.lt
   have hkx := ((KX.of_below HBA.out).trans (KX.of_below hbb)).trans ((KX.row hg2 hrT (by decide)).trans (KX.set_ hb2 (by decide) 1 v1))
   have hbw : Below B w (w1.setCell ⟨br, 1, none⟩ v1) := (((HBA.out.mono HB.out).trans hsb2.2.2)).setCell (p := ⟨br, 1, none⟩) HAA.out.hB v1
   have HFIN := hide (And.intro had (And.intro hbw hkx))
   have HSB2 := hide hsb2
   have HSB3 := hide (HKP.out w1 (w1.setCell ⟨br, 1, none⟩ v1) (some br) 53 hsb2 (But.set_ (B := w1.heap.size) w1 1 v1).grown (fun g e => by cases e; exact ⟨_, hb2⟩) (by decide) (by decide) (by decide) (fun g e => by cases e; exact HAA.out.hB))
   obtain ⟨A9, c9, e9, _, _⟩ := ho1.formD
   obtain ⟨n9, hn9⟩ : ∃ n9, n9 = (m.sT ++ [d.name]).length := ⟨_, rfl⟩
   rw [← hn9] at e9
   subst e9
   clear hn9 ho1 hg1 hv1 hbb ha1 hg2 hrT hlo hsb2 hb2 hrm had hkx hbw hv2
   (try dsimp only)
   refine hK.out _ _ (HSB.out _ HSB2.out) (fun hHeld => ?_)
   clear hK K
   refine wpAnyH_take (i := 9) (oi := _) (v := ?_) rfl (by kernel_rfl) (by kernel_rfl) (by kernel_rfl) (fun _ _ _ h => h) (Or.inl ⟨by rfl, ?_⟩) hHeld ?_
   rotate_left
   · intro W hSw; (try dsimp only at hSw); go_simp; try with_reducible rfl
   simp only [Act.put, List.getElem_toArray, List.getElem_cons_succ, List.getElem_cons_zero, List.setIfInBounds_toArray, List.set_cons_zero, List.set_cons_succ]
   refine wpAnyH_take (i := 10) (oi := _) (v := ?_) rfl (by kernel_rfl) (by kernel_rfl) (by kernel_rfl) (fun _ _ _ h => h) (Or.inl ⟨by rfl, ?_⟩) hHeld ?_
   rotate_left
   · intro W hSw; (try dsimp only at hSw); go_simp; try with_reducible rfl
   simp only [Act.put, List.getElem_toArray, List.getElem_cons_succ, List.getElem_cons_zero, List.setIfInBounds_toArray, List.set_cons_zero, List.set_cons_succ]
   refine wpAnyH_ready (rs := [11]) (by kernel_rfl) (by simp) ?_
   refine AllReadyH.cons rfl (fun K hK => ?_) AllReadyH.nil
   go_simp
   refine hK.out _ _ (HSB.out _ HSB3.out) (fun hHeld => ?_)
   clear hK K
   refine wpAnyH_done (by kernel_rfl) ?_ _
   go_wp2_with fail
   go_end0
   exact ⟨rfl, ⟨_, HFIN.out.1⟩, HFIN.out.2.1, HFIN.out.2.2⟩
theorem add2_prog (B br mt bm : Nat) (V : MV) (m : Mod) (d : Decl) (ra na : Option Addr) (rc nc : Nat) (nv : Value) (w : World) (hA : AD B br mt w V m) (hB : B ≤ w.heap.size) (hbm : Blk w bm 92 #[.pointer (some ⟨br, 1, none⟩)]) (hz : d.name.size ≤ 16384) (hlen : m.fT.length ≤ 900000) :
    Calls Tryz.prog 52 #[.agg #[.int .i64 d.kind, .string d.name, .slice ra d.refs.length rc, .slice na d.nums.length nc, .int .i64 d.by_, .bool d.always], nv, .pointer (some ⟨bm, 0, none⟩)] w
     (AdnQ B br mt w ⟨m.sT, m.fT ++ [d.name], m.rT, m.mT, m.lT, m.iT, m.dT, m.oT, m.vT, m.aT, m.uT⟩) := by
 obtain ⟨wa, hwa⟩ : ∃ wa, wa = w.alloc (.cells #[.int .i64 d.kind, .string d.name, .slice ra d.refs.length rc, .slice na d.nums.length nc, .int .i64 d.by_, .bool d.always] 43) := ⟨_, rfl⟩
 have hba : Below w.heap.size w wa := by rw [hwa]; exact (Below.refl _ _).alloc (Nat.le_refl _) _
 have HXA := hide (show Blk wa w.heap.size 43 _ from by rw [hwa]; exact Blk.new w _ _)
 have HAA := hide (hA.below hba)
 have HBM := hide (hbm.below hba hbm.lt)
 have HBA := hide hba
 have HB := hide hB
 have HWA := hide hwa
 have HLEN := hide hlen
 have HSB := hide (fun (W : World) (h : Blk W bm 92 #[.pointer (some ⟨br, 1, none⟩)] ∧ Blk W w.heap.size 43 #[.int .i64 d.kind, .string d.name, .slice ra d.refs.length rc, .slice na d.nums.length nc, .int .i64 d.by_, .bool d.always] ∧ Below B wa W) => (⟨⟨h.1.cell 0, h.2.1.cell 1⟩, h⟩ : (W.cell? ⟨bm, 0, none⟩ = some (.pointer (some ⟨br, 1, none⟩)) ∧ W.cell? ⟨w.heap.size, 1, none⟩ = some (.string d.name)) ∧ Blk W bm 92 #[.pointer (some ⟨br, 1, none⟩)] ∧ Blk W w.heap.size 43 #[.int .i64 d.kind, .string d.name, .slice ra d.refs.length rc, .slice na d.nums.length nc, .int .i64 d.by_, .bool d.always] ∧ Below B wa W))
 have HKP := hide (fun (W W' : World) (row : Option Nat) (T : TypeId) (h : Blk W bm 92 #[.pointer (some ⟨br, 1, none⟩)] ∧ Blk W w.heap.size 43 #[.int .i64 d.kind, .string d.name, .slice ra d.refs.length rc, .slice na d.nums.length nc, .int .i64 d.by_, .bool d.always] ∧ Below B wa W) (hg : W.grownBy W' row) (hT : RowT W row T) (hn1 : ¬ 92 = T) (hn2 : ¬ 43 = T) (hn3 : ¬ 3 = T) (hr : ∀ g, row = some g → B ≤ g) => (⟨(hg.block _ h.1.lt (fun e => by obtain ⟨cs, hb⟩ := hT _ e.symm; have := h.1.symm.trans hb; simp at this; exact hn1 this.2)).trans h.1, (hg.block _ h.2.1.lt (fun e => by obtain ⟨cs, hb⟩ := hT _ e.symm; have := h.2.1.symm.trans hb; simp at this; exact hn2 this.2)).trans h.2.1, h.2.2.grown hg (Nat.le_trans (Nat.le_trans HB.out HBA.out.size) h.2.2.size) hr⟩ : Blk W' bm 92 #[.pointer (some ⟨br, 1, none⟩)] ∧ Blk W' w.heap.size 43 #[.int .i64 d.kind, .string d.name, .slice ra d.refs.length rc, .slice na d.nums.length nc, .int .i64 d.by_, .bool d.always] ∧ Below B wa W'))
 have cf := HAA.out.cells
 obtain ⟨A0, c0, er, hcr, _⟩ := HAA.out.rm.f.formD
 have old : wa.cell? ⟨br, 2, none⟩ = some (.slice A0 m.fT.length c0) := by rw [← er]; exact HAA.out.blk.cell 2
 have HER := hide er
 have cl := HAA.out.blk.lt
 obtain ⟨nl, hnl⟩ : ∃ nl, nl = m.fT.length := ⟨_, rfl⟩
 have HNL := hide hnl
 rw [← hnl] at old
 have HSB0 := hide (show Blk wa.drew bm 92 #[.pointer (some ⟨br, 1, none⟩)] ∧ Blk wa.drew w.heap.size 43 #[.int .i64 d.kind, .string d.name, .slice ra d.refs.length rc, .slice na d.nums.length nc, .int .i64 d.by_, .bool d.always] ∧ Below B wa wa.drew from ⟨HBM.out, HXA.out, (Below.refl _ _).drew⟩)
 clear cf hwa hba hA hbm hB er hcr hnl hlen
 go_enter Tryz.func52, Tryz.ntmps52
 go_upto_region 1 with (fail)
 rw [show (w.alloc (.cells #[.int .i64 d.kind, .string d.name, .slice ra d.refs.length rc, .slice na d.nums.length nc, .int .i64 d.by_, .bool d.always] 43)) = wa from HWA.out.symm]
 refine wp_region_held_drew (S := (fun W => (W.cell? ⟨bm, 0, none⟩ = some (.pointer (some ⟨br, 1, none⟩)) ∧ W.cell? ⟨w.heap.size, 1, none⟩ = some (.string d.name)) ∧ Blk W bm 92 #[.pointer (some ⟨br, 1, none⟩)] ∧ Blk W w.heap.size 43 #[.int .i64 d.kind, .string d.name, .slice ra d.refs.length rc, .slice na d.nums.length nc, .int .i64 d.by_, .bool d.always] ∧ Below B wa W)) (by kernel_rfl) (HSB.out _ HSB0.out) (fun hHeld => ?_)
 refine wpAnyH_take (i := 0) (oi := _) (v := ?_) rfl (by kernel_rfl) (by kernel_rfl) (by kernel_rfl) (fun _ _ _ h => h) (Or.inl ⟨by rfl, ?_⟩) hHeld ?_
 rotate_left
 · intro W hSw; (try dsimp only at hSw); go_simp; try with_reducible rfl
 simp only [Act.put, List.getElem_toArray, List.getElem_cons_zero, List.setIfInBounds_toArray, List.set_cons_zero, List.set_cons_succ]
 refine wpAnyH_take (i := 1) (oi := _) (v := ?_) rfl (by kernel_rfl) (by kernel_rfl) (by kernel_rfl) (fun _ _ _ h => h) (Or.inl ⟨by rfl, ?_⟩) hHeld ?_
 rotate_left
 · intro W hSw; (try dsimp only at hSw); go_simp; try with_reducible rfl
 simp only [Act.put, List.getElem_toArray, List.getElem_cons_succ, List.getElem_cons_zero, List.setIfInBounds_toArray, List.set_cons_zero, List.set_cons_succ]
 refine wpAnyH_take (i := 2) (oi := _) (v := ?_) rfl (by kernel_rfl) (by kernel_rfl) (by kernel_rfl) (fun _ _ _ h => h) (Or.inl ⟨by rfl, ?_⟩) hHeld ?_
 rotate_left
 · intro W hSw; (try dsimp only at hSw); go_simp; try with_reducible rfl
 simp only [Act.put, List.getElem_toArray, List.getElem_cons_succ, List.getElem_cons_zero, List.setIfInBounds_toArray, List.set_cons_zero, List.set_cons_succ]
 refine wpAnyH_take (i := 3) (oi := _) (v := ?_) rfl (by kernel_rfl) (by kernel_rfl) (by kernel_rfl) (fun _ _ _ h => h) (Or.inl ⟨by rfl, ?_⟩) hHeld ?_
 rotate_left
 · intro W hSw; (try dsimp only at hSw); go_simp; try with_reducible rfl
 simp only [Act.put, List.getElem_toArray, List.getElem_cons_succ, List.getElem_cons_zero, List.setIfInBounds_toArray, List.set_cons_zero, List.set_cons_succ]
 refine wpAnyH_take (i := 5) (oi := _) (v := ?_) rfl (by kernel_rfl) (by kernel_rfl) (by kernel_rfl) (fun _ _ _ h => h) (Or.inl ⟨by rfl, ?_⟩) hHeld ?_
 rotate_left
 · intro W hSw; (try dsimp only at hSw); go_simp; try with_reducible rfl
 simp only [Act.put, List.getElem_toArray, List.getElem_cons_succ, List.getElem_cons_zero, List.setIfInBounds_toArray, List.set_cons_zero, List.set_cons_succ]
 refine wpAnyH_take (i := 6) (oi := _) (v := ?_) rfl (by kernel_rfl) (by kernel_rfl) (by kernel_rfl) (fun _ _ _ h => h) (Or.inl ⟨by rfl, ?_⟩) hHeld ?_
 rotate_left
 · intro W hSw; (try dsimp only at hSw); go_simp; try with_reducible rfl
 simp only [Act.put, List.getElem_toArray, List.getElem_cons_succ, List.getElem_cons_zero, List.setIfInBounds_toArray, List.set_cons_zero, List.set_cons_succ]
 have HSB1 := hide (HKP.out wa.drew (wa.alloc (.cells #[.string d.name] 9)).drew none 4 HSB0.out ⟨rfl, rfl, rfl, by simp, fun i hi _ => Below.heap_alloc wa _ i (by simpa using hi)⟩ (RowT.none_ _ _) (by decide) (by decide) (by decide) (fun g e => by cases e))
 refine wpAnyH_ready (rs := [4, 7]) (by kernel_rfl) (by simp) ?_
 refine AllReadyH.cons rfl (fun K hK => ?_) (AllReadyH.cons rfl (fun K hK => ?_) AllReadyH.nil)
 · go_simp
   refine hK.out _ _ (HSB.out _ HSB0.out) (fun hHeld => ?_)
   clear hK K
   refine wpAnyH_ready (rs := [7]) (by kernel_rfl) (by simp) ?_
   refine AllReadyH.cons rfl (fun K hK => ?_) AllReadyH.nil
   go_simp
   refine hK.out _ _ (HSB.out _ HSB1.out) (fun hHeld => ?_)
   clear hK K
   refine wpAnyH_ready (rs := [8]) (by kernel_rfl) (by simp) ?_
   refine AllReadyH.cons rfl (fun K hK => ?_) AllReadyH.nil
   refine step_append_strs rfl _ _ rfl B (.slice A0 nl c0) m.fT rfl ((show OwnS B wa (.slice A0 nl c0) m.fT from by rw [HNL.out, ← HER.out]; exact HAA.out.rm.f).below ((Below.refl _ wa).alloc (Nat.le_refl _) _).drew) _ _ 1 [d.name] rfl (Strs.newRow wa 9 [d.name]) (by have := HLEN.out; simp; omega) (by have := HBA.out.size; have := HB.out; simp; omega) ?_
   intro v1 w1 ho1 hg1 hv1
   have hbb := (Below.refl wa.heap.size wa).alloc (Nat.le_refl _) (.cells #[.string d.name] 9)
   have ha1 := HAA.out.below hbb
   have hg2 : (wa.alloc (.cells #[.string d.name] 9)).grownBy w1 V.f.ownBlock := by rw [HER.out, ← HNL.out]; exact ⟨hg1.os, hg1.tape, hg1.output, hg1.size, hg1.block⟩
   have hrT := RowT.own ha1.rm.f
   have hlo : ∀ g, V.f.ownBlock = some g → B ≤ g := fun g e => (ha1.rm.f.lt g e).1
   have hsb2 := HKP.out _ w1 _ _ HSB1.out (show (wa.alloc (.cells #[.string d.name] 9)).drew.grownBy w1 V.f.ownBlock from ⟨hg2.os, hg2.tape, hg2.output, hg2.size, hg2.block⟩) hrT (by decide) (by decide) (by decide) hlo
   have hv2 : v1.ownBlock = V.f.ownBlock ∨ v1.ownBlock = some (wa.alloc (.cells #[.string d.name] 9)).heap.size := by rw [HER.out, ← HNL.out]; exact hv1
   have hb2 : Blk w1 br 53 (resC mt V m) := (hg2.block br ha1.blk.lt (fun e => by obtain ⟨cs, hb⟩ := hrT _ e.symm; have := ha1.blk.symm.trans hb; first | (simp at this; done) | (simp at this; exact absurd this.2 (by decide)))).trans ha1.blk
   have hrm := ha1.rm.feed ho1 hg2 hv2 hz
   have had := AD.put (mt := mt) (V' := ⟨V.s, v1, V.r, V.m, V.l, V.i, V.u⟩) (m' := ⟨m.sT, m.fT ++ [d.name], m.rT, m.mT, m.lT, m.iT, m.dT, m.oT, m.vT, m.aT, m.uT⟩) hb2 HAA.out.hB hrm (i := 2) (u := v1) rfl
   have f3 := hb2.frozen 2
   have q3 : w1.cell? ⟨br, 2, none⟩ = some V.f := hb2.cell 2
   have l3 := hb2.lt
   have hkx := ((KX.of_below HBA.out).trans (KX.of_below hbb)).trans ((KX.row hg2 hrT (by decide)).trans (KX.set_ hb2 (by decide) 2 v1))
   have hbw : Below B w (w1.setCell ⟨br, 2, none⟩ v1) := (((HBA.out.mono HB.out).trans hsb2.2.2)).setCell (p := ⟨br, 2, none⟩) HAA.out.hB v1
   have HFIN := hide (And.intro had (And.intro hbw hkx))
   have HSB2 := hide hsb2
   have HSB3 := hide (HKP.out w1 (w1.setCell ⟨br, 2, none⟩ v1) (some br) 53 hsb2 (But.set_ (B := w1.heap.size) w1 2 v1).grown (fun g e => by cases e; exact ⟨_, hb2⟩) (by decide) (by decide) (by decide) (fun g e => by cases e; exact HAA.out.hB))
   obtain ⟨A9, c9, e9, _, _⟩ := ho1.formD
   obtain ⟨n9, hn9⟩ : ∃ n9, n9 = (m.fT ++ [d.name]).length := ⟨_, rfl⟩
   rw [← hn9] at e9
   subst e9
   clear hn9 ho1 hg1 hv1 hbb ha1 hg2 hrT hlo hsb2 hb2 hrm had hkx hbw hv2
   (try dsimp only)
   refine hK.out _ _ (HSB.out _ HSB2.out) (fun hHeld => ?_)
   clear hK K
   refine wpAnyH_take (i := 9) (oi := _) (v := ?_) rfl (by kernel_rfl) (by kernel_rfl) (by kernel_rfl) (fun _ _ _ h => h) (Or.inl ⟨by rfl, ?_⟩) hHeld ?_
   rotate_left
   · intro W hSw; (try dsimp only at hSw); go_simp; try with_reducible rfl
   simp only [Act.put, List.getElem_toArray, List.getElem_cons_succ, List.getElem_cons_zero, List.setIfInBounds_toArray, List.set_cons_zero, List.set_cons_succ]
   refine wpAnyH_take (i := 10) (oi := _) (v := ?_) rfl (by kernel_rfl) (by kernel_rfl) (by kernel_rfl) (fun _ _ _ h => h) (Or.inl ⟨by rfl, ?_⟩) hHeld ?_
   rotate_left
   · intro W hSw; (try dsimp only at hSw); go_simp; try with_reducible rfl
   simp only [Act.put, List.getElem_toArray, List.getElem_cons_succ, List.getElem_cons_zero, List.setIfInBounds_toArray, List.set_cons_zero, List.set_cons_succ]
   refine wpAnyH_ready (rs := [11]) (by kernel_rfl) (by simp) ?_
   refine AllReadyH.cons rfl (fun K hK => ?_) AllReadyH.nil
   go_simp
   refine hK.out _ _ (HSB.out _ HSB3.out) (fun hHeld => ?_)
   clear hK K
   refine wpAnyH_done (by kernel_rfl) ?_ _
   go_wp2_with fail
   go_end0
   exact ⟨rfl, ⟨_, HFIN.out.1⟩, HFIN.out.2.1, HFIN.out.2.2⟩
 · go_simp
   refine hK.out _ _ (HSB.out _ HSB1.out) (fun hHeld => ?_)
   clear hK K
   refine wpAnyH_ready (rs := [4]) (by kernel_rfl) (by simp) ?_
   refine AllReadyH.cons rfl (fun K hK => ?_) AllReadyH.nil
   go_simp
   refine hK.out _ _ (HSB.out _ HSB1.out) (fun hHeld => ?_)
   clear hK K
   refine wpAnyH_ready (rs := [8]) (by kernel_rfl) (by simp) ?_
   refine AllReadyH.cons rfl (fun K hK => ?_) AllReadyH.nil
   refine step_append_strs rfl _ _ rfl B (.slice A0 nl c0) m.fT rfl ((show OwnS B wa (.slice A0 nl c0) m.fT from by rw [HNL.out, ← HER.out]; exact HAA.out.rm.f).below ((Below.refl _ wa).alloc (Nat.le_refl _) _).drew) _ _ 1 [d.name] rfl (Strs.newRow wa 9 [d.name]) (by have := HLEN.out; simp; omega) (by have := HBA.out.size; have := HB.out; simp; omega) ?_
   intro v1 w1 ho1 hg1 hv1
   have hbb := (Below.refl wa.heap.size wa).alloc (Nat.le_refl _) (.cells #[.string d.name] 9)
   have ha1 := HAA.out.below hbb
   have hg2 : (wa.alloc (.cells #[.string d.name] 9)).grownBy w1 V.f.ownBlock := by rw [HER.out, ← HNL.out]; exact ⟨hg1.os, hg1.tape, hg1.output, hg1.size, hg1.block⟩
   have hrT := RowT.own ha1.rm.f
   have hlo : ∀ g, V.f.ownBlock = some g → B ≤ g := fun g e => (ha1.rm.f.lt g e).1
   have hsb2 := HKP.out _ w1 _ _ HSB1.out (show (wa.alloc (.cells #[.string d.name] 9)).drew.grownBy w1 V.f.ownBlock from ⟨hg2.os, hg2.tape, hg2.output, hg2.size, hg2.block⟩) hrT (by decide) (by decide) (by decide) hlo
   have hv2 : v1.ownBlock = V.f.ownBlock ∨ v1.ownBlock = some (wa.alloc (.cells #[.string d.name] 9)).heap.size := by rw [HER.out, ← HNL.out]; exact hv1
   have hb2 : Blk w1 br 53 (resC mt V m) := (hg2.block br ha1.blk.lt (fun e => by obtain ⟨cs, hb⟩ := hrT _ e.symm; have := ha1.blk.symm.trans hb; first | (simp at this; done) | (simp at this; exact absurd this.2 (by decide)))).trans ha1.blk
   have hrm := ha1.rm.feed ho1 hg2 hv2 hz
   have had := AD.put (mt := mt) (V' := ⟨V.s, v1, V.r, V.m, V.l, V.i, V.u⟩) (m' := ⟨m.sT, m.fT ++ [d.name], m.rT, m.mT, m.lT, m.iT, m.dT, m.oT, m.vT, m.aT, m.uT⟩) hb2 HAA.out.hB hrm (i := 2) (u := v1) rfl
   have f3 := hb2.frozen 2
   have q3 : w1.cell? ⟨br, 2, none⟩ = some V.f := hb2.cell 2
   have l3 := hb2.lt
   have hkx := ((KX.of_below HBA.out).trans (KX.of_below hbb)).trans ((KX.row hg2 hrT (by decide)).trans (KX.set_ hb2 (by decide) 2 v1))
   have hbw : Below B w (w1.setCell ⟨br, 2, none⟩ v1) := (((HBA.out.mono HB.out).trans hsb2.2.2)).setCell (p := ⟨br, 2, none⟩) HAA.out.hB v1
   have HFIN := hide (And.intro had (And.intro hbw hkx))
   have HSB2 := hide hsb2
   have HSB3 := hide (HKP.out w1 (w1.setCell ⟨br, 2, none⟩ v1) (some br) 53 hsb2 (But.set_ (B := w1.heap.size) w1 2 v1).grown (fun g e => by cases e; exact ⟨_, hb2⟩) (by decide) (by decide) (by decide) (fun g e => by cases e; exact HAA.out.hB))
   obtain ⟨A9, c9, e9, _, _⟩ := ho1.formD
   obtain ⟨n9, hn9⟩ : ∃ n9, n9 = (m.fT ++ [d.name]).length := ⟨_, rfl⟩
   rw [← hn9] at e9
   subst e9
   clear hn9 ho1 hg1 hv1 hbb ha1 hg2 hrT hlo hsb2 hb2 hrm had hkx hbw hv2
   (try dsimp only)
   refine hK.out _ _ (HSB.out _ HSB2.out) (fun hHeld => ?_)
   clear hK K
   refine wpAnyH_take (i := 9) (oi := _) (v := ?_) rfl (by kernel_rfl) (by kernel_rfl) (by kernel_rfl) (fun _ _ _ h => h) (Or.inl ⟨by rfl, ?_⟩) hHeld ?_
   rotate_left
   · intro W hSw; (try dsimp only at hSw); go_simp; try with_reducible rfl
   simp only [Act.put, List.getElem_toArray, List.getElem_cons_succ, List.getElem_cons_zero, List.setIfInBounds_toArray, List.set_cons_zero, List.set_cons_succ]
   refine wpAnyH_take (i := 10) (oi := _) (v := ?_) rfl (by kernel_rfl) (by kernel_rfl) (by kernel_rfl) (fun _ _ _ h => h) (Or.inl ⟨by rfl, ?_⟩) hHeld ?_
   rotate_left
   · intro W hSw; (try dsimp only at hSw); go_simp; try with_reducible rfl
   simp only [Act.put, List.getElem_toArray, List.getElem_cons_succ, List.getElem_cons_zero, List.setIfInBounds_toArray, List.set_cons_zero, List.set_cons_succ]
   refine wpAnyH_ready (rs := [11]) (by kernel_rfl) (by simp) ?_
   refine AllReadyH.cons rfl (fun K hK => ?_) AllReadyH.nil
   go_simp
   refine hK.out _ _ (HSB.out _ HSB3.out) (fun hHeld => ?_)
   clear hK K
   refine wpAnyH_done (by kernel_rfl) ?_ _
   go_wp2_with fail
   go_end0
   exact ⟨rfl, ⟨_, HFIN.out.1⟩, HFIN.out.2.1, HFIN.out.2.2⟩
theorem add3_prog (B br mt bm : Nat) (V : MV) (m : Mod) (d : Decl) (ra na : Option Addr) (rc nc : Nat) (An : Option Addr) (cn Bn : Nat) (ns : List Int) (n0 n1 : Int) (w : World) (hA : AD B br mt w V m) (hB : B ≤ w.heap.size) (hbm : Blk w bm 92 #[.pointer (some ⟨br, 1, none⟩)]) (hn : OwnI Bn w (.slice An ns.length cn) ns) (h0 : ns[0]? = some n0) (h1 : ns[1]? = some n1) (hz : d.name.size ≤ 16384) (hlen : m.rT.length ≤ 900000) :
    Calls Tryz.prog 53 #[.agg #[.int .i64 d.kind, .string d.name, .slice ra d.refs.length rc, .slice na d.nums.length nc, .int .i64 d.by_, .bool d.always], .slice An ns.length cn, .pointer (some ⟨bm, 0, none⟩)] w
     (AdnQ B br mt w ⟨m.sT, m.fT, m.rT ++ [(⟨d.name, n0, n1⟩ : RackM)], m.mT, m.lT, m.iT, m.dT, m.oT, m.vT, m.aT, m.uT⟩) := by
 obtain ⟨wa, hwa⟩ : ∃ wa, wa = w.alloc (.cells #[.int .i64 d.kind, .string d.name, .slice ra d.refs.length rc, .slice na d.nums.length nc, .int .i64 d.by_, .bool d.always] 43) := ⟨_, rfl⟩
 have hba : Below w.heap.size w wa := by rw [hwa]; exact (Below.refl _ _).alloc (Nat.le_refl _) _
 have HXA := hide (show Blk wa w.heap.size 43 _ from by rw [hwa]; exact Blk.new w _ _)
 have HAA := hide (hA.below hba)
 have HBM := hide (hbm.below hba hbm.lt)
 have HBA := hide hba
 have HB := hide hB
 have HWA := hide hwa
 have HLEN := hide hlen
 have hl1 : 1 < ns.length := (List.getElem?_eq_some_iff.1 h1).1
 rcases hn.2 with ⟨_, h00⟩ | ⟨b, cap, cur, e, _, hcur, _, _, _, htk⟩
 · omega
 injection e with e1 e2 e3
 subst e1
 have hBN : Blk w b 3 cur := hcur
 have HBN := hide (hBN.below hba hBN.lt)
 have hcc : ∀ j x, ns[j]? = some x → cur[j]? = some (Value.int .i64 x) := fun j x hj => by
  have hjl := (List.getElem?_eq_some_iff.1 hj).1
  have : (cur.toList.take (ns.length * 1))[j]? = (ns.map (Value.int .i64))[j]? := by rw [htk]
  rw [List.getElem?_take_of_lt (by omega), Array.getElem?_toList] at this
  rw [this]; simp [hj]
 have HC0 := hide (hcc 0 n0 h0)
 have HC1 := hide (hcc 1 n1 h1)
 obtain ⟨nn, hnn⟩ : ∃ nn, nn = ns.length := ⟨_, rfl⟩
 rw [← hnn] at hl1
 rw [← hnn]
 have hl1I : (1 : Int) < (nn : Int) := by omega
 have hl0I : (0 : Int) < (nn : Int) := by omega
 have hl0 : 0 < nn := by omega
 clear hnn h0 h1 hcc htk hcur hBN e2 e3 hn
 have HSB := hide (fun (W : World) (h : Blk W bm 92 #[.pointer (some ⟨br, 1, none⟩)] ∧ Blk W w.heap.size 43 #[.int .i64 d.kind, .string d.name, .slice ra d.refs.length rc, .slice na d.nums.length nc, .int .i64 d.by_, .bool d.always] ∧ Below B wa W ∧ Blk W b 3 cur) => (⟨⟨h.1.cell 0, h.2.1.cell 1, (h.2.2.2.cell 0).trans HC0.out, (h.2.2.2.cell 1).trans HC1.out⟩, h⟩ : (W.cell? ⟨bm, 0, none⟩ = some (.pointer (some ⟨br, 1, none⟩)) ∧ W.cell? ⟨w.heap.size, 1, none⟩ = some (.string d.name) ∧ W.cell? ⟨b, 0, none⟩ = some (.int .i64 n0) ∧ W.cell? ⟨b, 1, none⟩ = some (.int .i64 n1)) ∧ Blk W bm 92 #[.pointer (some ⟨br, 1, none⟩)] ∧ Blk W w.heap.size 43 #[.int .i64 d.kind, .string d.name, .slice ra d.refs.length rc, .slice na d.nums.length nc, .int .i64 d.by_, .bool d.always] ∧ Below B wa W ∧ Blk W b 3 cur))
 have HKP := hide (fun (W W' : World) (row : Option Nat) (T : TypeId) (h : Blk W bm 92 #[.pointer (some ⟨br, 1, none⟩)] ∧ Blk W w.heap.size 43 #[.int .i64 d.kind, .string d.name, .slice ra d.refs.length rc, .slice na d.nums.length nc, .int .i64 d.by_, .bool d.always] ∧ Below B wa W ∧ Blk W b 3 cur) (hg : W.grownBy W' row) (hT : RowT W row T) (hn1 : ¬ 92 = T) (hn2 : ¬ 43 = T) (hn3 : ¬ 3 = T) (hr : ∀ g, row = some g → B ≤ g) => (⟨(hg.block _ h.1.lt (fun e => by obtain ⟨cs, hb⟩ := hT _ e.symm; have := h.1.symm.trans hb; simp at this; exact hn1 this.2)).trans h.1, (hg.block _ h.2.1.lt (fun e => by obtain ⟨cs, hb⟩ := hT _ e.symm; have := h.2.1.symm.trans hb; simp at this; exact hn2 this.2)).trans h.2.1, h.2.2.1.grown hg (Nat.le_trans (Nat.le_trans HB.out HBA.out.size) h.2.2.1.size) hr, (hg.block _ h.2.2.2.lt (fun e => by obtain ⟨cs, hb⟩ := hT _ e.symm; have := h.2.2.2.symm.trans hb; simp at this; exact hn3 this.2)).trans h.2.2.2⟩ : Blk W' bm 92 #[.pointer (some ⟨br, 1, none⟩)] ∧ Blk W' w.heap.size 43 #[.int .i64 d.kind, .string d.name, .slice ra d.refs.length rc, .slice na d.nums.length nc, .int .i64 d.by_, .bool d.always] ∧ Below B wa W' ∧ Blk W' b 3 cur))
 have cf := HAA.out.cells
 obtain ⟨A0, c0, er, hcr, _⟩ := HAA.out.rm.r.form
 have old : wa.cell? ⟨br, 3, none⟩ = some (.slice A0 m.rT.length c0) := by rw [← er]; exact HAA.out.blk.cell 3
 have HER := hide er
 have cl := HAA.out.blk.lt
 obtain ⟨nl, hnl⟩ : ∃ nl, nl = m.rT.length := ⟨_, rfl⟩
 have HNL := hide hnl
 rw [← hnl] at old
 have HSB0 := hide (show Blk wa.drew bm 92 #[.pointer (some ⟨br, 1, none⟩)] ∧ Blk wa.drew w.heap.size 43 #[.int .i64 d.kind, .string d.name, .slice ra d.refs.length rc, .slice na d.nums.length nc, .int .i64 d.by_, .bool d.always] ∧ Below B wa wa.drew ∧ Blk wa.drew b 3 cur from ⟨HBM.out, HXA.out, (Below.refl _ _).drew, HBN.out⟩)
 clear cf hwa hba hA hbm hB er hcr hnl hlen
 go_enter Tryz.func53, Tryz.ntmps53
 go_upto_region 1 with (fail)
 rw [show (w.alloc (.cells #[.int .i64 d.kind, .string d.name, .slice ra d.refs.length rc, .slice na d.nums.length nc, .int .i64 d.by_, .bool d.always] 43)) = wa from HWA.out.symm]
 refine wp_region_held_drew (S := (fun W => (W.cell? ⟨bm, 0, none⟩ = some (.pointer (some ⟨br, 1, none⟩)) ∧ W.cell? ⟨w.heap.size, 1, none⟩ = some (.string d.name) ∧ W.cell? ⟨b, 0, none⟩ = some (.int .i64 n0) ∧ W.cell? ⟨b, 1, none⟩ = some (.int .i64 n1)) ∧ Blk W bm 92 #[.pointer (some ⟨br, 1, none⟩)] ∧ Blk W w.heap.size 43 #[.int .i64 d.kind, .string d.name, .slice ra d.refs.length rc, .slice na d.nums.length nc, .int .i64 d.by_, .bool d.always] ∧ Below B wa W ∧ Blk W b 3 cur)) (by kernel_rfl) (HSB.out _ HSB0.out) (fun hHeld => ?_)
 refine wpAnyH_take (i := 0) (oi := _) (v := ?_) rfl (by kernel_rfl) (by kernel_rfl) (by kernel_rfl) (fun _ _ _ h => h) (Or.inl ⟨by rfl, ?_⟩) hHeld ?_
 rotate_left
 · intro W hSw; (try dsimp only at hSw); go_simp; try with_reducible rfl
 simp only [Act.put, List.getElem_toArray, List.getElem_cons_zero, List.setIfInBounds_toArray, List.set_cons_zero, List.set_cons_succ]
 refine wpAnyH_take (i := 1) (oi := _) (v := ?_) rfl (by kernel_rfl) (by kernel_rfl) (by kernel_rfl) (fun _ _ _ h => h) (Or.inl ⟨by rfl, ?_⟩) hHeld ?_
 rotate_left
 · intro W hSw; (try dsimp only at hSw); go_simp; try with_reducible rfl
 simp only [Act.put, List.getElem_toArray, List.getElem_cons_succ, List.getElem_cons_zero, List.setIfInBounds_toArray, List.set_cons_zero, List.set_cons_succ]
 refine wpAnyH_take (i := 2) (oi := _) (v := ?_) rfl (by kernel_rfl) (by kernel_rfl) (by kernel_rfl) (fun _ _ _ h => h) (Or.inl ⟨by rfl, ?_⟩) hHeld ?_
 rotate_left
 · intro W hSw; (try dsimp only at hSw); go_simp; try with_reducible rfl
 simp only [Act.put, List.getElem_toArray, List.getElem_cons_succ, List.getElem_cons_zero, List.setIfInBounds_toArray, List.set_cons_zero, List.set_cons_succ]
 refine wpAnyH_take (i := 3) (oi := _) (v := ?_) rfl (by kernel_rfl) (by kernel_rfl) (by kernel_rfl) (fun _ _ _ h => h) (Or.inl ⟨by rfl, ?_⟩) hHeld ?_
 rotate_left
 · intro W hSw; (try dsimp only at hSw); go_simp; try with_reducible rfl
 simp only [Act.put, List.getElem_toArray, List.getElem_cons_succ, List.getElem_cons_zero, List.setIfInBounds_toArray, List.set_cons_zero, List.set_cons_succ]
 refine wpAnyH_take (i := 5) (oi := _) (v := ?_) rfl (by kernel_rfl) (by kernel_rfl) (by kernel_rfl) (fun _ _ _ h => h) (Or.inl ⟨by rfl, ?_⟩) hHeld ?_
 rotate_left
 · intro W hSw; (try dsimp only at hSw); go_simp; try with_reducible rfl
 simp only [Act.put, List.getElem_toArray, List.getElem_cons_succ, List.getElem_cons_zero, List.setIfInBounds_toArray, List.set_cons_zero, List.set_cons_succ]
 refine wpAnyH_take (i := 6) (oi := _) (v := ?_) rfl (by kernel_rfl) (by kernel_rfl) (by kernel_rfl) (fun _ _ _ h => h) (Or.inl ⟨by rfl, ?_⟩) hHeld ?_
 rotate_left
 · intro W hSw; (try dsimp only at hSw); go_simp; try with_reducible rfl
 simp only [Act.put, List.getElem_toArray, List.getElem_cons_succ, List.getElem_cons_zero, List.setIfInBounds_toArray, List.set_cons_zero, List.set_cons_succ]
 refine wpAnyH_take (i := 7) (oi := _) (v := ?_) rfl (by kernel_rfl) (by kernel_rfl) (by kernel_rfl) (fun _ _ _ h => h) (Or.inl ⟨by rfl, ?_⟩) hHeld ?_
 rotate_left
 · intro W hSw; (try dsimp only at hSw); go_simp; try with_reducible rfl
 simp only [Act.put, List.getElem_toArray, List.getElem_cons_succ, List.getElem_cons_zero, List.setIfInBounds_toArray, List.set_cons_zero, List.set_cons_succ]
 refine wpAnyH_take (i := 8) (oi := _) (v := ?_) rfl (by kernel_rfl) (by kernel_rfl) (by kernel_rfl) (fun _ _ _ h => h) (Or.inl ⟨by rfl, ?_⟩) hHeld ?_
 rotate_left
 · intro W hSw; (try dsimp only at hSw); go_simp; try with_reducible rfl
 simp only [Act.put, List.getElem_toArray, List.getElem_cons_succ, List.getElem_cons_zero, List.setIfInBounds_toArray, List.set_cons_zero, List.set_cons_succ]
 refine wpAnyH_take (i := 9) (oi := _) (v := ?_) rfl (by kernel_rfl) (by kernel_rfl) (by kernel_rfl) (fun _ _ _ h => h) (Or.inl ⟨by rfl, ?_⟩) hHeld ?_
 rotate_left
 · intro W hSw; (try dsimp only at hSw); go_simp; try with_reducible rfl
 simp only [Act.put, List.getElem_toArray, List.getElem_cons_succ, List.getElem_cons_zero, List.setIfInBounds_toArray, List.set_cons_zero, List.set_cons_succ]
 refine wpAnyH_take (i := 10) (oi := _) (v := ?_) rfl (by kernel_rfl) (by kernel_rfl) (by kernel_rfl) (fun _ _ _ h => h) (Or.inl ⟨by rfl, ?_⟩) hHeld ?_
 rotate_left
 · intro W hSw; (try dsimp only at hSw); go_simp; try with_reducible rfl
 simp only [Act.put, List.getElem_toArray, List.getElem_cons_succ, List.getElem_cons_zero, List.setIfInBounds_toArray, List.set_cons_zero, List.set_cons_succ]
 refine wpAnyH_take (i := 11) (oi := _) (v := ?_) rfl (by kernel_rfl) (by kernel_rfl) (by kernel_rfl) (fun _ _ _ h => h) (Or.inl ⟨by rfl, ?_⟩) hHeld ?_
 rotate_left
 · intro W hSw; (try dsimp only at hSw); go_simp; try with_reducible rfl
 simp only [Act.put, List.getElem_toArray, List.getElem_cons_succ, List.getElem_cons_zero, List.setIfInBounds_toArray, List.set_cons_zero, List.set_cons_succ]
 refine wpAnyH_take (i := 12) (oi := _) (v := ?_) rfl (by kernel_rfl) (by kernel_rfl) (by kernel_rfl) (fun _ _ _ h => h) (Or.inl ⟨by rfl, ?_⟩) hHeld ?_
 rotate_left
 · intro W hSw; (try dsimp only at hSw); go_simp; try with_reducible rfl
 simp only [Act.put, List.getElem_toArray, List.getElem_cons_succ, List.getElem_cons_zero, List.setIfInBounds_toArray, List.set_cons_zero, List.set_cons_succ]
 refine wpAnyH_take (i := 13) (oi := _) (v := ?_) rfl (by kernel_rfl) (by kernel_rfl) (by kernel_rfl) (fun _ _ _ h => h) (Or.inl ⟨by rfl, ?_⟩) hHeld ?_
 rotate_left
 · intro W hSw; (try dsimp only at hSw); go_simp; try with_reducible rfl
 simp only [Act.put, List.getElem_toArray, List.getElem_cons_succ, List.getElem_cons_zero, List.setIfInBounds_toArray, List.set_cons_zero, List.set_cons_succ]
 have HSB1 := hide (HKP.out wa.drew (wa.alloc (.cells #[.string d.name, .int .i64 n0, .int .i64 n1] 69)).drew none 4 HSB0.out ⟨rfl, rfl, rfl, by simp, fun i hi _ => Below.heap_alloc wa _ i (by simpa using hi)⟩ (RowT.none_ _ _) (by decide) (by decide) (by decide) (fun g e => by cases e))
 refine wpAnyH_ready (rs := [4, 14]) (by kernel_rfl) (by simp) ?_
 refine AllReadyH.cons rfl (fun K hK => ?_) (AllReadyH.cons rfl (fun K hK => ?_) AllReadyH.nil)
 · go_simp
   refine hK.out _ _ (HSB.out _ HSB0.out) (fun hHeld => ?_)
   clear hK K
   refine wpAnyH_ready (rs := [14]) (by kernel_rfl) (by simp) ?_
   refine AllReadyH.cons rfl (fun K hK => ?_) AllReadyH.nil
   go_simp
   refine hK.out _ _ (HSB.out _ HSB1.out) (fun hHeld => ?_)
   clear hK K
   refine wpAnyH_ready (rs := [15]) (by kernel_rfl) (by simp) ?_
   refine AllReadyH.cons rfl (fun K hK => ?_) AllReadyH.nil
   refine step_append_el okRack rfl _ _ rfl B (.slice A0 nl c0) m.rT rfl ((show OwnE_ elRack B wa (.slice A0 nl c0) m.rT from by rw [HNL.out, ← HER.out]; exact HAA.out.rm.r).below ((Below.refl _ wa).alloc (Nat.le_refl _) _).drew) _ _ 1 1 [(⟨d.name, n0, n1⟩ : RackM)] rfl (Reads.newE (E := elRack) wa (⟨d.name, n0, n1⟩ : RackM)) rfl (by have := HLEN.out; simp; omega) (by have := HBA.out.size; have := HB.out; simp; omega) ?_
   intro v1 w1 ho1 hg1 hv1
   have hbb := (Below.refl wa.heap.size wa).alloc (Nat.le_refl _) (.cells #[.string d.name, .int .i64 n0, .int .i64 n1] 69)
   have ha1 := HAA.out.below hbb
   have hg2 : (wa.alloc (.cells #[.string d.name, .int .i64 n0, .int .i64 n1] 69)).grownBy w1 V.r.ownBlock := by rw [HER.out, ← HNL.out]; exact ⟨hg1.os, hg1.tape, hg1.output, hg1.size, hg1.block⟩
   have hrT := RowT.own ha1.rm.r
   have hlo : ∀ g, V.r.ownBlock = some g → B ≤ g := fun g e => (ha1.rm.r.lt g e).1
   have hsb2 := HKP.out _ w1 _ _ HSB1.out (show (wa.alloc (.cells #[.string d.name, .int .i64 n0, .int .i64 n1] 69)).drew.grownBy w1 V.r.ownBlock from ⟨hg2.os, hg2.tape, hg2.output, hg2.size, hg2.block⟩) hrT (by decide) (by decide) (by decide) hlo
   have hb2 : Blk w1 br 53 (resC mt V m) := (hg2.block br ha1.blk.lt (fun e => by obtain ⟨cs, hb⟩ := hrT _ e.symm; have := ha1.blk.symm.trans hb; first | (simp at this; done) | (simp at this; exact absurd this.2 (by decide)))).trans ha1.blk
   have hrm := ha1.rm.rack ho1 hg2 hz
   have had := AD.put (mt := mt) (V' := ⟨V.s, V.f, v1, V.m, V.l, V.i, V.u⟩) (m' := ⟨m.sT, m.fT, m.rT ++ [(⟨d.name, n0, n1⟩ : RackM)], m.mT, m.lT, m.iT, m.dT, m.oT, m.vT, m.aT, m.uT⟩) hb2 HAA.out.hB hrm (i := 3) (u := v1) rfl
   have f3 := hb2.frozen 3
   have q3 : w1.cell? ⟨br, 3, none⟩ = some V.r := hb2.cell 3
   have l3 := hb2.lt
   have hkx := ((KX.of_below HBA.out).trans (KX.of_below hbb)).trans ((KX.row hg2 hrT (by decide)).trans (KX.set_ hb2 (by decide) 3 v1))
   have hbw : Below B w (w1.setCell ⟨br, 3, none⟩ v1) := (((HBA.out.mono HB.out).trans hsb2.2.2.1)).setCell (p := ⟨br, 3, none⟩) HAA.out.hB v1
   have HFIN := hide (And.intro had (And.intro hbw hkx))
   have HSB2 := hide hsb2
   have HSB3 := hide (HKP.out w1 (w1.setCell ⟨br, 3, none⟩ v1) (some br) 53 hsb2 (But.set_ (B := w1.heap.size) w1 3 v1).grown (fun g e => by cases e; exact ⟨_, hb2⟩) (by decide) (by decide) (by decide) (fun g e => by cases e; exact HAA.out.hB))
   obtain ⟨A9, c9, e9, _, _⟩ := ho1.form
   obtain ⟨n9, hn9⟩ : ∃ n9, n9 = (m.rT ++ [(⟨d.name, n0, n1⟩ : RackM)]).length := ⟨_, rfl⟩
   rw [← hn9] at e9
   subst e9
   clear hn9 ho1 hg1 hv1 hbb ha1 hg2 hrT hlo hsb2 hb2 hrm had hkx hbw
   (try dsimp only)
   refine hK.out _ _ (HSB.out _ HSB2.out) (fun hHeld => ?_)
   clear hK K
   refine wpAnyH_take (i := 16) (oi := _) (v := ?_) rfl (by kernel_rfl) (by kernel_rfl) (by kernel_rfl) (fun _ _ _ h => h) (Or.inl ⟨by rfl, ?_⟩) hHeld ?_
   rotate_left
   · intro W hSw; (try dsimp only at hSw); go_simp; try with_reducible rfl
   simp only [Act.put, List.getElem_toArray, List.getElem_cons_succ, List.getElem_cons_zero, List.setIfInBounds_toArray, List.set_cons_zero, List.set_cons_succ]
   refine wpAnyH_take (i := 17) (oi := _) (v := ?_) rfl (by kernel_rfl) (by kernel_rfl) (by kernel_rfl) (fun _ _ _ h => h) (Or.inl ⟨by rfl, ?_⟩) hHeld ?_
   rotate_left
   · intro W hSw; (try dsimp only at hSw); go_simp; try with_reducible rfl
   simp only [Act.put, List.getElem_toArray, List.getElem_cons_succ, List.getElem_cons_zero, List.setIfInBounds_toArray, List.set_cons_zero, List.set_cons_succ]
   refine wpAnyH_ready (rs := [18]) (by kernel_rfl) (by simp) ?_
   refine AllReadyH.cons rfl (fun K hK => ?_) AllReadyH.nil
   go_simp
   refine hK.out _ _ (HSB.out _ HSB3.out) (fun hHeld => ?_)
   clear hK K
   refine wpAnyH_done (by kernel_rfl) ?_ _
   go_wp2_with fail
   go_end0
   exact ⟨rfl, ⟨_, HFIN.out.1⟩, HFIN.out.2.1, HFIN.out.2.2⟩
 · go_simp
   refine hK.out _ _ (HSB.out _ HSB1.out) (fun hHeld => ?_)
   clear hK K
   refine wpAnyH_ready (rs := [4]) (by kernel_rfl) (by simp) ?_
   refine AllReadyH.cons rfl (fun K hK => ?_) AllReadyH.nil
   go_simp
   refine hK.out _ _ (HSB.out _ HSB1.out) (fun hHeld => ?_)
   clear hK K
   refine wpAnyH_ready (rs := [15]) (by kernel_rfl) (by simp) ?_
   refine AllReadyH.cons rfl (fun K hK => ?_) AllReadyH.nil
   refine step_append_el okRack rfl _ _ rfl B (.slice A0 nl c0) m.rT rfl ((show OwnE_ elRack B wa (.slice A0 nl c0) m.rT from by rw [HNL.out, ← HER.out]; exact HAA.out.rm.r).below ((Below.refl _ wa).alloc (Nat.le_refl _) _).drew) _ _ 1 1 [(⟨d.name, n0, n1⟩ : RackM)] rfl (Reads.newE (E := elRack) wa (⟨d.name, n0, n1⟩ : RackM)) rfl (by have := HLEN.out; simp; omega) (by have := HBA.out.size; have := HB.out; simp; omega) ?_
   intro v1 w1 ho1 hg1 hv1
   have hbb := (Below.refl wa.heap.size wa).alloc (Nat.le_refl _) (.cells #[.string d.name, .int .i64 n0, .int .i64 n1] 69)
   have ha1 := HAA.out.below hbb
   have hg2 : (wa.alloc (.cells #[.string d.name, .int .i64 n0, .int .i64 n1] 69)).grownBy w1 V.r.ownBlock := by rw [HER.out, ← HNL.out]; exact ⟨hg1.os, hg1.tape, hg1.output, hg1.size, hg1.block⟩
   have hrT := RowT.own ha1.rm.r
   have hlo : ∀ g, V.r.ownBlock = some g → B ≤ g := fun g e => (ha1.rm.r.lt g e).1
   have hsb2 := HKP.out _ w1 _ _ HSB1.out (show (wa.alloc (.cells #[.string d.name, .int .i64 n0, .int .i64 n1] 69)).drew.grownBy w1 V.r.ownBlock from ⟨hg2.os, hg2.tape, hg2.output, hg2.size, hg2.block⟩) hrT (by decide) (by decide) (by decide) hlo
   have hb2 : Blk w1 br 53 (resC mt V m) := (hg2.block br ha1.blk.lt (fun e => by obtain ⟨cs, hb⟩ := hrT _ e.symm; have := ha1.blk.symm.trans hb; first | (simp at this; done) | (simp at this; exact absurd this.2 (by decide)))).trans ha1.blk
   have hrm := ha1.rm.rack ho1 hg2 hz
   have had := AD.put (mt := mt) (V' := ⟨V.s, V.f, v1, V.m, V.l, V.i, V.u⟩) (m' := ⟨m.sT, m.fT, m.rT ++ [(⟨d.name, n0, n1⟩ : RackM)], m.mT, m.lT, m.iT, m.dT, m.oT, m.vT, m.aT, m.uT⟩) hb2 HAA.out.hB hrm (i := 3) (u := v1) rfl
   have f3 := hb2.frozen 3
   have q3 : w1.cell? ⟨br, 3, none⟩ = some V.r := hb2.cell 3
   have l3 := hb2.lt
   have hkx := ((KX.of_below HBA.out).trans (KX.of_below hbb)).trans ((KX.row hg2 hrT (by decide)).trans (KX.set_ hb2 (by decide) 3 v1))
   have hbw : Below B w (w1.setCell ⟨br, 3, none⟩ v1) := (((HBA.out.mono HB.out).trans hsb2.2.2.1)).setCell (p := ⟨br, 3, none⟩) HAA.out.hB v1
   have HFIN := hide (And.intro had (And.intro hbw hkx))
   have HSB2 := hide hsb2
   have HSB3 := hide (HKP.out w1 (w1.setCell ⟨br, 3, none⟩ v1) (some br) 53 hsb2 (But.set_ (B := w1.heap.size) w1 3 v1).grown (fun g e => by cases e; exact ⟨_, hb2⟩) (by decide) (by decide) (by decide) (fun g e => by cases e; exact HAA.out.hB))
   obtain ⟨A9, c9, e9, _, _⟩ := ho1.form
   obtain ⟨n9, hn9⟩ : ∃ n9, n9 = (m.rT ++ [(⟨d.name, n0, n1⟩ : RackM)]).length := ⟨_, rfl⟩
   rw [← hn9] at e9
   subst e9
   clear hn9 ho1 hg1 hv1 hbb ha1 hg2 hrT hlo hsb2 hb2 hrm had hkx hbw
   (try dsimp only)
   refine hK.out _ _ (HSB.out _ HSB2.out) (fun hHeld => ?_)
   clear hK K
   refine wpAnyH_take (i := 16) (oi := _) (v := ?_) rfl (by kernel_rfl) (by kernel_rfl) (by kernel_rfl) (fun _ _ _ h => h) (Or.inl ⟨by rfl, ?_⟩) hHeld ?_
   rotate_left
   · intro W hSw; (try dsimp only at hSw); go_simp; try with_reducible rfl
   simp only [Act.put, List.getElem_toArray, List.getElem_cons_succ, List.getElem_cons_zero, List.setIfInBounds_toArray, List.set_cons_zero, List.set_cons_succ]
   refine wpAnyH_take (i := 17) (oi := _) (v := ?_) rfl (by kernel_rfl) (by kernel_rfl) (by kernel_rfl) (fun _ _ _ h => h) (Or.inl ⟨by rfl, ?_⟩) hHeld ?_
   rotate_left
   · intro W hSw; (try dsimp only at hSw); go_simp; try with_reducible rfl
   simp only [Act.put, List.getElem_toArray, List.getElem_cons_succ, List.getElem_cons_zero, List.setIfInBounds_toArray, List.set_cons_zero, List.set_cons_succ]
   refine wpAnyH_ready (rs := [18]) (by kernel_rfl) (by simp) ?_
   refine AllReadyH.cons rfl (fun K hK => ?_) AllReadyH.nil
   go_simp
   refine hK.out _ _ (HSB.out _ HSB3.out) (fun hHeld => ?_)
   clear hK K
   refine wpAnyH_done (by kernel_rfl) ?_ _
   go_wp2_with fail
   go_end0
   exact ⟨rfl, ⟨_, HFIN.out.1⟩, HFIN.out.2.1, HFIN.out.2.2⟩
theorem add4_prog (B br mt bm : Nat) (V : MV) (m : Mod) (d : Decl) (ra na : Option Addr) (rc nc : Nat) (An : Option Addr) (cn Bn : Nat) (ns : List Int) (n0 : Int) (q0 : Int) (w : World) (hA : AD B br mt w V m) (hB : B ≤ w.heap.size) (hbm : Blk w bm 92 #[.pointer (some ⟨br, 1, none⟩)]) (hn : OwnI Bn w (.slice An ns.length cn) ns) (h0 : ns[0]? = some n0) (hq : Ints w B na d.nums) (hq0 : d.nums[0]? = some q0) (hz : d.name.size ≤ 16384) (hlen : m.mT.length ≤ 900000) :
    Calls Tryz.prog 54 #[.agg #[.int .i64 d.kind, .string d.name, .slice ra d.refs.length rc, .slice na d.nums.length nc, .int .i64 d.by_, .bool d.always], .slice An ns.length cn, .pointer (some ⟨bm, 0, none⟩)] w
     (AdnQ B br mt w ⟨m.sT, m.fT, m.rT, m.mT ++ [(⟨d.name, n0, q0⟩ : MachM)], m.lT, m.iT, m.dT, m.oT, m.vT, m.aT, m.uT⟩) := by
 obtain ⟨wa, hwa⟩ : ∃ wa, wa = w.alloc (.cells #[.int .i64 d.kind, .string d.name, .slice ra d.refs.length rc, .slice na d.nums.length nc, .int .i64 d.by_, .bool d.always] 43) := ⟨_, rfl⟩
 have hba : Below w.heap.size w wa := by rw [hwa]; exact (Below.refl _ _).alloc (Nat.le_refl _) _
 have HXA := hide (show Blk wa w.heap.size 43 _ from by rw [hwa]; exact Blk.new w _ _)
 have HAA := hide (hA.below hba)
 have HBM := hide (hbm.below hba hbm.lt)
 have HBA := hide hba
 have HB := hide hB
 have HWA := hide hwa
 have HLEN := hide hlen
 have hl1 : 0 < ns.length := (List.getElem?_eq_some_iff.1 h0).1
 rcases hn.2 with ⟨_, h00⟩ | ⟨b, cap, cur, e, _, hcur, _, _, _, htk⟩
 · omega
 injection e with e1 e2 e3
 subst e1
 have hBN : Blk w b 3 cur := hcur
 have HBN := hide (hBN.below hba hBN.lt)
 have hcc : ∀ j x, ns[j]? = some x → cur[j]? = some (Value.int .i64 x) := fun j x hj => by
  have hjl := (List.getElem?_eq_some_iff.1 hj).1
  have : (cur.toList.take (ns.length * 1))[j]? = (ns.map (Value.int .i64))[j]? := by rw [htk]
  rw [List.getElem?_take_of_lt (by omega), Array.getElem?_toList] at this
  rw [this]; simp [hj]
 have HC0 := hide (hcc 0 n0 h0)
 obtain ⟨nn, hnn⟩ : ∃ nn, nn = ns.length := ⟨_, rfl⟩
 rw [← hnn] at hl1
 rw [← hnn]
 have hl1I : (0 : Int) < (nn : Int) := by omega
 have hl0I : (0 : Int) < (nn : Int) := by omega
 have hl0 : 0 < nn := by omega
 clear hnn h0 hcc htk hcur hBN e2 e3 hn
 have hq1 : 0 < d.nums.length := (List.getElem?_eq_some_iff.1 hq0).1
 have hq1I : (0 : Int) < (d.nums.length : Int) := by omega
 obtain ⟨bq, oq, hqA, hqb, yq⟩ := int_at (hq.below (hba.mono hB)) (k := 0) hq1
 have HQ := hide (show wa.cell? ⟨bq, oq, none⟩ = some (.int .i64 q0) from by
  rw [List.getElem?_eq_getElem hq1] at hq0
  rw [show oq = oq + 0 from rfl, yq, Option.some.inj hq0])
 have HQB := hide hqb
 obtain ⟨nq, hnq⟩ : ∃ nq, nq = d.nums.length := ⟨_, rfl⟩
 subst hqA
 clear hq hq0 yq hqb
 have HSB := hide (fun (W : World) (h : Blk W bm 92 #[.pointer (some ⟨br, 1, none⟩)] ∧ Blk W w.heap.size 43 #[.int .i64 d.kind, .string d.name, .slice ra d.refs.length rc, .slice (some ⟨bq, oq, none⟩) d.nums.length nc, .int .i64 d.by_, .bool d.always] ∧ Below B wa W ∧ Blk W b 3 cur) => (⟨⟨h.1.cell 0, h.2.1.cell 1, (h.2.2.2.cell 0).trans HC0.out, h.2.1.cell 3, (h.2.2.1.cell HQB.out).trans HQ.out⟩, h⟩ : (W.cell? ⟨bm, 0, none⟩ = some (.pointer (some ⟨br, 1, none⟩)) ∧ W.cell? ⟨w.heap.size, 1, none⟩ = some (.string d.name) ∧ W.cell? ⟨b, 0, none⟩ = some (.int .i64 n0) ∧ W.cell? ⟨w.heap.size, 3, none⟩ = some (.slice (some ⟨bq, oq, none⟩) d.nums.length nc) ∧ W.cell? ⟨bq, oq, none⟩ = some (.int .i64 q0)) ∧ Blk W bm 92 #[.pointer (some ⟨br, 1, none⟩)] ∧ Blk W w.heap.size 43 #[.int .i64 d.kind, .string d.name, .slice ra d.refs.length rc, .slice (some ⟨bq, oq, none⟩) d.nums.length nc, .int .i64 d.by_, .bool d.always] ∧ Below B wa W ∧ Blk W b 3 cur))
 have HKP := hide (fun (W W' : World) (row : Option Nat) (T : TypeId) (h : Blk W bm 92 #[.pointer (some ⟨br, 1, none⟩)] ∧ Blk W w.heap.size 43 #[.int .i64 d.kind, .string d.name, .slice ra d.refs.length rc, .slice (some ⟨bq, oq, none⟩) d.nums.length nc, .int .i64 d.by_, .bool d.always] ∧ Below B wa W ∧ Blk W b 3 cur) (hg : W.grownBy W' row) (hT : RowT W row T) (hn1 : ¬ 92 = T) (hn2 : ¬ 43 = T) (hn3 : ¬ 3 = T) (hr : ∀ g, row = some g → B ≤ g) => (⟨(hg.block _ h.1.lt (fun e => by obtain ⟨cs, hb⟩ := hT _ e.symm; have := h.1.symm.trans hb; simp at this; exact hn1 this.2)).trans h.1, (hg.block _ h.2.1.lt (fun e => by obtain ⟨cs, hb⟩ := hT _ e.symm; have := h.2.1.symm.trans hb; simp at this; exact hn2 this.2)).trans h.2.1, h.2.2.1.grown hg (Nat.le_trans (Nat.le_trans HB.out HBA.out.size) h.2.2.1.size) hr, (hg.block _ h.2.2.2.lt (fun e => by obtain ⟨cs, hb⟩ := hT _ e.symm; have := h.2.2.2.symm.trans hb; simp at this; exact hn3 this.2)).trans h.2.2.2⟩ : Blk W' bm 92 #[.pointer (some ⟨br, 1, none⟩)] ∧ Blk W' w.heap.size 43 #[.int .i64 d.kind, .string d.name, .slice ra d.refs.length rc, .slice (some ⟨bq, oq, none⟩) d.nums.length nc, .int .i64 d.by_, .bool d.always] ∧ Below B wa W' ∧ Blk W' b 3 cur))
 have cf := HAA.out.cells
 obtain ⟨A0, c0, er, hcr, _⟩ := HAA.out.rm.mc.form
 have old : wa.cell? ⟨br, 4, none⟩ = some (.slice A0 m.mT.length c0) := by rw [← er]; exact HAA.out.blk.cell 4
 have HER := hide er
 have cl := HAA.out.blk.lt
 obtain ⟨nl, hnl⟩ : ∃ nl, nl = m.mT.length := ⟨_, rfl⟩
 have HNL := hide hnl
 rw [← hnl] at old
 have HSB0 := hide (show Blk wa.drew bm 92 #[.pointer (some ⟨br, 1, none⟩)] ∧ Blk wa.drew w.heap.size 43 #[.int .i64 d.kind, .string d.name, .slice ra d.refs.length rc, .slice (some ⟨bq, oq, none⟩) d.nums.length nc, .int .i64 d.by_, .bool d.always] ∧ Below B wa wa.drew ∧ Blk wa.drew b 3 cur from ⟨HBM.out, HXA.out, (Below.refl _ _).drew, HBN.out⟩)
 clear cf hwa hba hA hbm hB er hcr hnl hlen
 go_enter Tryz.func54, Tryz.ntmps54
 go_upto_region 1 with (fail)
 rw [show (w.alloc (.cells #[.int .i64 d.kind, .string d.name, .slice ra d.refs.length rc, .slice (some ⟨bq, oq, none⟩) d.nums.length nc, .int .i64 d.by_, .bool d.always] 43)) = wa from HWA.out.symm]
 refine wp_region_held_drew (S := (fun W => (W.cell? ⟨bm, 0, none⟩ = some (.pointer (some ⟨br, 1, none⟩)) ∧ W.cell? ⟨w.heap.size, 1, none⟩ = some (.string d.name) ∧ W.cell? ⟨b, 0, none⟩ = some (.int .i64 n0) ∧ W.cell? ⟨w.heap.size, 3, none⟩ = some (.slice (some ⟨bq, oq, none⟩) d.nums.length nc) ∧ W.cell? ⟨bq, oq, none⟩ = some (.int .i64 q0)) ∧ Blk W bm 92 #[.pointer (some ⟨br, 1, none⟩)] ∧ Blk W w.heap.size 43 #[.int .i64 d.kind, .string d.name, .slice ra d.refs.length rc, .slice (some ⟨bq, oq, none⟩) d.nums.length nc, .int .i64 d.by_, .bool d.always] ∧ Below B wa W ∧ Blk W b 3 cur)) (by kernel_rfl) (HSB.out _ HSB0.out) (fun hHeld => ?_)
 refine wpAnyH_take (i := 0) (oi := _) (v := ?_) rfl (by kernel_rfl) (by kernel_rfl) (by kernel_rfl) (fun _ _ _ h => h) (Or.inl ⟨by rfl, ?_⟩) hHeld ?_
 rotate_left
 · intro W hSw; (try dsimp only at hSw); go_simp; try with_reducible rfl
 simp only [Act.put, List.getElem_toArray, List.getElem_cons_zero, List.setIfInBounds_toArray, List.set_cons_zero, List.set_cons_succ]
 refine wpAnyH_take (i := 1) (oi := _) (v := ?_) rfl (by kernel_rfl) (by kernel_rfl) (by kernel_rfl) (fun _ _ _ h => h) (Or.inl ⟨by rfl, ?_⟩) hHeld ?_
 rotate_left
 · intro W hSw; (try dsimp only at hSw); go_simp; try with_reducible rfl
 simp only [Act.put, List.getElem_toArray, List.getElem_cons_succ, List.getElem_cons_zero, List.setIfInBounds_toArray, List.set_cons_zero, List.set_cons_succ]
 refine wpAnyH_take (i := 2) (oi := _) (v := ?_) rfl (by kernel_rfl) (by kernel_rfl) (by kernel_rfl) (fun _ _ _ h => h) (Or.inl ⟨by rfl, ?_⟩) hHeld ?_
 rotate_left
 · intro W hSw; (try dsimp only at hSw); go_simp; try with_reducible rfl
 simp only [Act.put, List.getElem_toArray, List.getElem_cons_succ, List.getElem_cons_zero, List.setIfInBounds_toArray, List.set_cons_zero, List.set_cons_succ]
 refine wpAnyH_take (i := 3) (oi := _) (v := ?_) rfl (by kernel_rfl) (by kernel_rfl) (by kernel_rfl) (fun _ _ _ h => h) (Or.inl ⟨by rfl, ?_⟩) hHeld ?_
 rotate_left
 · intro W hSw; (try dsimp only at hSw); go_simp; try with_reducible rfl
 simp only [Act.put, List.getElem_toArray, List.getElem_cons_succ, List.getElem_cons_zero, List.setIfInBounds_toArray, List.set_cons_zero, List.set_cons_succ]
 refine wpAnyH_take (i := 5) (oi := _) (v := ?_) rfl (by kernel_rfl) (by kernel_rfl) (by kernel_rfl) (fun _ _ _ h => h) (Or.inl ⟨by rfl, ?_⟩) hHeld ?_
 rotate_left
 · intro W hSw; (try dsimp only at hSw); go_simp; try with_reducible rfl
 simp only [Act.put, List.getElem_toArray, List.getElem_cons_succ, List.getElem_cons_zero, List.setIfInBounds_toArray, List.set_cons_zero, List.set_cons_succ]
 refine wpAnyH_take (i := 6) (oi := _) (v := ?_) rfl (by kernel_rfl) (by kernel_rfl) (by kernel_rfl) (fun _ _ _ h => h) (Or.inl ⟨by rfl, ?_⟩) hHeld ?_
 rotate_left
 · intro W hSw; (try dsimp only at hSw); go_simp; try with_reducible rfl
 simp only [Act.put, List.getElem_toArray, List.getElem_cons_succ, List.getElem_cons_zero, List.setIfInBounds_toArray, List.set_cons_zero, List.set_cons_succ]
 refine wpAnyH_take (i := 7) (oi := _) (v := ?_) rfl (by kernel_rfl) (by kernel_rfl) (by kernel_rfl) (fun _ _ _ h => h) (Or.inl ⟨by rfl, ?_⟩) hHeld ?_
 rotate_left
 · intro W hSw; (try dsimp only at hSw); go_simp; try with_reducible rfl
 simp only [Act.put, List.getElem_toArray, List.getElem_cons_succ, List.getElem_cons_zero, List.setIfInBounds_toArray, List.set_cons_zero, List.set_cons_succ]
 refine wpAnyH_take (i := 8) (oi := _) (v := ?_) rfl (by kernel_rfl) (by kernel_rfl) (by kernel_rfl) (fun _ _ _ h => h) (Or.inl ⟨by rfl, ?_⟩) hHeld ?_
 rotate_left
 · intro W hSw; (try dsimp only at hSw); go_simp; try with_reducible rfl
 simp only [Act.put, List.getElem_toArray, List.getElem_cons_succ, List.getElem_cons_zero, List.setIfInBounds_toArray, List.set_cons_zero, List.set_cons_succ]
 refine wpAnyH_take (i := 9) (oi := _) (v := ?_) rfl (by kernel_rfl) (by kernel_rfl) (by kernel_rfl) (fun _ _ _ h => h) (Or.inl ⟨by rfl, ?_⟩) hHeld ?_
 rotate_left
 · intro W hSw; (try dsimp only at hSw); go_simp; try with_reducible rfl
 simp only [Act.put, List.getElem_toArray, List.getElem_cons_succ, List.getElem_cons_zero, List.setIfInBounds_toArray, List.set_cons_zero, List.set_cons_succ]
 refine wpAnyH_take (i := 10) (oi := _) (v := ?_) rfl (by kernel_rfl) (by kernel_rfl) (by kernel_rfl) (fun _ _ _ h => h) (Or.inl ⟨by rfl, ?_⟩) hHeld ?_
 rotate_left
 · intro W hSw; (try dsimp only at hSw); go_simp; try with_reducible rfl
 simp only [Act.put, List.getElem_toArray, List.getElem_cons_succ, List.getElem_cons_zero, List.setIfInBounds_toArray, List.set_cons_zero, List.set_cons_succ]
 refine wpAnyH_take (i := 11) (oi := _) (v := ?_) rfl (by kernel_rfl) (by kernel_rfl) (by kernel_rfl) (fun _ _ _ h => h) (Or.inl ⟨by rfl, ?_⟩) hHeld ?_
 rotate_left
 · intro W hSw; (try dsimp only at hSw); go_simp; try with_reducible rfl
 simp only [Act.put, List.getElem_toArray, List.getElem_cons_succ, List.getElem_cons_zero, List.setIfInBounds_toArray, List.set_cons_zero, List.set_cons_succ]
 refine wpAnyH_take (i := 12) (oi := _) (v := ?_) rfl (by kernel_rfl) (by kernel_rfl) (by kernel_rfl) (fun _ _ _ h => h) (Or.inl ⟨by rfl, ?_⟩) hHeld ?_
 rotate_left
 · intro W hSw; (try dsimp only at hSw); go_simp; try with_reducible rfl
 simp only [Act.put, List.getElem_toArray, List.getElem_cons_succ, List.getElem_cons_zero, List.setIfInBounds_toArray, List.set_cons_zero, List.set_cons_succ]
 refine wpAnyH_take (i := 13) (oi := _) (v := ?_) rfl (by kernel_rfl) (by kernel_rfl) (by kernel_rfl) (fun _ _ _ h => h) (Or.inl ⟨by rfl, ?_⟩) hHeld ?_
 rotate_left
 · intro W hSw; (try dsimp only at hSw); go_simp; try with_reducible rfl
 simp only [Act.put, List.getElem_toArray, List.getElem_cons_succ, List.getElem_cons_zero, List.setIfInBounds_toArray, List.set_cons_zero, List.set_cons_succ]
 refine wpAnyH_take (i := 14) (oi := _) (v := ?_) rfl (by kernel_rfl) (by kernel_rfl) (by kernel_rfl) (fun _ _ _ h => h) (Or.inl ⟨by rfl, ?_⟩) hHeld ?_
 rotate_left
 · intro W hSw; (try dsimp only at hSw); go_simp; try with_reducible rfl
 simp only [Act.put, List.getElem_toArray, List.getElem_cons_succ, List.getElem_cons_zero, List.setIfInBounds_toArray, List.set_cons_zero, List.set_cons_succ]
 have HSB1 := hide (HKP.out wa.drew (wa.alloc (.cells #[.string d.name, .int .i64 n0, .int .i64 q0] 71)).drew none 4 HSB0.out ⟨rfl, rfl, rfl, by simp, fun i hi _ => Below.heap_alloc wa _ i (by simpa using hi)⟩ (RowT.none_ _ _) (by decide) (by decide) (by decide) (fun g e => by cases e))
 refine wpAnyH_ready (rs := [4, 15]) (by kernel_rfl) (by simp) ?_
 refine AllReadyH.cons rfl (fun K hK => ?_) (AllReadyH.cons rfl (fun K hK => ?_) AllReadyH.nil)
 · go_simp
   refine hK.out _ _ (HSB.out _ HSB0.out) (fun hHeld => ?_)
   clear hK K
   refine wpAnyH_ready (rs := [15]) (by kernel_rfl) (by simp) ?_
   refine AllReadyH.cons rfl (fun K hK => ?_) AllReadyH.nil
   go_simp
   refine hK.out _ _ (HSB.out _ HSB1.out) (fun hHeld => ?_)
   clear hK K
   refine wpAnyH_ready (rs := [16]) (by kernel_rfl) (by simp) ?_
   refine AllReadyH.cons rfl (fun K hK => ?_) AllReadyH.nil
   refine step_append_el okMach rfl _ _ rfl B (.slice A0 nl c0) m.mT rfl ((show OwnE_ elMach B wa (.slice A0 nl c0) m.mT from by rw [HNL.out, ← HER.out]; exact HAA.out.rm.mc).below ((Below.refl _ wa).alloc (Nat.le_refl _) _).drew) _ _ 1 1 [(⟨d.name, n0, q0⟩ : MachM)] rfl (Reads.newE (E := elMach) wa (⟨d.name, n0, q0⟩ : MachM)) rfl (by have := HLEN.out; simp; omega) (by have := HBA.out.size; have := HB.out; simp; omega) ?_
   intro v1 w1 ho1 hg1 hv1
   have hbb := (Below.refl wa.heap.size wa).alloc (Nat.le_refl _) (.cells #[.string d.name, .int .i64 n0, .int .i64 q0] 71)
   have ha1 := HAA.out.below hbb
   have hg2 : (wa.alloc (.cells #[.string d.name, .int .i64 n0, .int .i64 q0] 71)).grownBy w1 V.m.ownBlock := by rw [HER.out, ← HNL.out]; exact ⟨hg1.os, hg1.tape, hg1.output, hg1.size, hg1.block⟩
   have hrT := RowT.own ha1.rm.mc
   have hlo : ∀ g, V.m.ownBlock = some g → B ≤ g := fun g e => (ha1.rm.mc.lt g e).1
   have hsb2 := HKP.out _ w1 _ _ HSB1.out (show (wa.alloc (.cells #[.string d.name, .int .i64 n0, .int .i64 q0] 71)).drew.grownBy w1 V.m.ownBlock from ⟨hg2.os, hg2.tape, hg2.output, hg2.size, hg2.block⟩) hrT (by decide) (by decide) (by decide) hlo
   have hb2 : Blk w1 br 53 (resC mt V m) := (hg2.block br ha1.blk.lt (fun e => by obtain ⟨cs, hb⟩ := hrT _ e.symm; have := ha1.blk.symm.trans hb; first | (simp at this; done) | (simp at this; exact absurd this.2 (by decide)))).trans ha1.blk
   have hrm := ha1.rm.mach ho1 hg2 hz
   have had := AD.put (mt := mt) (V' := ⟨V.s, V.f, V.r, v1, V.l, V.i, V.u⟩) (m' := ⟨m.sT, m.fT, m.rT, m.mT ++ [(⟨d.name, n0, q0⟩ : MachM)], m.lT, m.iT, m.dT, m.oT, m.vT, m.aT, m.uT⟩) hb2 HAA.out.hB hrm (i := 4) (u := v1) rfl
   have f3 := hb2.frozen 4
   have q3 : w1.cell? ⟨br, 4, none⟩ = some V.m := hb2.cell 4
   have l3 := hb2.lt
   have hkx := ((KX.of_below HBA.out).trans (KX.of_below hbb)).trans ((KX.row hg2 hrT (by decide)).trans (KX.set_ hb2 (by decide) 4 v1))
   have hbw : Below B w (w1.setCell ⟨br, 4, none⟩ v1) := (((HBA.out.mono HB.out).trans hsb2.2.2.1)).setCell (p := ⟨br, 4, none⟩) HAA.out.hB v1
   have HFIN := hide (And.intro had (And.intro hbw hkx))
   have HSB2 := hide hsb2
   have HSB3 := hide (HKP.out w1 (w1.setCell ⟨br, 4, none⟩ v1) (some br) 53 hsb2 (But.set_ (B := w1.heap.size) w1 4 v1).grown (fun g e => by cases e; exact ⟨_, hb2⟩) (by decide) (by decide) (by decide) (fun g e => by cases e; exact HAA.out.hB))
   obtain ⟨A9, c9, e9, _, _⟩ := ho1.form
   obtain ⟨n9, hn9⟩ : ∃ n9, n9 = (m.mT ++ [(⟨d.name, n0, q0⟩ : MachM)]).length := ⟨_, rfl⟩
   rw [← hn9] at e9
   subst e9
   clear hn9 ho1 hg1 hv1 hbb ha1 hg2 hrT hlo hsb2 hb2 hrm had hkx hbw
   (try dsimp only)
   refine hK.out _ _ (HSB.out _ HSB2.out) (fun hHeld => ?_)
   clear hK K
   refine wpAnyH_take (i := 17) (oi := _) (v := ?_) rfl (by kernel_rfl) (by kernel_rfl) (by kernel_rfl) (fun _ _ _ h => h) (Or.inl ⟨by rfl, ?_⟩) hHeld ?_
   rotate_left
   · intro W hSw; (try dsimp only at hSw); go_simp; try with_reducible rfl
   simp only [Act.put, List.getElem_toArray, List.getElem_cons_succ, List.getElem_cons_zero, List.setIfInBounds_toArray, List.set_cons_zero, List.set_cons_succ]
   refine wpAnyH_take (i := 18) (oi := _) (v := ?_) rfl (by kernel_rfl) (by kernel_rfl) (by kernel_rfl) (fun _ _ _ h => h) (Or.inl ⟨by rfl, ?_⟩) hHeld ?_
   rotate_left
   · intro W hSw; (try dsimp only at hSw); go_simp; try with_reducible rfl
   simp only [Act.put, List.getElem_toArray, List.getElem_cons_succ, List.getElem_cons_zero, List.setIfInBounds_toArray, List.set_cons_zero, List.set_cons_succ]
   refine wpAnyH_ready (rs := [19]) (by kernel_rfl) (by simp) ?_
   refine AllReadyH.cons rfl (fun K hK => ?_) AllReadyH.nil
   go_simp
   refine hK.out _ _ (HSB.out _ HSB3.out) (fun hHeld => ?_)
   clear hK K
   refine wpAnyH_done (by kernel_rfl) ?_ _
   go_wp2_with fail
   go_end0
   exact ⟨rfl, ⟨_, HFIN.out.1⟩, HFIN.out.2.1, HFIN.out.2.2⟩
 · go_simp
   refine hK.out _ _ (HSB.out _ HSB1.out) (fun hHeld => ?_)
   clear hK K
   refine wpAnyH_ready (rs := [4]) (by kernel_rfl) (by simp) ?_
   refine AllReadyH.cons rfl (fun K hK => ?_) AllReadyH.nil
   go_simp
   refine hK.out _ _ (HSB.out _ HSB1.out) (fun hHeld => ?_)
   clear hK K
   refine wpAnyH_ready (rs := [16]) (by kernel_rfl) (by simp) ?_
   refine AllReadyH.cons rfl (fun K hK => ?_) AllReadyH.nil
   refine step_append_el okMach rfl _ _ rfl B (.slice A0 nl c0) m.mT rfl ((show OwnE_ elMach B wa (.slice A0 nl c0) m.mT from by rw [HNL.out, ← HER.out]; exact HAA.out.rm.mc).below ((Below.refl _ wa).alloc (Nat.le_refl _) _).drew) _ _ 1 1 [(⟨d.name, n0, q0⟩ : MachM)] rfl (Reads.newE (E := elMach) wa (⟨d.name, n0, q0⟩ : MachM)) rfl (by have := HLEN.out; simp; omega) (by have := HBA.out.size; have := HB.out; simp; omega) ?_
   intro v1 w1 ho1 hg1 hv1
   have hbb := (Below.refl wa.heap.size wa).alloc (Nat.le_refl _) (.cells #[.string d.name, .int .i64 n0, .int .i64 q0] 71)
   have ha1 := HAA.out.below hbb
   have hg2 : (wa.alloc (.cells #[.string d.name, .int .i64 n0, .int .i64 q0] 71)).grownBy w1 V.m.ownBlock := by rw [HER.out, ← HNL.out]; exact ⟨hg1.os, hg1.tape, hg1.output, hg1.size, hg1.block⟩
   have hrT := RowT.own ha1.rm.mc
   have hlo : ∀ g, V.m.ownBlock = some g → B ≤ g := fun g e => (ha1.rm.mc.lt g e).1
   have hsb2 := HKP.out _ w1 _ _ HSB1.out (show (wa.alloc (.cells #[.string d.name, .int .i64 n0, .int .i64 q0] 71)).drew.grownBy w1 V.m.ownBlock from ⟨hg2.os, hg2.tape, hg2.output, hg2.size, hg2.block⟩) hrT (by decide) (by decide) (by decide) hlo
   have hb2 : Blk w1 br 53 (resC mt V m) := (hg2.block br ha1.blk.lt (fun e => by obtain ⟨cs, hb⟩ := hrT _ e.symm; have := ha1.blk.symm.trans hb; first | (simp at this; done) | (simp at this; exact absurd this.2 (by decide)))).trans ha1.blk
   have hrm := ha1.rm.mach ho1 hg2 hz
   have had := AD.put (mt := mt) (V' := ⟨V.s, V.f, V.r, v1, V.l, V.i, V.u⟩) (m' := ⟨m.sT, m.fT, m.rT, m.mT ++ [(⟨d.name, n0, q0⟩ : MachM)], m.lT, m.iT, m.dT, m.oT, m.vT, m.aT, m.uT⟩) hb2 HAA.out.hB hrm (i := 4) (u := v1) rfl
   have f3 := hb2.frozen 4
   have q3 : w1.cell? ⟨br, 4, none⟩ = some V.m := hb2.cell 4
   have l3 := hb2.lt
   have hkx := ((KX.of_below HBA.out).trans (KX.of_below hbb)).trans ((KX.row hg2 hrT (by decide)).trans (KX.set_ hb2 (by decide) 4 v1))
   have hbw : Below B w (w1.setCell ⟨br, 4, none⟩ v1) := (((HBA.out.mono HB.out).trans hsb2.2.2.1)).setCell (p := ⟨br, 4, none⟩) HAA.out.hB v1
   have HFIN := hide (And.intro had (And.intro hbw hkx))
   have HSB2 := hide hsb2
   have HSB3 := hide (HKP.out w1 (w1.setCell ⟨br, 4, none⟩ v1) (some br) 53 hsb2 (But.set_ (B := w1.heap.size) w1 4 v1).grown (fun g e => by cases e; exact ⟨_, hb2⟩) (by decide) (by decide) (by decide) (fun g e => by cases e; exact HAA.out.hB))
   obtain ⟨A9, c9, e9, _, _⟩ := ho1.form
   obtain ⟨n9, hn9⟩ : ∃ n9, n9 = (m.mT ++ [(⟨d.name, n0, q0⟩ : MachM)]).length := ⟨_, rfl⟩
   rw [← hn9] at e9
   subst e9
   clear hn9 ho1 hg1 hv1 hbb ha1 hg2 hrT hlo hsb2 hb2 hrm had hkx hbw
   (try dsimp only)
   refine hK.out _ _ (HSB.out _ HSB2.out) (fun hHeld => ?_)
   clear hK K
   refine wpAnyH_take (i := 17) (oi := _) (v := ?_) rfl (by kernel_rfl) (by kernel_rfl) (by kernel_rfl) (fun _ _ _ h => h) (Or.inl ⟨by rfl, ?_⟩) hHeld ?_
   rotate_left
   · intro W hSw; (try dsimp only at hSw); go_simp; try with_reducible rfl
   simp only [Act.put, List.getElem_toArray, List.getElem_cons_succ, List.getElem_cons_zero, List.setIfInBounds_toArray, List.set_cons_zero, List.set_cons_succ]
   refine wpAnyH_take (i := 18) (oi := _) (v := ?_) rfl (by kernel_rfl) (by kernel_rfl) (by kernel_rfl) (fun _ _ _ h => h) (Or.inl ⟨by rfl, ?_⟩) hHeld ?_
   rotate_left
   · intro W hSw; (try dsimp only at hSw); go_simp; try with_reducible rfl
   simp only [Act.put, List.getElem_toArray, List.getElem_cons_succ, List.getElem_cons_zero, List.setIfInBounds_toArray, List.set_cons_zero, List.set_cons_succ]
   refine wpAnyH_ready (rs := [19]) (by kernel_rfl) (by simp) ?_
   refine AllReadyH.cons rfl (fun K hK => ?_) AllReadyH.nil
   go_simp
   refine hK.out _ _ (HSB.out _ HSB3.out) (fun hHeld => ?_)
   clear hK K
   refine wpAnyH_done (by kernel_rfl) ?_ _
   go_wp2_with fail
   go_end0
   exact ⟨rfl, ⟨_, HFIN.out.1⟩, HFIN.out.2.1, HFIN.out.2.2⟩
theorem add5_prog (B br mt bm : Nat) (V : MV) (m : Mod) (d : Decl) (ra na : Option Addr) (rc nc : Nat) (An : Option Addr) (cn Bn : Nat) (ns : List Int) (n0 n1 : Int) (q0 : Int) (w : World) (hA : AD B br mt w V m) (hB : B ≤ w.heap.size) (hbm : Blk w bm 92 #[.pointer (some ⟨br, 1, none⟩)]) (hn : OwnI Bn w (.slice An ns.length cn) ns) (h0 : ns[0]? = some n0) (h1 : ns[1]? = some n1) (hq : Ints w B na d.nums) (hq0 : d.nums[0]? = some q0) (hlen : m.lT.length ≤ 900000) :
    Calls Tryz.prog 55 #[.agg #[.int .i64 d.kind, .string d.name, .slice ra d.refs.length rc, .slice na d.nums.length nc, .int .i64 d.by_, .bool d.always], .slice An ns.length cn, .pointer (some ⟨bm, 0, none⟩)] w
     (AdnQ B br mt w ⟨m.sT, m.fT, m.rT, m.mT, m.lT ++ [(⟨min n0 n1, max n0 n1, q0⟩ : LinkM)], m.iT, m.dT, m.oT, m.vT, m.aT, m.uT⟩) := by
 obtain ⟨wa, hwa⟩ : ∃ wa, wa = w.alloc (.cells #[.int .i64 d.kind, .string d.name, .slice ra d.refs.length rc, .slice na d.nums.length nc, .int .i64 d.by_, .bool d.always] 43) := ⟨_, rfl⟩
 have hba : Below w.heap.size w wa := by rw [hwa]; exact (Below.refl _ _).alloc (Nat.le_refl _) _
 have HXA := hide (show Blk wa w.heap.size 43 _ from by rw [hwa]; exact Blk.new w _ _)
 have HAA := hide (hA.below hba)
 have HBM := hide (hbm.below hba hbm.lt)
 have HBA := hide hba
 have HB := hide hB
 have HWA := hide hwa
 have HLEN := hide hlen
 have hl1 : 1 < ns.length := (List.getElem?_eq_some_iff.1 h1).1
 rcases hn.2 with ⟨_, h00⟩ | ⟨b, cap, cur, e, _, hcur, _, _, _, htk⟩
 · omega
 injection e with e1 e2 e3
 subst e1
 have hBN : Blk w b 3 cur := hcur
 have HBN := hide (hBN.below hba hBN.lt)
 have hcc : ∀ j x, ns[j]? = some x → cur[j]? = some (Value.int .i64 x) := fun j x hj => by
  have hjl := (List.getElem?_eq_some_iff.1 hj).1
  have : (cur.toList.take (ns.length * 1))[j]? = (ns.map (Value.int .i64))[j]? := by rw [htk]
  rw [List.getElem?_take_of_lt (by omega), Array.getElem?_toList] at this
  rw [this]; simp [hj]
 have HC0 := hide (hcc 0 n0 h0)
 have HC1 := hide (hcc 1 n1 h1)
 obtain ⟨nn, hnn⟩ : ∃ nn, nn = ns.length := ⟨_, rfl⟩
 rw [← hnn] at hl1
 rw [← hnn]
 have hl1I : (1 : Int) < (nn : Int) := by omega
 have hl0I : (0 : Int) < (nn : Int) := by omega
 have hl0 : 0 < nn := by omega
 clear hnn h0 h1 hcc htk hcur hBN e2 e3 hn
 have hq1 : 0 < d.nums.length := (List.getElem?_eq_some_iff.1 hq0).1
 have hq1I : (0 : Int) < (d.nums.length : Int) := by omega
 obtain ⟨bq, oq, hqA, hqb, yq⟩ := int_at (hq.below (hba.mono hB)) (k := 0) hq1
 have HQ := hide (show wa.cell? ⟨bq, oq, none⟩ = some (.int .i64 q0) from by
  rw [List.getElem?_eq_getElem hq1] at hq0
  rw [show oq = oq + 0 from rfl, yq, Option.some.inj hq0])
 have HQB := hide hqb
 obtain ⟨nq, hnq⟩ : ∃ nq, nq = d.nums.length := ⟨_, rfl⟩
 subst hqA
 clear hq hq0 yq hqb
 have HSB := hide (fun (W : World) (h : Blk W bm 92 #[.pointer (some ⟨br, 1, none⟩)] ∧ Blk W w.heap.size 43 #[.int .i64 d.kind, .string d.name, .slice ra d.refs.length rc, .slice (some ⟨bq, oq, none⟩) d.nums.length nc, .int .i64 d.by_, .bool d.always] ∧ Below B wa W ∧ Blk W b 3 cur) => (⟨⟨h.1.cell 0, (h.2.2.2.cell 0).trans HC0.out, (h.2.2.2.cell 1).trans HC1.out, h.2.1.cell 3, (h.2.2.1.cell HQB.out).trans HQ.out⟩, h⟩ : (W.cell? ⟨bm, 0, none⟩ = some (.pointer (some ⟨br, 1, none⟩)) ∧ W.cell? ⟨b, 0, none⟩ = some (.int .i64 n0) ∧ W.cell? ⟨b, 1, none⟩ = some (.int .i64 n1) ∧ W.cell? ⟨w.heap.size, 3, none⟩ = some (.slice (some ⟨bq, oq, none⟩) d.nums.length nc) ∧ W.cell? ⟨bq, oq, none⟩ = some (.int .i64 q0)) ∧ Blk W bm 92 #[.pointer (some ⟨br, 1, none⟩)] ∧ Blk W w.heap.size 43 #[.int .i64 d.kind, .string d.name, .slice ra d.refs.length rc, .slice (some ⟨bq, oq, none⟩) d.nums.length nc, .int .i64 d.by_, .bool d.always] ∧ Below B wa W ∧ Blk W b 3 cur))
 have HKP := hide (fun (W W' : World) (row : Option Nat) (T : TypeId) (h : Blk W bm 92 #[.pointer (some ⟨br, 1, none⟩)] ∧ Blk W w.heap.size 43 #[.int .i64 d.kind, .string d.name, .slice ra d.refs.length rc, .slice (some ⟨bq, oq, none⟩) d.nums.length nc, .int .i64 d.by_, .bool d.always] ∧ Below B wa W ∧ Blk W b 3 cur) (hg : W.grownBy W' row) (hT : RowT W row T) (hn1 : ¬ 92 = T) (hn2 : ¬ 43 = T) (hn3 : ¬ 3 = T) (hr : ∀ g, row = some g → B ≤ g) => (⟨(hg.block _ h.1.lt (fun e => by obtain ⟨cs, hb⟩ := hT _ e.symm; have := h.1.symm.trans hb; simp at this; exact hn1 this.2)).trans h.1, (hg.block _ h.2.1.lt (fun e => by obtain ⟨cs, hb⟩ := hT _ e.symm; have := h.2.1.symm.trans hb; simp at this; exact hn2 this.2)).trans h.2.1, h.2.2.1.grown hg (Nat.le_trans (Nat.le_trans HB.out HBA.out.size) h.2.2.1.size) hr, (hg.block _ h.2.2.2.lt (fun e => by obtain ⟨cs, hb⟩ := hT _ e.symm; have := h.2.2.2.symm.trans hb; simp at this; exact hn3 this.2)).trans h.2.2.2⟩ : Blk W' bm 92 #[.pointer (some ⟨br, 1, none⟩)] ∧ Blk W' w.heap.size 43 #[.int .i64 d.kind, .string d.name, .slice ra d.refs.length rc, .slice (some ⟨bq, oq, none⟩) d.nums.length nc, .int .i64 d.by_, .bool d.always] ∧ Below B wa W' ∧ Blk W' b 3 cur))
 have cf := HAA.out.cells
 obtain ⟨A0, c0, er, hcr, _⟩ := HAA.out.rm.l.form
 have old : wa.cell? ⟨br, 5, none⟩ = some (.slice A0 m.lT.length c0) := by rw [← er]; exact HAA.out.blk.cell 5
 have HER := hide er
 have cl := HAA.out.blk.lt
 obtain ⟨nl, hnl⟩ : ∃ nl, nl = m.lT.length := ⟨_, rfl⟩
 have HNL := hide hnl
 rw [← hnl] at old
 have HSB0 := hide (show Blk wa.drew bm 92 #[.pointer (some ⟨br, 1, none⟩)] ∧ Blk wa.drew w.heap.size 43 #[.int .i64 d.kind, .string d.name, .slice ra d.refs.length rc, .slice (some ⟨bq, oq, none⟩) d.nums.length nc, .int .i64 d.by_, .bool d.always] ∧ Below B wa wa.drew ∧ Blk wa.drew b 3 cur from ⟨HBM.out, HXA.out, (Below.refl _ _).drew, HBN.out⟩)
 clear cf hwa hba hA hbm hB er hcr hnl hlen
 go_enter Tryz.func55, Tryz.ntmps55
 go_upto_region 1 with (fail)
 rw [show (w.alloc (.cells #[.int .i64 d.kind, .string d.name, .slice ra d.refs.length rc, .slice (some ⟨bq, oq, none⟩) d.nums.length nc, .int .i64 d.by_, .bool d.always] 43)) = wa from HWA.out.symm]
 refine wp_region_held_drew (S := (fun W => (W.cell? ⟨bm, 0, none⟩ = some (.pointer (some ⟨br, 1, none⟩)) ∧ W.cell? ⟨b, 0, none⟩ = some (.int .i64 n0) ∧ W.cell? ⟨b, 1, none⟩ = some (.int .i64 n1) ∧ W.cell? ⟨w.heap.size, 3, none⟩ = some (.slice (some ⟨bq, oq, none⟩) d.nums.length nc) ∧ W.cell? ⟨bq, oq, none⟩ = some (.int .i64 q0)) ∧ Blk W bm 92 #[.pointer (some ⟨br, 1, none⟩)] ∧ Blk W w.heap.size 43 #[.int .i64 d.kind, .string d.name, .slice ra d.refs.length rc, .slice (some ⟨bq, oq, none⟩) d.nums.length nc, .int .i64 d.by_, .bool d.always] ∧ Below B wa W ∧ Blk W b 3 cur)) (by kernel_rfl) (HSB.out _ HSB0.out) (fun hHeld => ?_)
 refine wpAnyH_take (i := 0) (oi := _) (v := ?_) rfl (by kernel_rfl) (by kernel_rfl) (by kernel_rfl) (fun _ _ _ h => h) (Or.inl ⟨by rfl, ?_⟩) hHeld ?_
 rotate_left
 · intro W hSw; (try dsimp only at hSw); go_simp; try with_reducible rfl
 simp only [Act.put, List.getElem_toArray, List.getElem_cons_zero, List.setIfInBounds_toArray, List.set_cons_zero, List.set_cons_succ]
 refine wpAnyH_take (i := 1) (oi := _) (v := ?_) rfl (by kernel_rfl) (by kernel_rfl) (by kernel_rfl) (fun _ _ _ h => h) (Or.inl ⟨by rfl, ?_⟩) hHeld ?_
 rotate_left
 · intro W hSw; (try dsimp only at hSw); go_simp; try with_reducible rfl
 simp only [Act.put, List.getElem_toArray, List.getElem_cons_succ, List.getElem_cons_zero, List.setIfInBounds_toArray, List.set_cons_zero, List.set_cons_succ]
 refine wpAnyH_take (i := 2) (oi := _) (v := ?_) rfl (by kernel_rfl) (by kernel_rfl) (by kernel_rfl) (fun _ _ _ h => h) (Or.inl ⟨by rfl, ?_⟩) hHeld ?_
 rotate_left
 · intro W hSw; (try dsimp only at hSw); go_simp; try with_reducible rfl
 simp only [Act.put, List.getElem_toArray, List.getElem_cons_succ, List.getElem_cons_zero, List.setIfInBounds_toArray, List.set_cons_zero, List.set_cons_succ]
 refine wpAnyH_take (i := 3) (oi := _) (v := ?_) rfl (by kernel_rfl) (by kernel_rfl) (by kernel_rfl) (fun _ _ _ h => h) (Or.inl ⟨by rfl, ?_⟩) hHeld ?_
 rotate_left
 · intro W hSw; (try dsimp only at hSw); go_simp; try with_reducible rfl
 simp only [Act.put, List.getElem_toArray, List.getElem_cons_succ, List.getElem_cons_zero, List.setIfInBounds_toArray, List.set_cons_zero, List.set_cons_succ]
 refine wpAnyH_take (i := 5) (oi := _) (v := ?_) rfl (by kernel_rfl) (by kernel_rfl) (by kernel_rfl) (fun _ _ _ h => h) (Or.inl ⟨by rfl, ?_⟩) hHeld ?_
 rotate_left
 · intro W hSw; (try dsimp only at hSw); go_simp; try with_reducible rfl
 simp only [Act.put, List.getElem_toArray, List.getElem_cons_succ, List.getElem_cons_zero, List.setIfInBounds_toArray, List.set_cons_zero, List.set_cons_succ]
 refine wpAnyH_take (i := 6) (oi := _) (v := ?_) rfl (by kernel_rfl) (by kernel_rfl) (by kernel_rfl) (fun _ _ _ h => h) (Or.inl ⟨by rfl, ?_⟩) hHeld ?_
 rotate_left
 · intro W hSw; (try dsimp only at hSw); go_simp; try with_reducible rfl
 simp only [Act.put, List.getElem_toArray, List.getElem_cons_succ, List.getElem_cons_zero, List.setIfInBounds_toArray, List.set_cons_zero, List.set_cons_succ]
 refine wpAnyH_take (i := 7) (oi := _) (v := ?_) rfl (by kernel_rfl) (by kernel_rfl) (by kernel_rfl) (fun _ _ _ h => h) (Or.inl ⟨by rfl, ?_⟩) hHeld ?_
 rotate_left
 · intro W hSw; (try dsimp only at hSw); go_simp; try with_reducible rfl
 simp only [Act.put, List.getElem_toArray, List.getElem_cons_succ, List.getElem_cons_zero, List.setIfInBounds_toArray, List.set_cons_zero, List.set_cons_succ]
 refine wpAnyH_take (i := 8) (oi := _) (v := ?_) rfl (by kernel_rfl) (by kernel_rfl) (by kernel_rfl) (fun _ _ _ h => h) (Or.inl ⟨by rfl, ?_⟩) hHeld ?_
 rotate_left
 · intro W hSw; (try dsimp only at hSw); go_simp; try with_reducible rfl
 simp only [Act.put, List.getElem_toArray, List.getElem_cons_succ, List.getElem_cons_zero, List.setIfInBounds_toArray, List.set_cons_zero, List.set_cons_succ]
 refine wpAnyH_take (i := 9) (oi := _) (v := ?_) rfl (by kernel_rfl) (by kernel_rfl) (by kernel_rfl) (fun _ _ _ h => h) (Or.inl ⟨by rfl, ?_⟩) hHeld ?_
 rotate_left
 · intro W hSw; (try dsimp only at hSw); go_simp; try with_reducible rfl
 simp only [Act.put, List.getElem_toArray, List.getElem_cons_succ, List.getElem_cons_zero, List.setIfInBounds_toArray, List.set_cons_zero, List.set_cons_succ]
 refine wpAnyH_take (i := 10) (oi := _) (v := ?_) rfl (by kernel_rfl) (by kernel_rfl) (by kernel_rfl) (fun _ _ _ h => h) (Or.inl ⟨by rfl, ?_⟩) hHeld ?_
 rotate_left
 · intro W hSw; (try dsimp only at hSw); go_simp; try with_reducible rfl
 simp only [Act.put, List.getElem_toArray, List.getElem_cons_succ, List.getElem_cons_zero, List.setIfInBounds_toArray, List.set_cons_zero, List.set_cons_succ]
 refine wpAnyH_take (i := 11) (oi := _) (v := ?_) rfl (by kernel_rfl) (by kernel_rfl) (by kernel_rfl) (fun _ _ _ h => h) (Or.inl ⟨by rfl, ?_⟩) hHeld ?_
 rotate_left
 · intro W hSw; (try dsimp only at hSw); go_simp; try with_reducible rfl
 simp only [Act.put, List.getElem_toArray, List.getElem_cons_succ, List.getElem_cons_zero, List.setIfInBounds_toArray, List.set_cons_zero, List.set_cons_succ]
 refine wpAnyH_take (i := 12) (oi := _) (v := ?_) rfl (by kernel_rfl) (by kernel_rfl) (by kernel_rfl) (fun _ _ _ h => h) (Or.inl ⟨by rfl, ?_⟩) hHeld ?_
 rotate_left
 · intro W hSw; (try dsimp only at hSw); go_simp; try with_reducible rfl
 simp only [Act.put, List.getElem_toArray, List.getElem_cons_succ, List.getElem_cons_zero, List.setIfInBounds_toArray, List.set_cons_zero, List.set_cons_succ]
 refine wpAnyH_take (i := 13) (oi := _) (v := ?_) rfl (by kernel_rfl) (by kernel_rfl) (by kernel_rfl) (fun _ _ _ h => h) (Or.inl ⟨by rfl, ?_⟩) hHeld ?_
 rotate_left
 · intro W hSw; (try dsimp only at hSw); go_simp; try with_reducible rfl
 simp only [Act.put, List.getElem_toArray, List.getElem_cons_succ, List.getElem_cons_zero, List.setIfInBounds_toArray, List.set_cons_zero, List.set_cons_succ]
 refine wpAnyH_take (i := 14) (oi := _) (v := ?_) rfl (by kernel_rfl) (by kernel_rfl) (by kernel_rfl) (fun _ _ _ h => h) (Or.inl ⟨by rfl, ?_⟩) hHeld ?_
 rotate_left
 · intro W hSw; (try dsimp only at hSw); go_simp; try with_reducible rfl
 simp only [Act.put, List.getElem_toArray, List.getElem_cons_succ, List.getElem_cons_zero, List.setIfInBounds_toArray, List.set_cons_zero, List.set_cons_succ]
 refine wpAnyH_take (i := 15) (oi := _) (v := ?_) rfl (by kernel_rfl) (by kernel_rfl) (by kernel_rfl) (fun _ _ _ h => h) (Or.inl ⟨by rfl, ?_⟩) hHeld ?_
 rotate_left
 · intro W hSw; (try dsimp only at hSw); go_simp; try with_reducible rfl
 simp only [Act.put, List.getElem_toArray, List.getElem_cons_succ, List.getElem_cons_zero, List.setIfInBounds_toArray, List.set_cons_zero, List.set_cons_succ]
 refine wpAnyH_take (i := 16) (oi := _) (v := ?_) rfl (by kernel_rfl) (by kernel_rfl) (by kernel_rfl) (fun _ _ _ h => h) (Or.inl ⟨by rfl, ?_⟩) hHeld ?_
 rotate_left
 · intro W hSw; (try dsimp only at hSw); go_simp; try with_reducible rfl
 simp only [Act.put, List.getElem_toArray, List.getElem_cons_succ, List.getElem_cons_zero, List.setIfInBounds_toArray, List.set_cons_zero, List.set_cons_succ]
 refine wpAnyH_take (i := 17) (oi := _) (v := ?_) rfl (by kernel_rfl) (by kernel_rfl) (by kernel_rfl) (fun _ _ _ h => h) (Or.inl ⟨by rfl, ?_⟩) hHeld ?_
 rotate_left
 · intro W hSw; (try dsimp only at hSw); go_simp; try with_reducible rfl
 simp only [Act.put, List.getElem_toArray, List.getElem_cons_succ, List.getElem_cons_zero, List.setIfInBounds_toArray, List.set_cons_zero, List.set_cons_succ]
 refine wpAnyH_take (i := 18) (oi := _) (v := ?_) rfl (by kernel_rfl) (by kernel_rfl) (by kernel_rfl) (fun _ _ _ h => h) (Or.inl ⟨by rfl, ?_⟩) hHeld ?_
 rotate_left
 · intro W hSw; (try dsimp only at hSw); go_simp; try with_reducible rfl
 simp only [Act.put, List.getElem_toArray, List.getElem_cons_succ, List.getElem_cons_zero, List.setIfInBounds_toArray, List.set_cons_zero, List.set_cons_succ]
 refine wpAnyH_take (i := 19) (oi := _) (v := ?_) rfl (by kernel_rfl) (by kernel_rfl) (by kernel_rfl) (fun _ _ _ h => h) (Or.inl ⟨by rfl, ?_⟩) hHeld ?_
 rotate_left
 · intro W hSw; (try dsimp only at hSw); go_simp; try with_reducible rfl
 simp only [Act.put, List.getElem_toArray, List.getElem_cons_succ, List.getElem_cons_zero, List.setIfInBounds_toArray, List.set_cons_zero, List.set_cons_succ]
 refine wpAnyH_take (i := 20) (oi := _) (v := ?_) rfl (by kernel_rfl) (by kernel_rfl) (by kernel_rfl) (fun _ _ _ h => h) (Or.inl ⟨by rfl, ?_⟩) hHeld ?_
 rotate_left
 · intro W hSw; (try dsimp only at hSw); go_simp; try with_reducible rfl
 simp only [Act.put, List.getElem_toArray, List.getElem_cons_succ, List.getElem_cons_zero, List.setIfInBounds_toArray, List.set_cons_zero, List.set_cons_succ]
 refine wpAnyH_take (i := 21) (oi := _) (v := ?_) rfl (by kernel_rfl) (by kernel_rfl) (by kernel_rfl) (fun _ _ _ h => h) (Or.inl ⟨by rfl, ?_⟩) hHeld ?_
 rotate_left
 · intro W hSw; (try dsimp only at hSw); go_simp; try with_reducible rfl
 simp only [Act.put, List.getElem_toArray, List.getElem_cons_succ, List.getElem_cons_zero, List.setIfInBounds_toArray, List.set_cons_zero, List.set_cons_succ]
 refine wpAnyH_take (i := 22) (oi := _) (v := ?_) rfl (by kernel_rfl) (by kernel_rfl) (by kernel_rfl) (fun _ _ _ h => h) (Or.inl ⟨by rfl, ?_⟩) hHeld ?_
 rotate_left
 · intro W hSw; (try dsimp only at hSw); go_simp; try with_reducible rfl
 simp only [Act.put, List.getElem_toArray, List.getElem_cons_succ, List.getElem_cons_zero, List.setIfInBounds_toArray, List.set_cons_zero, List.set_cons_succ]
 refine wpAnyH_take (i := 23) (oi := _) (v := ?_) rfl (by kernel_rfl) (by kernel_rfl) (by kernel_rfl) (fun _ _ _ h => h) (Or.inl ⟨by rfl, ?_⟩) hHeld ?_
 rotate_left
 · intro W hSw; (try dsimp only at hSw); go_simp; try with_reducible rfl
 simp only [Act.put, List.getElem_toArray, List.getElem_cons_succ, List.getElem_cons_zero, List.setIfInBounds_toArray, List.set_cons_zero, List.set_cons_succ]
 have HSB1 := hide (HKP.out wa.drew (wa.alloc (.cells #[.int .i64 (min n0 n1), .int .i64 (max n0 n1), .int .i64 q0] 73)).drew none 4 HSB0.out ⟨rfl, rfl, rfl, by simp, fun i hi _ => Below.heap_alloc wa _ i (by simpa using hi)⟩ (RowT.none_ _ _) (by decide) (by decide) (by decide) (fun g e => by cases e))
 refine wpAnyH_ready (rs := [4, 24]) (by kernel_rfl) (by simp) ?_
 refine AllReadyH.cons rfl (fun K hK => ?_) (AllReadyH.cons rfl (fun K hK => ?_) AllReadyH.nil)
 · go_simp
   refine hK.out _ _ (HSB.out _ HSB0.out) (fun hHeld => ?_)
   clear hK K
   refine wpAnyH_ready (rs := [24]) (by kernel_rfl) (by simp) ?_
   refine AllReadyH.cons rfl (fun K hK => ?_) AllReadyH.nil
   go_simp
   refine hK.out _ _ (HSB.out _ HSB1.out) (fun hHeld => ?_)
   clear hK K
   refine wpAnyH_ready (rs := [25]) (by kernel_rfl) (by simp) ?_
   refine AllReadyH.cons rfl (fun K hK => ?_) AllReadyH.nil
   refine step_append_el okLink rfl _ _ rfl B (.slice A0 nl c0) m.lT rfl ((show OwnE_ elLink B wa (.slice A0 nl c0) m.lT from by rw [HNL.out, ← HER.out]; exact HAA.out.rm.l).below ((Below.refl _ wa).alloc (Nat.le_refl _) _).drew) _ _ 1 1 [(⟨min n0 n1, max n0 n1, q0⟩ : LinkM)] rfl (Reads.newE (E := elLink) wa (⟨min n0 n1, max n0 n1, q0⟩ : LinkM)) rfl (by have := HLEN.out; simp; omega) (by have := HBA.out.size; have := HB.out; simp; omega) ?_
   intro v1 w1 ho1 hg1 hv1
   have hbb := (Below.refl wa.heap.size wa).alloc (Nat.le_refl _) (.cells #[.int .i64 (min n0 n1), .int .i64 (max n0 n1), .int .i64 q0] 73)
   have ha1 := HAA.out.below hbb
   have hg2 : (wa.alloc (.cells #[.int .i64 (min n0 n1), .int .i64 (max n0 n1), .int .i64 q0] 73)).grownBy w1 V.l.ownBlock := by rw [HER.out, ← HNL.out]; exact ⟨hg1.os, hg1.tape, hg1.output, hg1.size, hg1.block⟩
   have hrT := RowT.own ha1.rm.l
   have hlo : ∀ g, V.l.ownBlock = some g → B ≤ g := fun g e => (ha1.rm.l.lt g e).1
   have hsb2 := HKP.out _ w1 _ _ HSB1.out (show (wa.alloc (.cells #[.int .i64 (min n0 n1), .int .i64 (max n0 n1), .int .i64 q0] 73)).drew.grownBy w1 V.l.ownBlock from ⟨hg2.os, hg2.tape, hg2.output, hg2.size, hg2.block⟩) hrT (by decide) (by decide) (by decide) hlo
   have hb2 : Blk w1 br 53 (resC mt V m) := (hg2.block br ha1.blk.lt (fun e => by obtain ⟨cs, hb⟩ := hrT _ e.symm; have := ha1.blk.symm.trans hb; first | (simp at this; done) | (simp at this; exact absurd this.2 (by decide)))).trans ha1.blk
   have hrm := ha1.rm.link ho1 hg2
   have had := AD.put (mt := mt) (V' := ⟨V.s, V.f, V.r, V.m, v1, V.i, V.u⟩) (m' := ⟨m.sT, m.fT, m.rT, m.mT, m.lT ++ [(⟨min n0 n1, max n0 n1, q0⟩ : LinkM)], m.iT, m.dT, m.oT, m.vT, m.aT, m.uT⟩) hb2 HAA.out.hB hrm (i := 5) (u := v1) rfl
   have f3 := hb2.frozen 5
   have q3 : w1.cell? ⟨br, 5, none⟩ = some V.l := hb2.cell 5
   have l3 := hb2.lt
   have hkx := ((KX.of_below HBA.out).trans (KX.of_below hbb)).trans ((KX.row hg2 hrT (by decide)).trans (KX.set_ hb2 (by decide) 5 v1))
   have hbw : Below B w (w1.setCell ⟨br, 5, none⟩ v1) := (((HBA.out.mono HB.out).trans hsb2.2.2.1)).setCell (p := ⟨br, 5, none⟩) HAA.out.hB v1
   have HFIN := hide (And.intro had (And.intro hbw hkx))
   have HSB2 := hide hsb2
   have HSB3 := hide (HKP.out w1 (w1.setCell ⟨br, 5, none⟩ v1) (some br) 53 hsb2 (But.set_ (B := w1.heap.size) w1 5 v1).grown (fun g e => by cases e; exact ⟨_, hb2⟩) (by decide) (by decide) (by decide) (fun g e => by cases e; exact HAA.out.hB))
   obtain ⟨A9, c9, e9, _, _⟩ := ho1.form
   obtain ⟨n9, hn9⟩ : ∃ n9, n9 = (m.lT ++ [(⟨min n0 n1, max n0 n1, q0⟩ : LinkM)]).length := ⟨_, rfl⟩
   rw [← hn9] at e9
   subst e9
   clear hn9 ho1 hg1 hv1 hbb ha1 hg2 hrT hlo hsb2 hb2 hrm had hkx hbw
   (try dsimp only)
   refine hK.out _ _ (HSB.out _ HSB2.out) (fun hHeld => ?_)
   clear hK K
   refine wpAnyH_take (i := 26) (oi := _) (v := ?_) rfl (by kernel_rfl) (by kernel_rfl) (by kernel_rfl) (fun _ _ _ h => h) (Or.inl ⟨by rfl, ?_⟩) hHeld ?_
   rotate_left
   · intro W hSw; (try dsimp only at hSw); go_simp; try with_reducible rfl
   simp only [Act.put, List.getElem_toArray, List.getElem_cons_succ, List.getElem_cons_zero, List.setIfInBounds_toArray, List.set_cons_zero, List.set_cons_succ]
   refine wpAnyH_take (i := 27) (oi := _) (v := ?_) rfl (by kernel_rfl) (by kernel_rfl) (by kernel_rfl) (fun _ _ _ h => h) (Or.inl ⟨by rfl, ?_⟩) hHeld ?_
   rotate_left
   · intro W hSw; (try dsimp only at hSw); go_simp; try with_reducible rfl
   simp only [Act.put, List.getElem_toArray, List.getElem_cons_succ, List.getElem_cons_zero, List.setIfInBounds_toArray, List.set_cons_zero, List.set_cons_succ]
   refine wpAnyH_ready (rs := [28]) (by kernel_rfl) (by simp) ?_
   refine AllReadyH.cons rfl (fun K hK => ?_) AllReadyH.nil
   go_simp
   refine hK.out _ _ (HSB.out _ HSB3.out) (fun hHeld => ?_)
   clear hK K
   refine wpAnyH_done (by kernel_rfl) ?_ _
   go_wp2_with fail
   go_end0
   exact ⟨rfl, ⟨_, HFIN.out.1⟩, HFIN.out.2.1, HFIN.out.2.2⟩
 · go_simp
   refine hK.out _ _ (HSB.out _ HSB1.out) (fun hHeld => ?_)
   clear hK K
   refine wpAnyH_ready (rs := [4]) (by kernel_rfl) (by simp) ?_
   refine AllReadyH.cons rfl (fun K hK => ?_) AllReadyH.nil
   go_simp
   refine hK.out _ _ (HSB.out _ HSB1.out) (fun hHeld => ?_)
   clear hK K
   refine wpAnyH_ready (rs := [25]) (by kernel_rfl) (by simp) ?_
   refine AllReadyH.cons rfl (fun K hK => ?_) AllReadyH.nil
   refine step_append_el okLink rfl _ _ rfl B (.slice A0 nl c0) m.lT rfl ((show OwnE_ elLink B wa (.slice A0 nl c0) m.lT from by rw [HNL.out, ← HER.out]; exact HAA.out.rm.l).below ((Below.refl _ wa).alloc (Nat.le_refl _) _).drew) _ _ 1 1 [(⟨min n0 n1, max n0 n1, q0⟩ : LinkM)] rfl (Reads.newE (E := elLink) wa (⟨min n0 n1, max n0 n1, q0⟩ : LinkM)) rfl (by have := HLEN.out; simp; omega) (by have := HBA.out.size; have := HB.out; simp; omega) ?_
   intro v1 w1 ho1 hg1 hv1
   have hbb := (Below.refl wa.heap.size wa).alloc (Nat.le_refl _) (.cells #[.int .i64 (min n0 n1), .int .i64 (max n0 n1), .int .i64 q0] 73)
   have ha1 := HAA.out.below hbb
   have hg2 : (wa.alloc (.cells #[.int .i64 (min n0 n1), .int .i64 (max n0 n1), .int .i64 q0] 73)).grownBy w1 V.l.ownBlock := by rw [HER.out, ← HNL.out]; exact ⟨hg1.os, hg1.tape, hg1.output, hg1.size, hg1.block⟩
   have hrT := RowT.own ha1.rm.l
   have hlo : ∀ g, V.l.ownBlock = some g → B ≤ g := fun g e => (ha1.rm.l.lt g e).1
   have hsb2 := HKP.out _ w1 _ _ HSB1.out (show (wa.alloc (.cells #[.int .i64 (min n0 n1), .int .i64 (max n0 n1), .int .i64 q0] 73)).drew.grownBy w1 V.l.ownBlock from ⟨hg2.os, hg2.tape, hg2.output, hg2.size, hg2.block⟩) hrT (by decide) (by decide) (by decide) hlo
   have hb2 : Blk w1 br 53 (resC mt V m) := (hg2.block br ha1.blk.lt (fun e => by obtain ⟨cs, hb⟩ := hrT _ e.symm; have := ha1.blk.symm.trans hb; first | (simp at this; done) | (simp at this; exact absurd this.2 (by decide)))).trans ha1.blk
   have hrm := ha1.rm.link ho1 hg2
   have had := AD.put (mt := mt) (V' := ⟨V.s, V.f, V.r, V.m, v1, V.i, V.u⟩) (m' := ⟨m.sT, m.fT, m.rT, m.mT, m.lT ++ [(⟨min n0 n1, max n0 n1, q0⟩ : LinkM)], m.iT, m.dT, m.oT, m.vT, m.aT, m.uT⟩) hb2 HAA.out.hB hrm (i := 5) (u := v1) rfl
   have f3 := hb2.frozen 5
   have q3 : w1.cell? ⟨br, 5, none⟩ = some V.l := hb2.cell 5
   have l3 := hb2.lt
   have hkx := ((KX.of_below HBA.out).trans (KX.of_below hbb)).trans ((KX.row hg2 hrT (by decide)).trans (KX.set_ hb2 (by decide) 5 v1))
   have hbw : Below B w (w1.setCell ⟨br, 5, none⟩ v1) := (((HBA.out.mono HB.out).trans hsb2.2.2.1)).setCell (p := ⟨br, 5, none⟩) HAA.out.hB v1
   have HFIN := hide (And.intro had (And.intro hbw hkx))
   have HSB2 := hide hsb2
   have HSB3 := hide (HKP.out w1 (w1.setCell ⟨br, 5, none⟩ v1) (some br) 53 hsb2 (But.set_ (B := w1.heap.size) w1 5 v1).grown (fun g e => by cases e; exact ⟨_, hb2⟩) (by decide) (by decide) (by decide) (fun g e => by cases e; exact HAA.out.hB))
   obtain ⟨A9, c9, e9, _, _⟩ := ho1.form
   obtain ⟨n9, hn9⟩ : ∃ n9, n9 = (m.lT ++ [(⟨min n0 n1, max n0 n1, q0⟩ : LinkM)]).length := ⟨_, rfl⟩
   rw [← hn9] at e9
   subst e9
   clear hn9 ho1 hg1 hv1 hbb ha1 hg2 hrT hlo hsb2 hb2 hrm had hkx hbw
   (try dsimp only)
   refine hK.out _ _ (HSB.out _ HSB2.out) (fun hHeld => ?_)
   clear hK K
   refine wpAnyH_take (i := 26) (oi := _) (v := ?_) rfl (by kernel_rfl) (by kernel_rfl) (by kernel_rfl) (fun _ _ _ h => h) (Or.inl ⟨by rfl, ?_⟩) hHeld ?_
   rotate_left
   · intro W hSw; (try dsimp only at hSw); go_simp; try with_reducible rfl
   simp only [Act.put, List.getElem_toArray, List.getElem_cons_succ, List.getElem_cons_zero, List.setIfInBounds_toArray, List.set_cons_zero, List.set_cons_succ]
   refine wpAnyH_take (i := 27) (oi := _) (v := ?_) rfl (by kernel_rfl) (by kernel_rfl) (by kernel_rfl) (fun _ _ _ h => h) (Or.inl ⟨by rfl, ?_⟩) hHeld ?_
   rotate_left
   · intro W hSw; (try dsimp only at hSw); go_simp; try with_reducible rfl
   simp only [Act.put, List.getElem_toArray, List.getElem_cons_succ, List.getElem_cons_zero, List.setIfInBounds_toArray, List.set_cons_zero, List.set_cons_succ]
   refine wpAnyH_ready (rs := [28]) (by kernel_rfl) (by simp) ?_
   refine AllReadyH.cons rfl (fun K hK => ?_) AllReadyH.nil
   go_simp
   refine hK.out _ _ (HSB.out _ HSB3.out) (fun hHeld => ?_)
   clear hK K
   refine wpAnyH_done (by kernel_rfl) ?_ _
   go_wp2_with fail
   go_end0
   exact ⟨rfl, ⟨_, HFIN.out.1⟩, HFIN.out.2.1, HFIN.out.2.2⟩
end Go.Proofs.YtcfogipaadhbeaaGreatDoor
