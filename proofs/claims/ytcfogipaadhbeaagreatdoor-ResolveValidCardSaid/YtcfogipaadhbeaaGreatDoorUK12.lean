/- A part of the claim: see its last text. -/
import Derived.Test.YtcfogipaadhbeaaGreatDoorUK06
import Derived.Test.YtcfogipaadhbeaaGreatDoorUK11
import Derived.Deep.RegionHeld3

set_option maxRecDepth 100000
set_option maxHeartbeats 16000000
namespace Go.Proofs.YtcfogipaadhbeaaGreatDoor
open Go Go.RowKit Go.Proofs
theorem add6_prog (B br mt bm bx : Nat) (V : MV) (m : Mod) (ts : List Thing) (d : Decl) (ra na : Option Addr) (rc nc : Nat) (An : Option Addr) (nl cn : Nat) (x0 x1 x2 : Int) (w : World) (hA : AD B br mt w V m) (hB : B ≤ w.heap.size) (hbm : Blk w bm 92 #[.pointer (some ⟨br, 1, none⟩)]) (hbx : Blk w bx 50 #[.pointer (some ⟨br, 0, none⟩)]) (hm : AM keyStr w mt (thL ts)) (hr : Strs w B ra d.refs) (hrl : d.refs.length ≤ 1000) (hq : Ints w B na d.nums) (hnl : d.nums.length = 0 + 3) (hnc : d.nums.length ≤ nc) (h0 : d.nums[0]? = some x0) (h1 : d.nums[0 + 1]? = some x1) (h2 : d.nums[0 + 2]? = some x2) (hz : d.name.size ≤ 16384) (hlen : m.iT.length ≤ 900000) :
    Calls Tryz.prog 56 #[.agg #[.int .i64 d.kind, .string d.name, .slice ra d.refs.length rc, .slice na d.nums.length nc, .int .i64 d.by_, .bool d.always], .slice An nl cn, .pointer (some ⟨bm, 0, none⟩), .pointer (some ⟨bx, 0, none⟩)] w
     (AdnQ B br mt w ⟨m.sT, m.fT, m.rT, m.mT, m.lT, m.iT ++ [⟨d.name, 0, (nl : Int), x0, x1, x2, sortI (d.refs.map (thNum ts))⟩], m.dT, m.oT, m.vT, m.aT, m.uT⟩) := by
 obtain ⟨wa, hwa⟩ : ∃ wa, wa = w.alloc (.cells #[.int .i64 d.kind, .string d.name, .slice ra d.refs.length rc, .slice na d.nums.length nc, .int .i64 d.by_, .bool d.always] 43) := ⟨_, rfl⟩
 have hba : Below w.heap.size w wa := by rw [hwa]; exact (Below.refl _ _).alloc (Nat.le_refl _) _
 have HXA := hide (show Blk wa w.heap.size 43 _ from by rw [hwa]; exact Blk.new w _ _)
 have HAA := hide (hA.below hba)
 have HBM := hide (hbm.below hba hbm.lt)
 have HBX := hide (hbx.below hba hbx.lt)
 have HBA := hide hba
 have HB := hide hB
 have HWA := hide hwa
 have HLEN := hide hlen
 have hsa : B ≤ wa.heap.size := Nat.le_trans hB hba.size
 have hbB : Below B w wa := hba.mono hB
 have hun := unit_prog br mt ts d ra na rc nc 0 (nl : Int) x0 x1 x2 0 wa.drew (HAA.out.blk.cell 0) ((hm.keep (hba.block mt hm.lt)) : AM keyStr wa mt (thL ts)) ((hr.below hbB).more hsa) hrl ((hq.below hbB).more hsa) hnl hnc (by omega) h0 h1 h2
 obtain ⟨os, hos⟩ : ∃ os, os = sortI (d.refs.map (thNum ts)) := ⟨_, rfl⟩
 have hol : os.length = d.refs.length := by rw [hos, (sortI_is _).2.length_eq]; simp
 rw [← hos] at hun
 rw [← hos]
 have hun := hun.mono (fun e w' hh => by
  obtain ⟨A, c, he, ho, hb⟩ := hh
  rw [← hol] at he ho
  exact (⟨A, c, he, ho, hb⟩ : ∃ A c, e = .returned (.agg #[.string d.name, .int .i64 0, .int .i64 (nl : Int), .int .i64 x0, .int .i64 x1, .int .i64 x2, .slice A os.length c]) ∧ OwnI wa.drew.heap.size w' (.slice A os.length c) os ∧ Below wa.drew.heap.size wa.drew w'))
 have HUN := hide hun
 have HSB := hide (fun (W : World) (h : Blk W bm 92 #[.pointer (some ⟨br, 1, none⟩)] ∧ Blk W bx 50 #[.pointer (some ⟨br, 0, none⟩)] ∧ Blk W w.heap.size 43 #[.int .i64 d.kind, .string d.name, .slice ra d.refs.length rc, .slice na d.nums.length nc, .int .i64 d.by_, .bool d.always] ∧ Below B wa W) => (⟨⟨h.1.cell 0, h.2.1.cell 0, h.2.2.1.cell 0, h.2.2.1.cell 1, h.2.2.1.cell 2, h.2.2.1.cell 3, h.2.2.1.cell 4, h.2.2.1.cell 5⟩, h⟩ : (W.cell? ⟨bm, 0, none⟩ = some (.pointer (some ⟨br, 1, none⟩)) ∧ W.cell? ⟨bx, 0, none⟩ = some (.pointer (some ⟨br, 0, none⟩)) ∧ W.cell? ⟨w.heap.size, 0, none⟩ = some (.int .i64 d.kind) ∧ W.cell? ⟨w.heap.size, 1, none⟩ = some (.string d.name) ∧ W.cell? ⟨w.heap.size, 2, none⟩ = some (.slice ra d.refs.length rc) ∧ W.cell? ⟨w.heap.size, 3, none⟩ = some (.slice na d.nums.length nc) ∧ W.cell? ⟨w.heap.size, 4, none⟩ = some (.int .i64 d.by_) ∧ W.cell? ⟨w.heap.size, 5, none⟩ = some (.bool d.always)) ∧ Blk W bm 92 #[.pointer (some ⟨br, 1, none⟩)] ∧ Blk W bx 50 #[.pointer (some ⟨br, 0, none⟩)] ∧ Blk W w.heap.size 43 #[.int .i64 d.kind, .string d.name, .slice ra d.refs.length rc, .slice na d.nums.length nc, .int .i64 d.by_, .bool d.always] ∧ Below B wa W))
 have HKP := hide (fun (W W' : World) (row : Option Nat) (T : TypeId) (h : Blk W bm 92 #[.pointer (some ⟨br, 1, none⟩)] ∧ Blk W bx 50 #[.pointer (some ⟨br, 0, none⟩)] ∧ Blk W w.heap.size 43 #[.int .i64 d.kind, .string d.name, .slice ra d.refs.length rc, .slice na d.nums.length nc, .int .i64 d.by_, .bool d.always] ∧ Below B wa W) (hg : W.grownBy W' row) (hT : RowT W row T) (hn1 : ¬ 92 = T) (hn2 : ¬ 50 = T) (hn3 : ¬ 43 = T) (hr : ∀ g, row = some g → B ≤ g) => (⟨(hg.block _ h.1.lt (fun e => by obtain ⟨cs, hb⟩ := hT _ e.symm; have := h.1.symm.trans hb; simp at this; exact hn1 this.2)).trans h.1, (hg.block _ h.2.1.lt (fun e => by obtain ⟨cs, hb⟩ := hT _ e.symm; have := h.2.1.symm.trans hb; simp at this; exact hn2 this.2)).trans h.2.1, (hg.block _ h.2.2.1.lt (fun e => by obtain ⟨cs, hb⟩ := hT _ e.symm; have := h.2.2.1.symm.trans hb; simp at this; exact hn3 this.2)).trans h.2.2.1, h.2.2.2.grown hg (Nat.le_trans (Nat.le_trans HB.out HBA.out.size) h.2.2.2.size) hr⟩ : Blk W' bm 92 #[.pointer (some ⟨br, 1, none⟩)] ∧ Blk W' bx 50 #[.pointer (some ⟨br, 0, none⟩)] ∧ Blk W' w.heap.size 43 #[.int .i64 d.kind, .string d.name, .slice ra d.refs.length rc, .slice na d.nums.length nc, .int .i64 d.by_, .bool d.always] ∧ Below B wa W'))
 have HKB := hide (fun (W W' : World) (h : Blk W bm 92 #[.pointer (some ⟨br, 1, none⟩)] ∧ Blk W bx 50 #[.pointer (some ⟨br, 0, none⟩)] ∧ Blk W w.heap.size 43 #[.int .i64 d.kind, .string d.name, .slice ra d.refs.length rc, .slice na d.nums.length nc, .int .i64 d.by_, .bool d.always] ∧ Below B wa W) (hb : Below W.heap.size W W') => HKP.out W W' none 4 h (grown_of_below hb none) (RowT.none_ _ _) (by decide) (by decide) (by decide) (fun g e => by cases e))
 have HOLD := hide (fun (W : World) (hb : Below wa.heap.size wa W) => (HAA.out.blk.below hb HAA.out.blk.lt).cell 6)
 obtain ⟨LI, i1, i2, i3⟩ := HAA.out.rm.i
 have HI1 := hide i1
 have HI2 := hide i2
 have HI3 := hide i3
 have hll : LI.length = m.iT.length := by rw [← i1]; simp
 obtain ⟨A0, c0, er, hcr, _⟩ := i2.form
 have old : wa.cell? ⟨br, 6, none⟩ = some (.slice A0 LI.length c0) := by rw [← er]; exact HAA.out.blk.cell 6
 have HER := hide er
 have cl := HAA.out.blk.lt
 obtain ⟨nL, hnL⟩ : ∃ nL, nL = LI.length := ⟨_, rfl⟩
 have HNL := hide hnL
 have HLL := hide (show nL ≤ 900000 by rw [hnL, hll]; exact hlen)
 rw [← hnL] at old
 have HSB0 := hide (show Blk wa.drew bm 92 #[.pointer (some ⟨br, 1, none⟩)] ∧ Blk wa.drew bx 50 #[.pointer (some ⟨br, 0, none⟩)] ∧ Blk wa.drew w.heap.size 43 #[.int .i64 d.kind, .string d.name, .slice ra d.refs.length rc, .slice na d.nums.length nc, .int .i64 d.by_, .bool d.always] ∧ Below B wa wa.drew from ⟨HBM.out, HBX.out, HXA.out, (Below.refl _ _).drew⟩)
 have HHZ := hide hz
 clear hwa hba hA hbm hbx hB er hcr hlen hsa hbB hun hos hol hm hr hrl hq hnl hnc h0 h1 h2 i1 i2 i3 hll hnL hz
 go_enter Tryz.func56, Tryz.ntmps56
 go_upto_region 1 with (fail)
 rw [show (w.alloc (.cells #[.int .i64 d.kind, .string d.name, .slice ra d.refs.length rc, .slice na d.nums.length nc, .int .i64 d.by_, .bool d.always] 43)) = wa from HWA.out.symm]
 refine wp_region_held_drew (S := (fun W => (W.cell? ⟨bm, 0, none⟩ = some (.pointer (some ⟨br, 1, none⟩)) ∧ W.cell? ⟨bx, 0, none⟩ = some (.pointer (some ⟨br, 0, none⟩)) ∧ W.cell? ⟨w.heap.size, 0, none⟩ = some (.int .i64 d.kind) ∧ W.cell? ⟨w.heap.size, 1, none⟩ = some (.string d.name) ∧ W.cell? ⟨w.heap.size, 2, none⟩ = some (.slice ra d.refs.length rc) ∧ W.cell? ⟨w.heap.size, 3, none⟩ = some (.slice na d.nums.length nc) ∧ W.cell? ⟨w.heap.size, 4, none⟩ = some (.int .i64 d.by_) ∧ W.cell? ⟨w.heap.size, 5, none⟩ = some (.bool d.always)) ∧ Blk W bm 92 #[.pointer (some ⟨br, 1, none⟩)] ∧ Blk W bx 50 #[.pointer (some ⟨br, 0, none⟩)] ∧ Blk W w.heap.size 43 #[.int .i64 d.kind, .string d.name, .slice ra d.refs.length rc, .slice na d.nums.length nc, .int .i64 d.by_, .bool d.always] ∧ Below B wa W)) (by kernel_rfl) (HSB.out _ HSB0.out) (fun hHeld => ?_)
 refine wpAnyH_take (i := 0) (oi := _) (v := ?_) rfl (by kernel_rfl) (by kernel_rfl) (by kernel_rfl) (fun _ _ _ h => h) (Or.inl ⟨by rfl, ?_⟩) hHeld ?_
 rotate_left
 · intro W hSw; (try dsimp only at hSw); go_simp; try with_reducible rfl
 simp only [Act.put, List.getElem_toArray, List.getElem_cons_zero, List.setIfInBounds_toArray, List.set_cons_zero, List.set_cons_succ]
 refine wpAnyH_take (i := 1) (oi := _) (v := ?_) rfl (by kernel_rfl) (by kernel_rfl) (by kernel_rfl) (fun _ _ _ h => h) (Or.inl ⟨by rfl, ?_⟩) hHeld ?_
 rotate_left
 · intro W hSw; (try dsimp only at hSw); go_simp; try with_reducible rfl
 simp only [Act.put, List.getElem_toArray, List.getElem_cons_succ, List.getElem_cons_zero, List.setIfInBounds_toArray, List.set_cons_zero, List.set_cons_succ]
 refine wpAnyH_take (i := 2) (oi := _) (v := ?_) rfl (by kernel_rfl) (by kernel_rfl) (by kernel_rfl) (fun _ _ _ h => h) (Or.inl ⟨by rfl, ?_⟩) hHeld ?_
 rotate_left
 · intro W hSw; (try dsimp only at hSw); go_simp; try with_reducible rfl
 simp only [Act.put, List.getElem_toArray, List.getElem_cons_succ, List.getElem_cons_zero, List.setIfInBounds_toArray, List.set_cons_zero, List.set_cons_succ]
 refine wpAnyH_take (i := 3) (oi := _) (v := ?_) rfl (by kernel_rfl) (by kernel_rfl) (by kernel_rfl) (fun _ _ _ h => h) (Or.inl ⟨by rfl, ?_⟩) hHeld ?_
 rotate_left
 · intro W hSw; (try dsimp only at hSw); go_simp; try with_reducible rfl
 simp only [Act.put, List.getElem_toArray, List.getElem_cons_succ, List.getElem_cons_zero, List.setIfInBounds_toArray, List.set_cons_zero, List.set_cons_succ]
 refine wpAnyH_take (i := 5) (oi := _) (v := ?_) rfl (by kernel_rfl) (by kernel_rfl) (by kernel_rfl) (fun _ _ _ h => h) (Or.inl ⟨by rfl, ?_⟩) hHeld ?_
 rotate_left
 · intro W hSw; (try dsimp only at hSw); go_simp; try with_reducible rfl
 simp only [Act.put, List.getElem_toArray, List.getElem_cons_succ, List.getElem_cons_zero, List.setIfInBounds_toArray, List.set_cons_zero, List.set_cons_succ]
 refine wpAnyH_take (i := 6) (oi := _) (v := ?_) rfl (by kernel_rfl) (by kernel_rfl) (by kernel_rfl) (fun _ _ _ h => h) (Or.inl ⟨by rfl, ?_⟩) hHeld ?_
 rotate_left
 · intro W hSw; (try dsimp only at hSw); go_simp; try with_reducible rfl
 simp only [Act.put, List.getElem_toArray, List.getElem_cons_succ, List.getElem_cons_zero, List.setIfInBounds_toArray, List.set_cons_zero, List.set_cons_succ]
 refine wpAnyH_take (i := 7) (oi := _) (v := ?_) rfl (by kernel_rfl) (by kernel_rfl) (by kernel_rfl) (fun _ _ _ h => h) (Or.inl ⟨by rfl, ?_⟩) hHeld ?_
 rotate_left
 · intro W hSw; (try dsimp only at hSw); go_simp; try with_reducible rfl
 simp only [Act.put, List.getElem_toArray, List.getElem_cons_succ, List.getElem_cons_zero, List.setIfInBounds_toArray, List.set_cons_zero, List.set_cons_succ]
 refine wpAnyH_take (i := 8) (oi := _) (v := ?_) rfl (by kernel_rfl) (by kernel_rfl) (by kernel_rfl) (fun _ _ _ h => h) (Or.inl ⟨by rfl, ?_⟩) hHeld ?_
 rotate_left
 · intro W hSw; (try dsimp only at hSw); go_simp; try with_reducible rfl
 simp only [Act.put, List.getElem_toArray, List.getElem_cons_succ, List.getElem_cons_zero, List.setIfInBounds_toArray, List.set_cons_zero, List.set_cons_succ]
 refine wpAnyH_ready (rs := [4, 9]) (by kernel_rfl) (by simp) ?_
 refine AllReadyH.cons rfl (fun K hK => ?_) (AllReadyH.cons rfl (fun K hK => ?_) AllReadyH.nil)
 · go_simp
   refine hK.out _ _ (HSB.out _ HSB0.out) (fun hHeld => ?_)
   clear hK K
   refine wpAnyH_ready (rs := [9]) (by kernel_rfl) (by simp) ?_
   refine AllReadyH.cons rfl (fun K hK => ?_) AllReadyH.nil
   go_simp
   go_at_call 57
   refine HUN.out.mono ?_
   rintro e w2 ⟨A3, c3, rfl, ho2, hb2⟩
   have HO2 := hide ho2
   have HB2 := hide (show Below wa.heap.size wa w2 from ((Below.refl _ wa).drew).trans hb2)
   have HS2 := hide (HKB.out _ w2 HSB0.out hb2)
   have HS3 := hide (show Blk (w2.alloc (.cells #[.string d.name, .int .i64 0, .int .i64 (nl : Nat), .int .i64 x0, .int .i64 x1, .int .i64 x2, .slice A3 os.length c3] 49)) bm 92 #[.pointer (some ⟨br, 1, none⟩)] ∧ Blk (w2.alloc (.cells #[.string d.name, .int .i64 0, .int .i64 (nl : Nat), .int .i64 x0, .int .i64 x1, .int .i64 x2, .slice A3 os.length c3] 49)) bx 50 #[.pointer (some ⟨br, 0, none⟩)] ∧ Blk (w2.alloc (.cells #[.string d.name, .int .i64 0, .int .i64 (nl : Nat), .int .i64 x0, .int .i64 x1, .int .i64 x2, .slice A3 os.length c3] 49)) w.heap.size 43 #[.int .i64 d.kind, .string d.name, .slice ra d.refs.length rc, .slice na d.nums.length nc, .int .i64 d.by_, .bool d.always] ∧ Below B wa (w2.alloc (.cells #[.string d.name, .int .i64 0, .int .i64 (nl : Nat), .int .i64 x0, .int .i64 x1, .int .i64 x2, .slice A3 os.length c3] 49)) from HKB.out w2 (w2.alloc (.cells #[.string d.name, .int .i64 0, .int .i64 (nl : Nat), .int .i64 x0, .int .i64 x1, .int .i64 x2, .slice A3 os.length c3] 49)) HS2.out ((Below.refl _ _).alloc (Nat.le_refl _) _))
   have old2 : w2.cell? ⟨br, 6, none⟩ = some (.slice A0 nL c0) := (HB2.out.cell (p := ⟨br, 6, none⟩) cl).trans old
   have cl2 : br < w2.heap.size := Nat.lt_of_lt_of_le cl HB2.out.size
   clear ho2 hb2
   (try dsimp only)
   refine hK.out _ _ (HSB.out _ HS2.out) (fun hHeld => ?_)
   clear hK K
   refine wpAnyH_ready (rs := [10]) (by kernel_rfl) (by simp) ?_
   refine AllReadyH.cons rfl (fun K hK => ?_) AllReadyH.nil
   go_simp
   refine hK.out _ _ (HSB.out _ HS3.out) (fun hHeld => ?_)
   clear hK K
   refine wpAnyH_ready (rs := [11]) (by kernel_rfl) (by simp) ?_
   refine AllReadyH.cons rfl (fun K hK => ?_) AllReadyH.nil
   refine step_append_el okItem rfl _ _ rfl B (.slice A0 nL c0) LI rfl ((show OwnE_ elItem B wa (.slice A0 nL c0) LI from by rw [HNL.out, ← HER.out]; exact HI2.out).below (HB2.out.alloc HB2.out.size _)) _ _ 1 1 [((⟨d.name, 0, (nl : Int), x0, x1, x2, os⟩, A3, c3) : ItV)] rfl (Reads.newE (E := elItem) w2 ((⟨d.name, 0, (nl : Int), x0, x1, x2, os⟩, A3, c3) : ItV)) rfl (by rw [← HNL.out]; have := HLL.out; simp; omega) (by have := HBA.out.size; have := HB.out; have := HB2.out.size; simp; omega) ?_
   intro v1 w1 ho1 hg1 hv1
   have hbb := HB2.out.alloc HB2.out.size (.cells #[.string d.name, .int .i64 0, .int .i64 (nl : Nat), .int .i64 x0, .int .i64 x1, .int .i64 x2, .slice A3 os.length c3] 49)
   have ha1 := HAA.out.below hbb
   have hg2 : (w2.alloc (.cells #[.string d.name, .int .i64 0, .int .i64 (nl : Nat), .int .i64 x0, .int .i64 x1, .int .i64 x2, .slice A3 os.length c3] 49)).grownBy w1 V.i.ownBlock := by rw [HER.out, ← HNL.out]; exact ⟨hg1.os, hg1.tape, hg1.output, hg1.size, hg1.block⟩
   have hi2 := HI2.out.below hbb
   have hrT : RowT (w2.alloc (.cells #[.string d.name, .int .i64 0, .int .i64 (nl : Nat), .int .i64 x0, .int .i64 x1, .int .i64 x2, .slice A3 os.length c3] 49)) V.i.ownBlock 49 := RowT.own hi2
   have hlo : ∀ g, V.i.ownBlock = some g → B ≤ g := fun g e => (hi2.lt g e).1
   have hsb2 := HKP.out _ w1 _ _ HS3.out hg2 hrT (by decide) (by decide) (by decide) hlo
   have hb2 : Blk w1 br 53 (resC mt V m) := (hg2.block br ha1.blk.lt (fun e => by obtain ⟨cs, hb⟩ := hrT _ e.symm; have := ha1.blk.symm.trans hb; first | (simp at this; done) | (simp at this; exact absurd this.2 (by decide)))).trans ha1.blk
   have hoi : OwnI B (w2.alloc (.cells #[.string d.name, .int .i64 0, .int .i64 (nl : Nat), .int .i64 x0, .int .i64 x1, .int .i64 x2, .slice A3 os.length c3] 49)) (.slice A3 os.length c3) os := own_lowerD (HO2.out.alloc _) (by have := HBA.out.size; have := HB.out; simp; omega)
   have hrm := ha1.rm.item (x := ((⟨d.name, 0, (nl : Int), x0, x1, x2, os⟩, A3, c3) : ItV)) HI1.out (fun y hy => (HI3.out y hy).below hbb) ho1 hg2 hrT hoi HHZ.out
   have had := AD.put (mt := mt) (V' := ⟨V.s, V.f, V.r, V.m, V.l, v1, V.u⟩) (m' := ⟨m.sT, m.fT, m.rT, m.mT, m.lT, m.iT ++ [⟨d.name, 0, (nl : Int), x0, x1, x2, os⟩], m.dT, m.oT, m.vT, m.aT, m.uT⟩) hb2 HAA.out.hB hrm (i := 6) (u := v1) rfl
   have f3 := hb2.frozen 6
   have q3 : w1.cell? ⟨br, 6, none⟩ = some V.i := hb2.cell 6
   have l3 := hb2.lt
   have hkx := ((KX.of_below HBA.out).trans (KX.of_below hbb)).trans ((KX.row hg2 hrT (by decide)).trans (KX.set_ hb2 (by decide) 6 v1))
   have hbw : Below B w (w1.setCell ⟨br, 6, none⟩ v1) := ((HBA.out.mono HB.out).trans hsb2.2.2.2).setCell (p := ⟨br, 6, none⟩) HAA.out.hB v1
   have HFIN := hide (And.intro had (And.intro hbw hkx))
   have HSB2 := hide hsb2
   have HSB3 := hide (HKP.out w1 (w1.setCell ⟨br, 6, none⟩ v1) (some br) 53 hsb2 (But.set_ (B := w1.heap.size) w1 6 v1).grown (fun g e => by cases e; exact ⟨_, hb2⟩) (by decide) (by decide) (by decide) (fun g e => by cases e; exact HAA.out.hB))
   obtain ⟨A9, c9, e9, _, _⟩ := ho1.form
   obtain ⟨n9, hn9⟩ : ∃ n9, n9 = (LI ++ [((⟨d.name, 0, (nl : Int), x0, x1, x2, os⟩, A3, c3) : ItV)]).length := ⟨_, rfl⟩
   rw [← hn9] at e9
   subst e9
   clear hn9 ho1 hg1 hv1 hbb ha1 hg2 hrT hlo hsb2 hb2 hrm had hkx hbw hi2 hoi
   (try dsimp only)
   refine hK.out _ _ (HSB.out _ HSB2.out) (fun hHeld => ?_)
   clear hK K
   refine wpAnyH_take (i := 12) (oi := _) (v := ?_) rfl (by kernel_rfl) (by kernel_rfl) (by kernel_rfl) (fun _ _ _ h => h) (Or.inl ⟨by rfl, ?_⟩) hHeld ?_
   rotate_left
   · intro W hSw; (try dsimp only at hSw); go_simp; try with_reducible rfl
   simp only [Act.put, List.getElem_toArray, List.getElem_cons_succ, List.getElem_cons_zero, List.setIfInBounds_toArray, List.set_cons_zero, List.set_cons_succ]
   refine wpAnyH_take (i := 13) (oi := _) (v := ?_) rfl (by kernel_rfl) (by kernel_rfl) (by kernel_rfl) (fun _ _ _ h => h) (Or.inl ⟨by rfl, ?_⟩) hHeld ?_
   rotate_left
   · intro W hSw; (try dsimp only at hSw); go_simp; try with_reducible rfl
   simp only [Act.put, List.getElem_toArray, List.getElem_cons_succ, List.getElem_cons_zero, List.setIfInBounds_toArray, List.set_cons_zero, List.set_cons_succ]
   refine wpAnyH_ready (rs := [14]) (by kernel_rfl) (by simp) ?_
   refine AllReadyH.cons rfl (fun K hK => ?_) AllReadyH.nil
   go_simp
   refine hK.out _ _ (HSB.out _ HSB3.out) (fun hHeld => ?_)
   clear hK K
   refine wpAnyH_done (by kernel_rfl) ?_ _
   go_wp2_with fail
   go_end0
   exact ⟨rfl, ⟨_, HFIN.out.1⟩, HFIN.out.2.1, HFIN.out.2.2⟩
 · go_simp
   go_at_call 57
   refine HUN.out.mono ?_
   rintro e w2 ⟨A3, c3, rfl, ho2, hb2⟩
   have HO2 := hide ho2
   have HB2 := hide (show Below wa.heap.size wa w2 from ((Below.refl _ wa).drew).trans hb2)
   have HS2 := hide (HKB.out _ w2 HSB0.out hb2)
   have HS3 := hide (show Blk (w2.alloc (.cells #[.string d.name, .int .i64 0, .int .i64 (nl : Nat), .int .i64 x0, .int .i64 x1, .int .i64 x2, .slice A3 os.length c3] 49)) bm 92 #[.pointer (some ⟨br, 1, none⟩)] ∧ Blk (w2.alloc (.cells #[.string d.name, .int .i64 0, .int .i64 (nl : Nat), .int .i64 x0, .int .i64 x1, .int .i64 x2, .slice A3 os.length c3] 49)) bx 50 #[.pointer (some ⟨br, 0, none⟩)] ∧ Blk (w2.alloc (.cells #[.string d.name, .int .i64 0, .int .i64 (nl : Nat), .int .i64 x0, .int .i64 x1, .int .i64 x2, .slice A3 os.length c3] 49)) w.heap.size 43 #[.int .i64 d.kind, .string d.name, .slice ra d.refs.length rc, .slice na d.nums.length nc, .int .i64 d.by_, .bool d.always] ∧ Below B wa (w2.alloc (.cells #[.string d.name, .int .i64 0, .int .i64 (nl : Nat), .int .i64 x0, .int .i64 x1, .int .i64 x2, .slice A3 os.length c3] 49)) from HKB.out w2 (w2.alloc (.cells #[.string d.name, .int .i64 0, .int .i64 (nl : Nat), .int .i64 x0, .int .i64 x1, .int .i64 x2, .slice A3 os.length c3] 49)) HS2.out ((Below.refl _ _).alloc (Nat.le_refl _) _))
   have old2 : w2.cell? ⟨br, 6, none⟩ = some (.slice A0 nL c0) := (HB2.out.cell (p := ⟨br, 6, none⟩) cl).trans old
   have cl2 : br < w2.heap.size := Nat.lt_of_lt_of_le cl HB2.out.size
   clear ho2 hb2
   (try dsimp only)
   refine hK.out _ _ (HSB.out _ HS2.out) (fun hHeld => ?_)
   clear hK K
   refine wpAnyH_ready (rs := [4, 10]) (by kernel_rfl) (by simp) ?_
   refine AllReadyH.cons rfl (fun K hK => ?_) (AllReadyH.cons rfl (fun K hK => ?_) AllReadyH.nil)
   · go_simp
     refine hK.out _ _ (HSB.out _ HS2.out) (fun hHeld => ?_)
     clear hK K
     refine wpAnyH_ready (rs := [10]) (by kernel_rfl) (by simp) ?_
     refine AllReadyH.cons rfl (fun K hK => ?_) AllReadyH.nil
     go_simp
     refine hK.out _ _ (HSB.out _ HS3.out) (fun hHeld => ?_)
     clear hK K
     refine wpAnyH_ready (rs := [11]) (by kernel_rfl) (by simp) ?_
     refine AllReadyH.cons rfl (fun K hK => ?_) AllReadyH.nil
     refine step_append_el okItem rfl _ _ rfl B (.slice A0 nL c0) LI rfl ((show OwnE_ elItem B wa (.slice A0 nL c0) LI from by rw [HNL.out, ← HER.out]; exact HI2.out).below (HB2.out.alloc HB2.out.size _)) _ _ 1 1 [((⟨d.name, 0, (nl : Int), x0, x1, x2, os⟩, A3, c3) : ItV)] rfl (Reads.newE (E := elItem) w2 ((⟨d.name, 0, (nl : Int), x0, x1, x2, os⟩, A3, c3) : ItV)) rfl (by rw [← HNL.out]; have := HLL.out; simp; omega) (by have := HBA.out.size; have := HB.out; have := HB2.out.size; simp; omega) ?_
     intro v1 w1 ho1 hg1 hv1
     have hbb := HB2.out.alloc HB2.out.size (.cells #[.string d.name, .int .i64 0, .int .i64 (nl : Nat), .int .i64 x0, .int .i64 x1, .int .i64 x2, .slice A3 os.length c3] 49)
     have ha1 := HAA.out.below hbb
     have hg2 : (w2.alloc (.cells #[.string d.name, .int .i64 0, .int .i64 (nl : Nat), .int .i64 x0, .int .i64 x1, .int .i64 x2, .slice A3 os.length c3] 49)).grownBy w1 V.i.ownBlock := by rw [HER.out, ← HNL.out]; exact ⟨hg1.os, hg1.tape, hg1.output, hg1.size, hg1.block⟩
     have hi2 := HI2.out.below hbb
     have hrT : RowT (w2.alloc (.cells #[.string d.name, .int .i64 0, .int .i64 (nl : Nat), .int .i64 x0, .int .i64 x1, .int .i64 x2, .slice A3 os.length c3] 49)) V.i.ownBlock 49 := RowT.own hi2
     have hlo : ∀ g, V.i.ownBlock = some g → B ≤ g := fun g e => (hi2.lt g e).1
     have hsb2 := HKP.out _ w1 _ _ HS3.out hg2 hrT (by decide) (by decide) (by decide) hlo
     have hb2 : Blk w1 br 53 (resC mt V m) := (hg2.block br ha1.blk.lt (fun e => by obtain ⟨cs, hb⟩ := hrT _ e.symm; have := ha1.blk.symm.trans hb; first | (simp at this; done) | (simp at this; exact absurd this.2 (by decide)))).trans ha1.blk
     have hoi : OwnI B (w2.alloc (.cells #[.string d.name, .int .i64 0, .int .i64 (nl : Nat), .int .i64 x0, .int .i64 x1, .int .i64 x2, .slice A3 os.length c3] 49)) (.slice A3 os.length c3) os := own_lowerD (HO2.out.alloc _) (by have := HBA.out.size; have := HB.out; simp; omega)
     have hrm := ha1.rm.item (x := ((⟨d.name, 0, (nl : Int), x0, x1, x2, os⟩, A3, c3) : ItV)) HI1.out (fun y hy => (HI3.out y hy).below hbb) ho1 hg2 hrT hoi HHZ.out
     have had := AD.put (mt := mt) (V' := ⟨V.s, V.f, V.r, V.m, V.l, v1, V.u⟩) (m' := ⟨m.sT, m.fT, m.rT, m.mT, m.lT, m.iT ++ [⟨d.name, 0, (nl : Int), x0, x1, x2, os⟩], m.dT, m.oT, m.vT, m.aT, m.uT⟩) hb2 HAA.out.hB hrm (i := 6) (u := v1) rfl
     have f3 := hb2.frozen 6
     have q3 : w1.cell? ⟨br, 6, none⟩ = some V.i := hb2.cell 6
     have l3 := hb2.lt
     have hkx := ((KX.of_below HBA.out).trans (KX.of_below hbb)).trans ((KX.row hg2 hrT (by decide)).trans (KX.set_ hb2 (by decide) 6 v1))
     have hbw : Below B w (w1.setCell ⟨br, 6, none⟩ v1) := ((HBA.out.mono HB.out).trans hsb2.2.2.2).setCell (p := ⟨br, 6, none⟩) HAA.out.hB v1
     have HFIN := hide (And.intro had (And.intro hbw hkx))
     have HSB2 := hide hsb2
     have HSB3 := hide (HKP.out w1 (w1.setCell ⟨br, 6, none⟩ v1) (some br) 53 hsb2 (But.set_ (B := w1.heap.size) w1 6 v1).grown (fun g e => by cases e; exact ⟨_, hb2⟩) (by decide) (by decide) (by decide) (fun g e => by cases e; exact HAA.out.hB))
     obtain ⟨A9, c9, e9, _, _⟩ := ho1.form
     obtain ⟨n9, hn9⟩ : ∃ n9, n9 = (LI ++ [((⟨d.name, 0, (nl : Int), x0, x1, x2, os⟩, A3, c3) : ItV)]).length := ⟨_, rfl⟩
     rw [← hn9] at e9
     subst e9
     clear hn9 ho1 hg1 hv1 hbb ha1 hg2 hrT hlo hsb2 hb2 hrm had hkx hbw hi2 hoi
     (try dsimp only)
     refine hK.out _ _ (HSB.out _ HSB2.out) (fun hHeld => ?_)
     clear hK K
     refine wpAnyH_take (i := 12) (oi := _) (v := ?_) rfl (by kernel_rfl) (by kernel_rfl) (by kernel_rfl) (fun _ _ _ h => h) (Or.inl ⟨by rfl, ?_⟩) hHeld ?_
     rotate_left
     · intro W hSw; (try dsimp only at hSw); go_simp; try with_reducible rfl
     simp only [Act.put, List.getElem_toArray, List.getElem_cons_succ, List.getElem_cons_zero, List.setIfInBounds_toArray, List.set_cons_zero, List.set_cons_succ]
     refine wpAnyH_take (i := 13) (oi := _) (v := ?_) rfl (by kernel_rfl) (by kernel_rfl) (by kernel_rfl) (fun _ _ _ h => h) (Or.inl ⟨by rfl, ?_⟩) hHeld ?_
     rotate_left
     · intro W hSw; (try dsimp only at hSw); go_simp; try with_reducible rfl
     simp only [Act.put, List.getElem_toArray, List.getElem_cons_succ, List.getElem_cons_zero, List.setIfInBounds_toArray, List.set_cons_zero, List.set_cons_succ]
     refine wpAnyH_ready (rs := [14]) (by kernel_rfl) (by simp) ?_
     refine AllReadyH.cons rfl (fun K hK => ?_) AllReadyH.nil
     go_simp
     refine hK.out _ _ (HSB.out _ HSB3.out) (fun hHeld => ?_)
     clear hK K
     refine wpAnyH_done (by kernel_rfl) ?_ _
     go_wp2_with fail
     go_end0
     exact ⟨rfl, ⟨_, HFIN.out.1⟩, HFIN.out.2.1, HFIN.out.2.2⟩
   · go_simp
     refine hK.out _ _ (HSB.out _ HS3.out) (fun hHeld => ?_)
     clear hK K
     refine wpAnyH_ready (rs := [4]) (by kernel_rfl) (by simp) ?_
     refine AllReadyH.cons rfl (fun K hK => ?_) AllReadyH.nil
     go_simp
     refine hK.out _ _ (HSB.out _ HS3.out) (fun hHeld => ?_)
     clear hK K
     refine wpAnyH_ready (rs := [11]) (by kernel_rfl) (by simp) ?_
     refine AllReadyH.cons rfl (fun K hK => ?_) AllReadyH.nil
     refine step_append_el okItem rfl _ _ rfl B (.slice A0 nL c0) LI rfl ((show OwnE_ elItem B wa (.slice A0 nL c0) LI from by rw [HNL.out, ← HER.out]; exact HI2.out).below (HB2.out.alloc HB2.out.size _)) _ _ 1 1 [((⟨d.name, 0, (nl : Int), x0, x1, x2, os⟩, A3, c3) : ItV)] rfl (Reads.newE (E := elItem) w2 ((⟨d.name, 0, (nl : Int), x0, x1, x2, os⟩, A3, c3) : ItV)) rfl (by rw [← HNL.out]; have := HLL.out; simp; omega) (by have := HBA.out.size; have := HB.out; have := HB2.out.size; simp; omega) ?_
     intro v1 w1 ho1 hg1 hv1
     have hbb := HB2.out.alloc HB2.out.size (.cells #[.string d.name, .int .i64 0, .int .i64 (nl : Nat), .int .i64 x0, .int .i64 x1, .int .i64 x2, .slice A3 os.length c3] 49)
     have ha1 := HAA.out.below hbb
     have hg2 : (w2.alloc (.cells #[.string d.name, .int .i64 0, .int .i64 (nl : Nat), .int .i64 x0, .int .i64 x1, .int .i64 x2, .slice A3 os.length c3] 49)).grownBy w1 V.i.ownBlock := by rw [HER.out, ← HNL.out]; exact ⟨hg1.os, hg1.tape, hg1.output, hg1.size, hg1.block⟩
     have hi2 := HI2.out.below hbb
     have hrT : RowT (w2.alloc (.cells #[.string d.name, .int .i64 0, .int .i64 (nl : Nat), .int .i64 x0, .int .i64 x1, .int .i64 x2, .slice A3 os.length c3] 49)) V.i.ownBlock 49 := RowT.own hi2
     have hlo : ∀ g, V.i.ownBlock = some g → B ≤ g := fun g e => (hi2.lt g e).1
     have hsb2 := HKP.out _ w1 _ _ HS3.out hg2 hrT (by decide) (by decide) (by decide) hlo
     have hb2 : Blk w1 br 53 (resC mt V m) := (hg2.block br ha1.blk.lt (fun e => by obtain ⟨cs, hb⟩ := hrT _ e.symm; have := ha1.blk.symm.trans hb; first | (simp at this; done) | (simp at this; exact absurd this.2 (by decide)))).trans ha1.blk
     have hoi : OwnI B (w2.alloc (.cells #[.string d.name, .int .i64 0, .int .i64 (nl : Nat), .int .i64 x0, .int .i64 x1, .int .i64 x2, .slice A3 os.length c3] 49)) (.slice A3 os.length c3) os := own_lowerD (HO2.out.alloc _) (by have := HBA.out.size; have := HB.out; simp; omega)
     have hrm := ha1.rm.item (x := ((⟨d.name, 0, (nl : Int), x0, x1, x2, os⟩, A3, c3) : ItV)) HI1.out (fun y hy => (HI3.out y hy).below hbb) ho1 hg2 hrT hoi HHZ.out
     have had := AD.put (mt := mt) (V' := ⟨V.s, V.f, V.r, V.m, V.l, v1, V.u⟩) (m' := ⟨m.sT, m.fT, m.rT, m.mT, m.lT, m.iT ++ [⟨d.name, 0, (nl : Int), x0, x1, x2, os⟩], m.dT, m.oT, m.vT, m.aT, m.uT⟩) hb2 HAA.out.hB hrm (i := 6) (u := v1) rfl
     have f3 := hb2.frozen 6
     have q3 : w1.cell? ⟨br, 6, none⟩ = some V.i := hb2.cell 6
     have l3 := hb2.lt
     have hkx := ((KX.of_below HBA.out).trans (KX.of_below hbb)).trans ((KX.row hg2 hrT (by decide)).trans (KX.set_ hb2 (by decide) 6 v1))
     have hbw : Below B w (w1.setCell ⟨br, 6, none⟩ v1) := ((HBA.out.mono HB.out).trans hsb2.2.2.2).setCell (p := ⟨br, 6, none⟩) HAA.out.hB v1
     have HFIN := hide (And.intro had (And.intro hbw hkx))
     have HSB2 := hide hsb2
     have HSB3 := hide (HKP.out w1 (w1.setCell ⟨br, 6, none⟩ v1) (some br) 53 hsb2 (But.set_ (B := w1.heap.size) w1 6 v1).grown (fun g e => by cases e; exact ⟨_, hb2⟩) (by decide) (by decide) (by decide) (fun g e => by cases e; exact HAA.out.hB))
     obtain ⟨A9, c9, e9, _, _⟩ := ho1.form
     obtain ⟨n9, hn9⟩ : ∃ n9, n9 = (LI ++ [((⟨d.name, 0, (nl : Int), x0, x1, x2, os⟩, A3, c3) : ItV)]).length := ⟨_, rfl⟩
     rw [← hn9] at e9
     subst e9
     clear hn9 ho1 hg1 hv1 hbb ha1 hg2 hrT hlo hsb2 hb2 hrm had hkx hbw hi2 hoi
     (try dsimp only)
     refine hK.out _ _ (HSB.out _ HSB2.out) (fun hHeld => ?_)
     clear hK K
     refine wpAnyH_take (i := 12) (oi := _) (v := ?_) rfl (by kernel_rfl) (by kernel_rfl) (by kernel_rfl) (fun _ _ _ h => h) (Or.inl ⟨by rfl, ?_⟩) hHeld ?_
     rotate_left
     · intro W hSw; (try dsimp only at hSw); go_simp; try with_reducible rfl
     simp only [Act.put, List.getElem_toArray, List.getElem_cons_succ, List.getElem_cons_zero, List.setIfInBounds_toArray, List.set_cons_zero, List.set_cons_succ]
     refine wpAnyH_take (i := 13) (oi := _) (v := ?_) rfl (by kernel_rfl) (by kernel_rfl) (by kernel_rfl) (fun _ _ _ h => h) (Or.inl ⟨by rfl, ?_⟩) hHeld ?_
     rotate_left
     · intro W hSw; (try dsimp only at hSw); go_simp; try with_reducible rfl
     simp only [Act.put, List.getElem_toArray, List.getElem_cons_succ, List.getElem_cons_zero, List.setIfInBounds_toArray, List.set_cons_zero, List.set_cons_succ]
     refine wpAnyH_ready (rs := [14]) (by kernel_rfl) (by simp) ?_
     refine AllReadyH.cons rfl (fun K hK => ?_) AllReadyH.nil
     go_simp
     refine hK.out _ _ (HSB.out _ HSB3.out) (fun hHeld => ?_)
     clear hK K
     refine wpAnyH_done (by kernel_rfl) ?_ _
     go_wp2_with fail
     go_end0
     exact ⟨rfl, ⟨_, HFIN.out.1⟩, HFIN.out.2.1, HFIN.out.2.2⟩
theorem add7_prog (B br mt bm bx : Nat) (V : MV) (m : Mod) (ts : List Thing) (d : Decl) (ra na : Option Addr) (rc nc : Nat) (nv : Value) (q0 : Int) (x0 x1 x2 : Int) (w : World) (hA : AD B br mt w V m) (hB : B ≤ w.heap.size) (hbm : Blk w bm 92 #[.pointer (some ⟨br, 1, none⟩)]) (hbx : Blk w bx 50 #[.pointer (some ⟨br, 0, none⟩)]) (hm : AM keyStr w mt (thL ts)) (hr : Strs w B ra d.refs) (hrl : d.refs.length ≤ 1000) (hq : Ints w B na d.nums) (hnl : d.nums.length = 1 + 3) (hnc : d.nums.length ≤ nc) (hq0 : d.nums[0]? = some q0) (h0 : d.nums[1]? = some x0) (h1 : d.nums[1 + 1]? = some x1) (h2 : d.nums[1 + 2]? = some x2) (hz : d.name.size ≤ 16384) (hlen : m.iT.length ≤ 900000) :
    Calls Tryz.prog 58 #[.agg #[.int .i64 d.kind, .string d.name, .slice ra d.refs.length rc, .slice na d.nums.length nc, .int .i64 d.by_, .bool d.always], nv, .pointer (some ⟨bm, 0, none⟩), .pointer (some ⟨bx, 0, none⟩)] w
     (AdnQ B br mt w ⟨m.sT, m.fT, m.rT, m.mT, m.lT, m.iT ++ [⟨d.name, 1, q0, x0, x1, x2, sortI (d.refs.map (thNum ts))⟩], m.dT, m.oT, m.vT, m.aT, m.uT⟩) := by
 obtain ⟨wa, hwa⟩ : ∃ wa, wa = w.alloc (.cells #[.int .i64 d.kind, .string d.name, .slice ra d.refs.length rc, .slice na d.nums.length nc, .int .i64 d.by_, .bool d.always] 43) := ⟨_, rfl⟩
 have hba : Below w.heap.size w wa := by rw [hwa]; exact (Below.refl _ _).alloc (Nat.le_refl _) _
 have HXA := hide (show Blk wa w.heap.size 43 _ from by rw [hwa]; exact Blk.new w _ _)
 have HAA := hide (hA.below hba)
 have HBM := hide (hbm.below hba hbm.lt)
 have HBX := hide (hbx.below hba hbx.lt)
 have HBA := hide hba
 have HB := hide hB
 have HWA := hide hwa
 have HLEN := hide hlen
 have hsa : B ≤ wa.heap.size := Nat.le_trans hB hba.size
 have hbB : Below B w wa := hba.mono hB
 have hun := unit_prog br mt ts d ra na rc nc 1 q0 x0 x1 x2 1 wa.drew (HAA.out.blk.cell 0) ((hm.keep (hba.block mt hm.lt)) : AM keyStr wa mt (thL ts)) ((hr.below hbB).more hsa) hrl ((hq.below hbB).more hsa) hnl hnc (by omega) h0 h1 h2
 obtain ⟨os, hos⟩ : ∃ os, os = sortI (d.refs.map (thNum ts)) := ⟨_, rfl⟩
 have hol : os.length = d.refs.length := by rw [hos, (sortI_is _).2.length_eq]; simp
 rw [← hos] at hun
 rw [← hos]
 have hun := hun.mono (fun e w' hh => by
  obtain ⟨A, c, he, ho, hb⟩ := hh
  rw [← hol] at he ho
  exact (⟨A, c, he, ho, hb⟩ : ∃ A c, e = .returned (.agg #[.string d.name, .int .i64 1, .int .i64 q0, .int .i64 x0, .int .i64 x1, .int .i64 x2, .slice A os.length c]) ∧ OwnI wa.drew.heap.size w' (.slice A os.length c) os ∧ Below wa.drew.heap.size wa.drew w'))
 have HUN := hide hun
 have hq1 : 0 < d.nums.length := by omega
 obtain ⟨bq, oq, hqA, hqb, yq⟩ := int_at (hq.below hbB) (k := 0) hq1
 have HQ := hide (show wa.cell? ⟨bq, oq, none⟩ = some (.int .i64 q0) from by
  rw [List.getElem?_eq_getElem hq1] at hq0
  rw [show oq = oq + 0 from rfl, yq, Option.some.inj hq0])
 have HQB := hide hqb
 obtain ⟨nq, hnq⟩ : ∃ nq, nq = d.nums.length := ⟨_, rfl⟩
 have HNQ := hide hnq
 rw [← hnq] at hq1
 rw [← hnq] at HXA HUN
 rw [← hnq]
 have hq1I : (0 : Int) < (nq : Int) := by omega
 rw [← hnq] at hwa
 have HWA := hide hwa
 subst hqA
 clear hq0 yq hqb hnq
 have HSB := hide (fun (W : World) (h : Blk W bm 92 #[.pointer (some ⟨br, 1, none⟩)] ∧ Blk W bx 50 #[.pointer (some ⟨br, 0, none⟩)] ∧ Blk W w.heap.size 43 #[.int .i64 d.kind, .string d.name, .slice ra d.refs.length rc, .slice (some ⟨bq, oq, none⟩) nq nc, .int .i64 d.by_, .bool d.always] ∧ Below B wa W) => (⟨⟨h.1.cell 0, h.2.1.cell 0, h.2.2.1.cell 0, h.2.2.1.cell 1, h.2.2.1.cell 2, h.2.2.1.cell 3, h.2.2.1.cell 4, h.2.2.1.cell 5, (h.2.2.2.cell HQB.out).trans HQ.out⟩, h⟩ : (W.cell? ⟨bm, 0, none⟩ = some (.pointer (some ⟨br, 1, none⟩)) ∧ W.cell? ⟨bx, 0, none⟩ = some (.pointer (some ⟨br, 0, none⟩)) ∧ W.cell? ⟨w.heap.size, 0, none⟩ = some (.int .i64 d.kind) ∧ W.cell? ⟨w.heap.size, 1, none⟩ = some (.string d.name) ∧ W.cell? ⟨w.heap.size, 2, none⟩ = some (.slice ra d.refs.length rc) ∧ W.cell? ⟨w.heap.size, 3, none⟩ = some (.slice (some ⟨bq, oq, none⟩) nq nc) ∧ W.cell? ⟨w.heap.size, 4, none⟩ = some (.int .i64 d.by_) ∧ W.cell? ⟨w.heap.size, 5, none⟩ = some (.bool d.always) ∧ W.cell? ⟨bq, oq, none⟩ = some (.int .i64 q0)) ∧ Blk W bm 92 #[.pointer (some ⟨br, 1, none⟩)] ∧ Blk W bx 50 #[.pointer (some ⟨br, 0, none⟩)] ∧ Blk W w.heap.size 43 #[.int .i64 d.kind, .string d.name, .slice ra d.refs.length rc, .slice (some ⟨bq, oq, none⟩) nq nc, .int .i64 d.by_, .bool d.always] ∧ Below B wa W))
 have HKP := hide (fun (W W' : World) (row : Option Nat) (T : TypeId) (h : Blk W bm 92 #[.pointer (some ⟨br, 1, none⟩)] ∧ Blk W bx 50 #[.pointer (some ⟨br, 0, none⟩)] ∧ Blk W w.heap.size 43 #[.int .i64 d.kind, .string d.name, .slice ra d.refs.length rc, .slice (some ⟨bq, oq, none⟩) nq nc, .int .i64 d.by_, .bool d.always] ∧ Below B wa W) (hg : W.grownBy W' row) (hT : RowT W row T) (hn1 : ¬ 92 = T) (hn2 : ¬ 50 = T) (hn3 : ¬ 43 = T) (hr : ∀ g, row = some g → B ≤ g) => (⟨(hg.block _ h.1.lt (fun e => by obtain ⟨cs, hb⟩ := hT _ e.symm; have := h.1.symm.trans hb; simp at this; exact hn1 this.2)).trans h.1, (hg.block _ h.2.1.lt (fun e => by obtain ⟨cs, hb⟩ := hT _ e.symm; have := h.2.1.symm.trans hb; simp at this; exact hn2 this.2)).trans h.2.1, (hg.block _ h.2.2.1.lt (fun e => by obtain ⟨cs, hb⟩ := hT _ e.symm; have := h.2.2.1.symm.trans hb; simp at this; exact hn3 this.2)).trans h.2.2.1, h.2.2.2.grown hg (Nat.le_trans (Nat.le_trans HB.out HBA.out.size) h.2.2.2.size) hr⟩ : Blk W' bm 92 #[.pointer (some ⟨br, 1, none⟩)] ∧ Blk W' bx 50 #[.pointer (some ⟨br, 0, none⟩)] ∧ Blk W' w.heap.size 43 #[.int .i64 d.kind, .string d.name, .slice ra d.refs.length rc, .slice (some ⟨bq, oq, none⟩) nq nc, .int .i64 d.by_, .bool d.always] ∧ Below B wa W'))
 have HKB := hide (fun (W W' : World) (h : Blk W bm 92 #[.pointer (some ⟨br, 1, none⟩)] ∧ Blk W bx 50 #[.pointer (some ⟨br, 0, none⟩)] ∧ Blk W w.heap.size 43 #[.int .i64 d.kind, .string d.name, .slice ra d.refs.length rc, .slice (some ⟨bq, oq, none⟩) nq nc, .int .i64 d.by_, .bool d.always] ∧ Below B wa W) (hb : Below W.heap.size W W') => HKP.out W W' none 4 h (grown_of_below hb none) (RowT.none_ _ _) (by decide) (by decide) (by decide) (fun g e => by cases e))
 have HOLD := hide (fun (W : World) (hb : Below wa.heap.size wa W) => (HAA.out.blk.below hb HAA.out.blk.lt).cell 6)
 obtain ⟨LI, i1, i2, i3⟩ := HAA.out.rm.i
 have HI1 := hide i1
 have HI2 := hide i2
 have HI3 := hide i3
 have hll : LI.length = m.iT.length := by rw [← i1]; simp
 obtain ⟨A0, c0, er, hcr, _⟩ := i2.form
 have old : wa.cell? ⟨br, 6, none⟩ = some (.slice A0 LI.length c0) := by rw [← er]; exact HAA.out.blk.cell 6
 have HER := hide er
 have cl := HAA.out.blk.lt
 obtain ⟨nL, hnL⟩ : ∃ nL, nL = LI.length := ⟨_, rfl⟩
 have HNL := hide hnL
 have HLL := hide (show nL ≤ 900000 by rw [hnL, hll]; exact hlen)
 rw [← hnL] at old
 have HSB0 := hide (show Blk wa.drew bm 92 #[.pointer (some ⟨br, 1, none⟩)] ∧ Blk wa.drew bx 50 #[.pointer (some ⟨br, 0, none⟩)] ∧ Blk wa.drew w.heap.size 43 #[.int .i64 d.kind, .string d.name, .slice ra d.refs.length rc, .slice (some ⟨bq, oq, none⟩) nq nc, .int .i64 d.by_, .bool d.always] ∧ Below B wa wa.drew from ⟨HBM.out, HBX.out, HXA.out, (Below.refl _ _).drew⟩)
 have HHZ := hide hz
 clear hwa hba hA hbm hbx hB er hcr hlen hsa hbB hun hos hol hm hr hrl hq hnl hnc h0 h1 h2 i1 i2 i3 hll hnL hz
 go_enter Tryz.func58, Tryz.ntmps58
 go_upto_region 1 with (fail)
 rw [show (w.alloc (.cells #[.int .i64 d.kind, .string d.name, .slice ra d.refs.length rc, .slice (some ⟨bq, oq, none⟩) nq nc, .int .i64 d.by_, .bool d.always] 43)) = wa from HWA.out.symm]
 refine wp_region_held_drew (S := (fun W => (W.cell? ⟨bm, 0, none⟩ = some (.pointer (some ⟨br, 1, none⟩)) ∧ W.cell? ⟨bx, 0, none⟩ = some (.pointer (some ⟨br, 0, none⟩)) ∧ W.cell? ⟨w.heap.size, 0, none⟩ = some (.int .i64 d.kind) ∧ W.cell? ⟨w.heap.size, 1, none⟩ = some (.string d.name) ∧ W.cell? ⟨w.heap.size, 2, none⟩ = some (.slice ra d.refs.length rc) ∧ W.cell? ⟨w.heap.size, 3, none⟩ = some (.slice (some ⟨bq, oq, none⟩) nq nc) ∧ W.cell? ⟨w.heap.size, 4, none⟩ = some (.int .i64 d.by_) ∧ W.cell? ⟨w.heap.size, 5, none⟩ = some (.bool d.always) ∧ W.cell? ⟨bq, oq, none⟩ = some (.int .i64 q0)) ∧ Blk W bm 92 #[.pointer (some ⟨br, 1, none⟩)] ∧ Blk W bx 50 #[.pointer (some ⟨br, 0, none⟩)] ∧ Blk W w.heap.size 43 #[.int .i64 d.kind, .string d.name, .slice ra d.refs.length rc, .slice (some ⟨bq, oq, none⟩) nq nc, .int .i64 d.by_, .bool d.always] ∧ Below B wa W)) (by kernel_rfl) (HSB.out _ HSB0.out) (fun hHeld => ?_)
 refine wpAnyH_take (i := 0) (oi := _) (v := ?_) rfl (by kernel_rfl) (by kernel_rfl) (by kernel_rfl) (fun _ _ _ h => h) (Or.inl ⟨by rfl, ?_⟩) hHeld ?_
 rotate_left
 · intro W hSw; (try dsimp only at hSw); go_simp; try with_reducible rfl
 simp only [Act.put, List.getElem_toArray, List.getElem_cons_zero, List.setIfInBounds_toArray, List.set_cons_zero, List.set_cons_succ]
 refine wpAnyH_take (i := 1) (oi := _) (v := ?_) rfl (by kernel_rfl) (by kernel_rfl) (by kernel_rfl) (fun _ _ _ h => h) (Or.inl ⟨by rfl, ?_⟩) hHeld ?_
 rotate_left
 · intro W hSw; (try dsimp only at hSw); go_simp; try with_reducible rfl
 simp only [Act.put, List.getElem_toArray, List.getElem_cons_succ, List.getElem_cons_zero, List.setIfInBounds_toArray, List.set_cons_zero, List.set_cons_succ]
 refine wpAnyH_take (i := 2) (oi := _) (v := ?_) rfl (by kernel_rfl) (by kernel_rfl) (by kernel_rfl) (fun _ _ _ h => h) (Or.inl ⟨by rfl, ?_⟩) hHeld ?_
 rotate_left
 · intro W hSw; (try dsimp only at hSw); go_simp; try with_reducible rfl
 simp only [Act.put, List.getElem_toArray, List.getElem_cons_succ, List.getElem_cons_zero, List.setIfInBounds_toArray, List.set_cons_zero, List.set_cons_succ]
 refine wpAnyH_take (i := 3) (oi := _) (v := ?_) rfl (by kernel_rfl) (by kernel_rfl) (by kernel_rfl) (fun _ _ _ h => h) (Or.inl ⟨by rfl, ?_⟩) hHeld ?_
 rotate_left
 · intro W hSw; (try dsimp only at hSw); go_simp; try with_reducible rfl
 simp only [Act.put, List.getElem_toArray, List.getElem_cons_succ, List.getElem_cons_zero, List.setIfInBounds_toArray, List.set_cons_zero, List.set_cons_succ]
 refine wpAnyH_take (i := 5) (oi := _) (v := ?_) rfl (by kernel_rfl) (by kernel_rfl) (by kernel_rfl) (fun _ _ _ h => h) (Or.inl ⟨by rfl, ?_⟩) hHeld ?_
 rotate_left
 · intro W hSw; (try dsimp only at hSw); go_simp; try with_reducible rfl
 simp only [Act.put, List.getElem_toArray, List.getElem_cons_succ, List.getElem_cons_zero, List.setIfInBounds_toArray, List.set_cons_zero, List.set_cons_succ]
 refine wpAnyH_take (i := 6) (oi := _) (v := ?_) rfl (by kernel_rfl) (by kernel_rfl) (by kernel_rfl) (fun _ _ _ h => h) (Or.inl ⟨by rfl, ?_⟩) hHeld ?_
 rotate_left
 · intro W hSw; (try dsimp only at hSw); go_simp; try with_reducible rfl
 simp only [Act.put, List.getElem_toArray, List.getElem_cons_succ, List.getElem_cons_zero, List.setIfInBounds_toArray, List.set_cons_zero, List.set_cons_succ]
 refine wpAnyH_take (i := 7) (oi := _) (v := ?_) rfl (by kernel_rfl) (by kernel_rfl) (by kernel_rfl) (fun _ _ _ h => h) (Or.inl ⟨by rfl, ?_⟩) hHeld ?_
 rotate_left
 · intro W hSw; (try dsimp only at hSw); go_simp; try with_reducible rfl
 simp only [Act.put, List.getElem_toArray, List.getElem_cons_succ, List.getElem_cons_zero, List.setIfInBounds_toArray, List.set_cons_zero, List.set_cons_succ]
 refine wpAnyH_take (i := 8) (oi := _) (v := ?_) rfl (by kernel_rfl) (by kernel_rfl) (by kernel_rfl) (fun _ _ _ h => h) (Or.inl ⟨by rfl, ?_⟩) hHeld ?_
 rotate_left
 · intro W hSw; (try dsimp only at hSw); go_simp; try with_reducible rfl
 simp only [Act.put, List.getElem_toArray, List.getElem_cons_succ, List.getElem_cons_zero, List.setIfInBounds_toArray, List.set_cons_zero, List.set_cons_succ]
 refine wpAnyH_take (i := 9) (oi := _) (v := ?_) rfl (by kernel_rfl) (by kernel_rfl) (by kernel_rfl) (fun _ _ _ h => h) (Or.inl ⟨by rfl, ?_⟩) hHeld ?_
 rotate_left
 · intro W hSw; (try dsimp only at hSw); go_simp; try with_reducible rfl
 simp only [Act.put, List.getElem_toArray, List.getElem_cons_succ, List.getElem_cons_zero, List.setIfInBounds_toArray, List.set_cons_zero, List.set_cons_succ]
 refine wpAnyH_take (i := 10) (oi := _) (v := ?_) rfl (by kernel_rfl) (by kernel_rfl) (by kernel_rfl) (fun _ _ _ h => h) (Or.inl ⟨by rfl, ?_⟩) hHeld ?_
 rotate_left
 · intro W hSw; (try dsimp only at hSw); go_simp; try with_reducible rfl
 simp only [Act.put, List.getElem_toArray, List.getElem_cons_succ, List.getElem_cons_zero, List.setIfInBounds_toArray, List.set_cons_zero, List.set_cons_succ]
 refine wpAnyH_ready (rs := [4, 11]) (by kernel_rfl) (by simp) ?_
 refine AllReadyH.cons rfl (fun K hK => ?_) (AllReadyH.cons rfl (fun K hK => ?_) AllReadyH.nil)
 · go_simp
   refine hK.out _ _ (HSB.out _ HSB0.out) (fun hHeld => ?_)
   clear hK K
   refine wpAnyH_ready (rs := [11]) (by kernel_rfl) (by simp) ?_
   refine AllReadyH.cons rfl (fun K hK => ?_) AllReadyH.nil
   go_simp
   go_at_call 57
   refine HUN.out.mono ?_
   rintro e w2 ⟨A3, c3, rfl, ho2, hb2⟩
   have HO2 := hide ho2
   have HB2 := hide (show Below wa.heap.size wa w2 from ((Below.refl _ wa).drew).trans hb2)
   have HS2 := hide (HKB.out _ w2 HSB0.out hb2)
   have HS3 := hide (show Blk (w2.alloc (.cells #[.string d.name, .int .i64 1, .int .i64 q0, .int .i64 x0, .int .i64 x1, .int .i64 x2, .slice A3 os.length c3] 49)) bm 92 #[.pointer (some ⟨br, 1, none⟩)] ∧ Blk (w2.alloc (.cells #[.string d.name, .int .i64 1, .int .i64 q0, .int .i64 x0, .int .i64 x1, .int .i64 x2, .slice A3 os.length c3] 49)) bx 50 #[.pointer (some ⟨br, 0, none⟩)] ∧ Blk (w2.alloc (.cells #[.string d.name, .int .i64 1, .int .i64 q0, .int .i64 x0, .int .i64 x1, .int .i64 x2, .slice A3 os.length c3] 49)) w.heap.size 43 #[.int .i64 d.kind, .string d.name, .slice ra d.refs.length rc, .slice (some ⟨bq, oq, none⟩) nq nc, .int .i64 d.by_, .bool d.always] ∧ Below B wa (w2.alloc (.cells #[.string d.name, .int .i64 1, .int .i64 q0, .int .i64 x0, .int .i64 x1, .int .i64 x2, .slice A3 os.length c3] 49)) from HKB.out w2 (w2.alloc (.cells #[.string d.name, .int .i64 1, .int .i64 q0, .int .i64 x0, .int .i64 x1, .int .i64 x2, .slice A3 os.length c3] 49)) HS2.out ((Below.refl _ _).alloc (Nat.le_refl _) _))
   have old2 : w2.cell? ⟨br, 6, none⟩ = some (.slice A0 nL c0) := (HB2.out.cell (p := ⟨br, 6, none⟩) cl).trans old
   have cl2 : br < w2.heap.size := Nat.lt_of_lt_of_le cl HB2.out.size
   clear ho2 hb2
   (try dsimp only)
   refine hK.out _ _ (HSB.out _ HS2.out) (fun hHeld => ?_)
   clear hK K
   refine wpAnyH_ready (rs := [12]) (by kernel_rfl) (by simp) ?_
   refine AllReadyH.cons rfl (fun K hK => ?_) AllReadyH.nil
   go_simp
   refine hK.out _ _ (HSB.out _ HS3.out) (fun hHeld => ?_)
   clear hK K
   refine wpAnyH_ready (rs := [13]) (by kernel_rfl) (by simp) ?_
   refine AllReadyH.cons rfl (fun K hK => ?_) AllReadyH.nil
   refine step_append_el okItem rfl _ _ rfl B (.slice A0 nL c0) LI rfl ((show OwnE_ elItem B wa (.slice A0 nL c0) LI from by rw [HNL.out, ← HER.out]; exact HI2.out).below (HB2.out.alloc HB2.out.size _)) _ _ 1 1 [((⟨d.name, 1, q0, x0, x1, x2, os⟩, A3, c3) : ItV)] rfl (Reads.newE (E := elItem) w2 ((⟨d.name, 1, q0, x0, x1, x2, os⟩, A3, c3) : ItV)) rfl (by rw [← HNL.out]; have := HLL.out; simp; omega) (by have := HBA.out.size; have := HB.out; have := HB2.out.size; simp; omega) ?_
   intro v1 w1 ho1 hg1 hv1
   have hbb := HB2.out.alloc HB2.out.size (.cells #[.string d.name, .int .i64 1, .int .i64 q0, .int .i64 x0, .int .i64 x1, .int .i64 x2, .slice A3 os.length c3] 49)
   have ha1 := HAA.out.below hbb
   have hg2 : (w2.alloc (.cells #[.string d.name, .int .i64 1, .int .i64 q0, .int .i64 x0, .int .i64 x1, .int .i64 x2, .slice A3 os.length c3] 49)).grownBy w1 V.i.ownBlock := by rw [HER.out, ← HNL.out]; exact ⟨hg1.os, hg1.tape, hg1.output, hg1.size, hg1.block⟩
   have hi2 := HI2.out.below hbb
   have hrT : RowT (w2.alloc (.cells #[.string d.name, .int .i64 1, .int .i64 q0, .int .i64 x0, .int .i64 x1, .int .i64 x2, .slice A3 os.length c3] 49)) V.i.ownBlock 49 := RowT.own hi2
   have hlo : ∀ g, V.i.ownBlock = some g → B ≤ g := fun g e => (hi2.lt g e).1
   have hsb2 := HKP.out _ w1 _ _ HS3.out hg2 hrT (by decide) (by decide) (by decide) hlo
   have hb2 : Blk w1 br 53 (resC mt V m) := (hg2.block br ha1.blk.lt (fun e => by obtain ⟨cs, hb⟩ := hrT _ e.symm; have := ha1.blk.symm.trans hb; first | (simp at this; done) | (simp at this; exact absurd this.2 (by decide)))).trans ha1.blk
   have hoi : OwnI B (w2.alloc (.cells #[.string d.name, .int .i64 1, .int .i64 q0, .int .i64 x0, .int .i64 x1, .int .i64 x2, .slice A3 os.length c3] 49)) (.slice A3 os.length c3) os := own_lowerD (HO2.out.alloc _) (by have := HBA.out.size; have := HB.out; simp; omega)
   have hrm := ha1.rm.item (x := ((⟨d.name, 1, q0, x0, x1, x2, os⟩, A3, c3) : ItV)) HI1.out (fun y hy => (HI3.out y hy).below hbb) ho1 hg2 hrT hoi HHZ.out
   have had := AD.put (mt := mt) (V' := ⟨V.s, V.f, V.r, V.m, V.l, v1, V.u⟩) (m' := ⟨m.sT, m.fT, m.rT, m.mT, m.lT, m.iT ++ [⟨d.name, 1, q0, x0, x1, x2, os⟩], m.dT, m.oT, m.vT, m.aT, m.uT⟩) hb2 HAA.out.hB hrm (i := 6) (u := v1) rfl
   have f3 := hb2.frozen 6
   have q3 : w1.cell? ⟨br, 6, none⟩ = some V.i := hb2.cell 6
   have l3 := hb2.lt
   have hkx := ((KX.of_below HBA.out).trans (KX.of_below hbb)).trans ((KX.row hg2 hrT (by decide)).trans (KX.set_ hb2 (by decide) 6 v1))
   have hbw : Below B w (w1.setCell ⟨br, 6, none⟩ v1) := ((HBA.out.mono HB.out).trans hsb2.2.2.2).setCell (p := ⟨br, 6, none⟩) HAA.out.hB v1
   have HFIN := hide (And.intro had (And.intro hbw hkx))
   have HSB2 := hide hsb2
   have HSB3 := hide (HKP.out w1 (w1.setCell ⟨br, 6, none⟩ v1) (some br) 53 hsb2 (But.set_ (B := w1.heap.size) w1 6 v1).grown (fun g e => by cases e; exact ⟨_, hb2⟩) (by decide) (by decide) (by decide) (fun g e => by cases e; exact HAA.out.hB))
   obtain ⟨A9, c9, e9, _, _⟩ := ho1.form
   obtain ⟨n9, hn9⟩ : ∃ n9, n9 = (LI ++ [((⟨d.name, 1, q0, x0, x1, x2, os⟩, A3, c3) : ItV)]).length := ⟨_, rfl⟩
   rw [← hn9] at e9
   subst e9
   clear hn9 ho1 hg1 hv1 hbb ha1 hg2 hrT hlo hsb2 hb2 hrm had hkx hbw hi2 hoi
   (try dsimp only)
   refine hK.out _ _ (HSB.out _ HSB2.out) (fun hHeld => ?_)
   clear hK K
   refine wpAnyH_take (i := 14) (oi := _) (v := ?_) rfl (by kernel_rfl) (by kernel_rfl) (by kernel_rfl) (fun _ _ _ h => h) (Or.inl ⟨by rfl, ?_⟩) hHeld ?_
   rotate_left
   · intro W hSw; (try dsimp only at hSw); go_simp; try with_reducible rfl
   simp only [Act.put, List.getElem_toArray, List.getElem_cons_succ, List.getElem_cons_zero, List.setIfInBounds_toArray, List.set_cons_zero, List.set_cons_succ]
   refine wpAnyH_take (i := 15) (oi := _) (v := ?_) rfl (by kernel_rfl) (by kernel_rfl) (by kernel_rfl) (fun _ _ _ h => h) (Or.inl ⟨by rfl, ?_⟩) hHeld ?_
   rotate_left
   · intro W hSw; (try dsimp only at hSw); go_simp; try with_reducible rfl
   simp only [Act.put, List.getElem_toArray, List.getElem_cons_succ, List.getElem_cons_zero, List.setIfInBounds_toArray, List.set_cons_zero, List.set_cons_succ]
   refine wpAnyH_ready (rs := [16]) (by kernel_rfl) (by simp) ?_
   refine AllReadyH.cons rfl (fun K hK => ?_) AllReadyH.nil
   go_simp
   refine hK.out _ _ (HSB.out _ HSB3.out) (fun hHeld => ?_)
   clear hK K
   refine wpAnyH_done (by kernel_rfl) ?_ _
   go_wp2_with fail
   go_end0
   exact ⟨rfl, ⟨_, HFIN.out.1⟩, HFIN.out.2.1, HFIN.out.2.2⟩
 · go_simp
   go_at_call 57
   refine HUN.out.mono ?_
   rintro e w2 ⟨A3, c3, rfl, ho2, hb2⟩
   have HO2 := hide ho2
   have HB2 := hide (show Below wa.heap.size wa w2 from ((Below.refl _ wa).drew).trans hb2)
   have HS2 := hide (HKB.out _ w2 HSB0.out hb2)
   have HS3 := hide (show Blk (w2.alloc (.cells #[.string d.name, .int .i64 1, .int .i64 q0, .int .i64 x0, .int .i64 x1, .int .i64 x2, .slice A3 os.length c3] 49)) bm 92 #[.pointer (some ⟨br, 1, none⟩)] ∧ Blk (w2.alloc (.cells #[.string d.name, .int .i64 1, .int .i64 q0, .int .i64 x0, .int .i64 x1, .int .i64 x2, .slice A3 os.length c3] 49)) bx 50 #[.pointer (some ⟨br, 0, none⟩)] ∧ Blk (w2.alloc (.cells #[.string d.name, .int .i64 1, .int .i64 q0, .int .i64 x0, .int .i64 x1, .int .i64 x2, .slice A3 os.length c3] 49)) w.heap.size 43 #[.int .i64 d.kind, .string d.name, .slice ra d.refs.length rc, .slice (some ⟨bq, oq, none⟩) nq nc, .int .i64 d.by_, .bool d.always] ∧ Below B wa (w2.alloc (.cells #[.string d.name, .int .i64 1, .int .i64 q0, .int .i64 x0, .int .i64 x1, .int .i64 x2, .slice A3 os.length c3] 49)) from HKB.out w2 (w2.alloc (.cells #[.string d.name, .int .i64 1, .int .i64 q0, .int .i64 x0, .int .i64 x1, .int .i64 x2, .slice A3 os.length c3] 49)) HS2.out ((Below.refl _ _).alloc (Nat.le_refl _) _))
   have old2 : w2.cell? ⟨br, 6, none⟩ = some (.slice A0 nL c0) := (HB2.out.cell (p := ⟨br, 6, none⟩) cl).trans old
   have cl2 : br < w2.heap.size := Nat.lt_of_lt_of_le cl HB2.out.size
   clear ho2 hb2
   (try dsimp only)
   refine hK.out _ _ (HSB.out _ HS2.out) (fun hHeld => ?_)
   clear hK K
   refine wpAnyH_ready (rs := [4, 12]) (by kernel_rfl) (by simp) ?_
   refine AllReadyH.cons rfl (fun K hK => ?_) (AllReadyH.cons rfl (fun K hK => ?_) AllReadyH.nil)
   · go_simp
     refine hK.out _ _ (HSB.out _ HS2.out) (fun hHeld => ?_)
     clear hK K
     refine wpAnyH_ready (rs := [12]) (by kernel_rfl) (by simp) ?_
     refine AllReadyH.cons rfl (fun K hK => ?_) AllReadyH.nil
     go_simp
     refine hK.out _ _ (HSB.out _ HS3.out) (fun hHeld => ?_)
     clear hK K
     refine wpAnyH_ready (rs := [13]) (by kernel_rfl) (by simp) ?_
     refine AllReadyH.cons rfl (fun K hK => ?_) AllReadyH.nil
     refine step_append_el okItem rfl _ _ rfl B (.slice A0 nL c0) LI rfl ((show OwnE_ elItem B wa (.slice A0 nL c0) LI from by rw [HNL.out, ← HER.out]; exact HI2.out).below (HB2.out.alloc HB2.out.size _)) _ _ 1 1 [((⟨d.name, 1, q0, x0, x1, x2, os⟩, A3, c3) : ItV)] rfl (Reads.newE (E := elItem) w2 ((⟨d.name, 1, q0, x0, x1, x2, os⟩, A3, c3) : ItV)) rfl (by rw [← HNL.out]; have := HLL.out; simp; omega) (by have := HBA.out.size; have := HB.out; have := HB2.out.size; simp; omega) ?_
     intro v1 w1 ho1 hg1 hv1
     have hbb := HB2.out.alloc HB2.out.size (.cells #[.string d.name, .int .i64 1, .int .i64 q0, .int .i64 x0, .int .i64 x1, .int .i64 x2, .slice A3 os.length c3] 49)
     have ha1 := HAA.out.below hbb
     have hg2 : (w2.alloc (.cells #[.string d.name, .int .i64 1, .int .i64 q0, .int .i64 x0, .int .i64 x1, .int .i64 x2, .slice A3 os.length c3] 49)).grownBy w1 V.i.ownBlock := by rw [HER.out, ← HNL.out]; exact ⟨hg1.os, hg1.tape, hg1.output, hg1.size, hg1.block⟩
     have hi2 := HI2.out.below hbb
     have hrT : RowT (w2.alloc (.cells #[.string d.name, .int .i64 1, .int .i64 q0, .int .i64 x0, .int .i64 x1, .int .i64 x2, .slice A3 os.length c3] 49)) V.i.ownBlock 49 := RowT.own hi2
     have hlo : ∀ g, V.i.ownBlock = some g → B ≤ g := fun g e => (hi2.lt g e).1
     have hsb2 := HKP.out _ w1 _ _ HS3.out hg2 hrT (by decide) (by decide) (by decide) hlo
     have hb2 : Blk w1 br 53 (resC mt V m) := (hg2.block br ha1.blk.lt (fun e => by obtain ⟨cs, hb⟩ := hrT _ e.symm; have := ha1.blk.symm.trans hb; first | (simp at this; done) | (simp at this; exact absurd this.2 (by decide)))).trans ha1.blk
     have hoi : OwnI B (w2.alloc (.cells #[.string d.name, .int .i64 1, .int .i64 q0, .int .i64 x0, .int .i64 x1, .int .i64 x2, .slice A3 os.length c3] 49)) (.slice A3 os.length c3) os := own_lowerD (HO2.out.alloc _) (by have := HBA.out.size; have := HB.out; simp; omega)
     have hrm := ha1.rm.item (x := ((⟨d.name, 1, q0, x0, x1, x2, os⟩, A3, c3) : ItV)) HI1.out (fun y hy => (HI3.out y hy).below hbb) ho1 hg2 hrT hoi HHZ.out
     have had := AD.put (mt := mt) (V' := ⟨V.s, V.f, V.r, V.m, V.l, v1, V.u⟩) (m' := ⟨m.sT, m.fT, m.rT, m.mT, m.lT, m.iT ++ [⟨d.name, 1, q0, x0, x1, x2, os⟩], m.dT, m.oT, m.vT, m.aT, m.uT⟩) hb2 HAA.out.hB hrm (i := 6) (u := v1) rfl
     have f3 := hb2.frozen 6
     have q3 : w1.cell? ⟨br, 6, none⟩ = some V.i := hb2.cell 6
     have l3 := hb2.lt
     have hkx := ((KX.of_below HBA.out).trans (KX.of_below hbb)).trans ((KX.row hg2 hrT (by decide)).trans (KX.set_ hb2 (by decide) 6 v1))
     have hbw : Below B w (w1.setCell ⟨br, 6, none⟩ v1) := ((HBA.out.mono HB.out).trans hsb2.2.2.2).setCell (p := ⟨br, 6, none⟩) HAA.out.hB v1
     have HFIN := hide (And.intro had (And.intro hbw hkx))
     have HSB2 := hide hsb2
     have HSB3 := hide (HKP.out w1 (w1.setCell ⟨br, 6, none⟩ v1) (some br) 53 hsb2 (But.set_ (B := w1.heap.size) w1 6 v1).grown (fun g e => by cases e; exact ⟨_, hb2⟩) (by decide) (by decide) (by decide) (fun g e => by cases e; exact HAA.out.hB))
     obtain ⟨A9, c9, e9, _, _⟩ := ho1.form
     obtain ⟨n9, hn9⟩ : ∃ n9, n9 = (LI ++ [((⟨d.name, 1, q0, x0, x1, x2, os⟩, A3, c3) : ItV)]).length := ⟨_, rfl⟩
     rw [← hn9] at e9
     subst e9
     clear hn9 ho1 hg1 hv1 hbb ha1 hg2 hrT hlo hsb2 hb2 hrm had hkx hbw hi2 hoi
     (try dsimp only)
     refine hK.out _ _ (HSB.out _ HSB2.out) (fun hHeld => ?_)
     clear hK K
     refine wpAnyH_take (i := 14) (oi := _) (v := ?_) rfl (by kernel_rfl) (by kernel_rfl) (by kernel_rfl) (fun _ _ _ h => h) (Or.inl ⟨by rfl, ?_⟩) hHeld ?_
     rotate_left
     · intro W hSw; (try dsimp only at hSw); go_simp; try with_reducible rfl
     simp only [Act.put, List.getElem_toArray, List.getElem_cons_succ, List.getElem_cons_zero, List.setIfInBounds_toArray, List.set_cons_zero, List.set_cons_succ]
     refine wpAnyH_take (i := 15) (oi := _) (v := ?_) rfl (by kernel_rfl) (by kernel_rfl) (by kernel_rfl) (fun _ _ _ h => h) (Or.inl ⟨by rfl, ?_⟩) hHeld ?_
     rotate_left
     · intro W hSw; (try dsimp only at hSw); go_simp; try with_reducible rfl
     simp only [Act.put, List.getElem_toArray, List.getElem_cons_succ, List.getElem_cons_zero, List.setIfInBounds_toArray, List.set_cons_zero, List.set_cons_succ]
     refine wpAnyH_ready (rs := [16]) (by kernel_rfl) (by simp) ?_
     refine AllReadyH.cons rfl (fun K hK => ?_) AllReadyH.nil
     go_simp
     refine hK.out _ _ (HSB.out _ HSB3.out) (fun hHeld => ?_)
     clear hK K
     refine wpAnyH_done (by kernel_rfl) ?_ _
     go_wp2_with fail
     go_end0
     exact ⟨rfl, ⟨_, HFIN.out.1⟩, HFIN.out.2.1, HFIN.out.2.2⟩
   · go_simp
     refine hK.out _ _ (HSB.out _ HS3.out) (fun hHeld => ?_)
     clear hK K
     refine wpAnyH_ready (rs := [4]) (by kernel_rfl) (by simp) ?_
     refine AllReadyH.cons rfl (fun K hK => ?_) AllReadyH.nil
     go_simp
     refine hK.out _ _ (HSB.out _ HS3.out) (fun hHeld => ?_)
     clear hK K
     refine wpAnyH_ready (rs := [13]) (by kernel_rfl) (by simp) ?_
     refine AllReadyH.cons rfl (fun K hK => ?_) AllReadyH.nil
     refine step_append_el okItem rfl _ _ rfl B (.slice A0 nL c0) LI rfl ((show OwnE_ elItem B wa (.slice A0 nL c0) LI from by rw [HNL.out, ← HER.out]; exact HI2.out).below (HB2.out.alloc HB2.out.size _)) _ _ 1 1 [((⟨d.name, 1, q0, x0, x1, x2, os⟩, A3, c3) : ItV)] rfl (Reads.newE (E := elItem) w2 ((⟨d.name, 1, q0, x0, x1, x2, os⟩, A3, c3) : ItV)) rfl (by rw [← HNL.out]; have := HLL.out; simp; omega) (by have := HBA.out.size; have := HB.out; have := HB2.out.size; simp; omega) ?_
     intro v1 w1 ho1 hg1 hv1
     have hbb := HB2.out.alloc HB2.out.size (.cells #[.string d.name, .int .i64 1, .int .i64 q0, .int .i64 x0, .int .i64 x1, .int .i64 x2, .slice A3 os.length c3] 49)
     have ha1 := HAA.out.below hbb
     have hg2 : (w2.alloc (.cells #[.string d.name, .int .i64 1, .int .i64 q0, .int .i64 x0, .int .i64 x1, .int .i64 x2, .slice A3 os.length c3] 49)).grownBy w1 V.i.ownBlock := by rw [HER.out, ← HNL.out]; exact ⟨hg1.os, hg1.tape, hg1.output, hg1.size, hg1.block⟩
     have hi2 := HI2.out.below hbb
     have hrT : RowT (w2.alloc (.cells #[.string d.name, .int .i64 1, .int .i64 q0, .int .i64 x0, .int .i64 x1, .int .i64 x2, .slice A3 os.length c3] 49)) V.i.ownBlock 49 := RowT.own hi2
     have hlo : ∀ g, V.i.ownBlock = some g → B ≤ g := fun g e => (hi2.lt g e).1
     have hsb2 := HKP.out _ w1 _ _ HS3.out hg2 hrT (by decide) (by decide) (by decide) hlo
     have hb2 : Blk w1 br 53 (resC mt V m) := (hg2.block br ha1.blk.lt (fun e => by obtain ⟨cs, hb⟩ := hrT _ e.symm; have := ha1.blk.symm.trans hb; first | (simp at this; done) | (simp at this; exact absurd this.2 (by decide)))).trans ha1.blk
     have hoi : OwnI B (w2.alloc (.cells #[.string d.name, .int .i64 1, .int .i64 q0, .int .i64 x0, .int .i64 x1, .int .i64 x2, .slice A3 os.length c3] 49)) (.slice A3 os.length c3) os := own_lowerD (HO2.out.alloc _) (by have := HBA.out.size; have := HB.out; simp; omega)
     have hrm := ha1.rm.item (x := ((⟨d.name, 1, q0, x0, x1, x2, os⟩, A3, c3) : ItV)) HI1.out (fun y hy => (HI3.out y hy).below hbb) ho1 hg2 hrT hoi HHZ.out
     have had := AD.put (mt := mt) (V' := ⟨V.s, V.f, V.r, V.m, V.l, v1, V.u⟩) (m' := ⟨m.sT, m.fT, m.rT, m.mT, m.lT, m.iT ++ [⟨d.name, 1, q0, x0, x1, x2, os⟩], m.dT, m.oT, m.vT, m.aT, m.uT⟩) hb2 HAA.out.hB hrm (i := 6) (u := v1) rfl
     have f3 := hb2.frozen 6
     have q3 : w1.cell? ⟨br, 6, none⟩ = some V.i := hb2.cell 6
     have l3 := hb2.lt
     have hkx := ((KX.of_below HBA.out).trans (KX.of_below hbb)).trans ((KX.row hg2 hrT (by decide)).trans (KX.set_ hb2 (by decide) 6 v1))
     have hbw : Below B w (w1.setCell ⟨br, 6, none⟩ v1) := ((HBA.out.mono HB.out).trans hsb2.2.2.2).setCell (p := ⟨br, 6, none⟩) HAA.out.hB v1
     have HFIN := hide (And.intro had (And.intro hbw hkx))
     have HSB2 := hide hsb2
     have HSB3 := hide (HKP.out w1 (w1.setCell ⟨br, 6, none⟩ v1) (some br) 53 hsb2 (But.set_ (B := w1.heap.size) w1 6 v1).grown (fun g e => by cases e; exact ⟨_, hb2⟩) (by decide) (by decide) (by decide) (fun g e => by cases e; exact HAA.out.hB))
     obtain ⟨A9, c9, e9, _, _⟩ := ho1.form
     obtain ⟨n9, hn9⟩ : ∃ n9, n9 = (LI ++ [((⟨d.name, 1, q0, x0, x1, x2, os⟩, A3, c3) : ItV)]).length := ⟨_, rfl⟩
     rw [← hn9] at e9
     subst e9
     clear hn9 ho1 hg1 hv1 hbb ha1 hg2 hrT hlo hsb2 hb2 hrm had hkx hbw hi2 hoi
     (try dsimp only)
     refine hK.out _ _ (HSB.out _ HSB2.out) (fun hHeld => ?_)
     clear hK K
     refine wpAnyH_take (i := 14) (oi := _) (v := ?_) rfl (by kernel_rfl) (by kernel_rfl) (by kernel_rfl) (fun _ _ _ h => h) (Or.inl ⟨by rfl, ?_⟩) hHeld ?_
     rotate_left
     · intro W hSw; (try dsimp only at hSw); go_simp; try with_reducible rfl
     simp only [Act.put, List.getElem_toArray, List.getElem_cons_succ, List.getElem_cons_zero, List.setIfInBounds_toArray, List.set_cons_zero, List.set_cons_succ]
     refine wpAnyH_take (i := 15) (oi := _) (v := ?_) rfl (by kernel_rfl) (by kernel_rfl) (by kernel_rfl) (fun _ _ _ h => h) (Or.inl ⟨by rfl, ?_⟩) hHeld ?_
     rotate_left
     · intro W hSw; (try dsimp only at hSw); go_simp; try with_reducible rfl
     simp only [Act.put, List.getElem_toArray, List.getElem_cons_succ, List.getElem_cons_zero, List.setIfInBounds_toArray, List.set_cons_zero, List.set_cons_succ]
     refine wpAnyH_ready (rs := [16]) (by kernel_rfl) (by simp) ?_
     refine AllReadyH.cons rfl (fun K hK => ?_) AllReadyH.nil
     go_simp
     refine hK.out _ _ (HSB.out _ HSB3.out) (fun hHeld => ?_)
     clear hK K
     refine wpAnyH_done (by kernel_rfl) ?_ _
     go_wp2_with fail
     go_end0
     exact ⟨rfl, ⟨_, HFIN.out.1⟩, HFIN.out.2.1, HFIN.out.2.2⟩
theorem add8_prog (B br mt bm bx : Nat) (V : MV) (m : Mod) (ts : List Thing) (d : Decl) (ra na : Option Addr) (rc nc : Nat) (nv : Value) (x0 x1 x2 : Int) (w : World) (hA : AD B br mt w V m) (hB : B ≤ w.heap.size) (hbm : Blk w bm 92 #[.pointer (some ⟨br, 1, none⟩)]) (hbx : Blk w bx 50 #[.pointer (some ⟨br, 0, none⟩)]) (hm : AM keyStr w mt (thL ts)) (hr : Strs w B ra d.refs) (hrl : d.refs.length ≤ 1000) (hq : Ints w B na d.nums) (hnl : d.nums.length = 0 + 3) (hnc : d.nums.length ≤ nc) (h0 : d.nums[0]? = some x0) (h1 : d.nums[0 + 1]? = some x1) (h2 : d.nums[0 + 2]? = some x2) (hz : d.name.size ≤ 16384) (hlen : m.iT.length ≤ 900000) :
    Calls Tryz.prog 59 #[.agg #[.int .i64 d.kind, .string d.name, .slice ra d.refs.length rc, .slice na d.nums.length nc, .int .i64 d.by_, .bool d.always], nv, .pointer (some ⟨bm, 0, none⟩), .pointer (some ⟨bx, 0, none⟩)] w
     (AdnQ B br mt w ⟨m.sT, m.fT, m.rT, m.mT, m.lT, m.iT ++ [⟨d.name, 2, 1, x0, x1, x2, sortI (d.refs.map (thNum ts))⟩], m.dT, m.oT, m.vT, m.aT, m.uT⟩) := by
 obtain ⟨wa, hwa⟩ : ∃ wa, wa = w.alloc (.cells #[.int .i64 d.kind, .string d.name, .slice ra d.refs.length rc, .slice na d.nums.length nc, .int .i64 d.by_, .bool d.always] 43) := ⟨_, rfl⟩
 have hba : Below w.heap.size w wa := by rw [hwa]; exact (Below.refl _ _).alloc (Nat.le_refl _) _
 have HXA := hide (show Blk wa w.heap.size 43 _ from by rw [hwa]; exact Blk.new w _ _)
 have HAA := hide (hA.below hba)
 have HBM := hide (hbm.below hba hbm.lt)
 have HBX := hide (hbx.below hba hbx.lt)
 have HBA := hide hba
 have HB := hide hB
 have HWA := hide hwa
 have HLEN := hide hlen
 have hsa : B ≤ wa.heap.size := Nat.le_trans hB hba.size
 have hbB : Below B w wa := hba.mono hB
 have hun := unit_prog br mt ts d ra na rc nc 2 1 x0 x1 x2 0 wa.drew (HAA.out.blk.cell 0) ((hm.keep (hba.block mt hm.lt)) : AM keyStr wa mt (thL ts)) ((hr.below hbB).more hsa) hrl ((hq.below hbB).more hsa) hnl hnc (by omega) h0 h1 h2
 obtain ⟨os, hos⟩ : ∃ os, os = sortI (d.refs.map (thNum ts)) := ⟨_, rfl⟩
 have hol : os.length = d.refs.length := by rw [hos, (sortI_is _).2.length_eq]; simp
 rw [← hos] at hun
 rw [← hos]
 have hun := hun.mono (fun e w' hh => by
  obtain ⟨A, c, he, ho, hb⟩ := hh
  rw [← hol] at he ho
  exact (⟨A, c, he, ho, hb⟩ : ∃ A c, e = .returned (.agg #[.string d.name, .int .i64 2, .int .i64 1, .int .i64 x0, .int .i64 x1, .int .i64 x2, .slice A os.length c]) ∧ OwnI wa.drew.heap.size w' (.slice A os.length c) os ∧ Below wa.drew.heap.size wa.drew w'))
 have HUN := hide hun
 have HSB := hide (fun (W : World) (h : Blk W bm 92 #[.pointer (some ⟨br, 1, none⟩)] ∧ Blk W bx 50 #[.pointer (some ⟨br, 0, none⟩)] ∧ Blk W w.heap.size 43 #[.int .i64 d.kind, .string d.name, .slice ra d.refs.length rc, .slice na d.nums.length nc, .int .i64 d.by_, .bool d.always] ∧ Below B wa W) => (⟨⟨h.1.cell 0, h.2.1.cell 0, h.2.2.1.cell 0, h.2.2.1.cell 1, h.2.2.1.cell 2, h.2.2.1.cell 3, h.2.2.1.cell 4, h.2.2.1.cell 5⟩, h⟩ : (W.cell? ⟨bm, 0, none⟩ = some (.pointer (some ⟨br, 1, none⟩)) ∧ W.cell? ⟨bx, 0, none⟩ = some (.pointer (some ⟨br, 0, none⟩)) ∧ W.cell? ⟨w.heap.size, 0, none⟩ = some (.int .i64 d.kind) ∧ W.cell? ⟨w.heap.size, 1, none⟩ = some (.string d.name) ∧ W.cell? ⟨w.heap.size, 2, none⟩ = some (.slice ra d.refs.length rc) ∧ W.cell? ⟨w.heap.size, 3, none⟩ = some (.slice na d.nums.length nc) ∧ W.cell? ⟨w.heap.size, 4, none⟩ = some (.int .i64 d.by_) ∧ W.cell? ⟨w.heap.size, 5, none⟩ = some (.bool d.always)) ∧ Blk W bm 92 #[.pointer (some ⟨br, 1, none⟩)] ∧ Blk W bx 50 #[.pointer (some ⟨br, 0, none⟩)] ∧ Blk W w.heap.size 43 #[.int .i64 d.kind, .string d.name, .slice ra d.refs.length rc, .slice na d.nums.length nc, .int .i64 d.by_, .bool d.always] ∧ Below B wa W))
 have HKP := hide (fun (W W' : World) (row : Option Nat) (T : TypeId) (h : Blk W bm 92 #[.pointer (some ⟨br, 1, none⟩)] ∧ Blk W bx 50 #[.pointer (some ⟨br, 0, none⟩)] ∧ Blk W w.heap.size 43 #[.int .i64 d.kind, .string d.name, .slice ra d.refs.length rc, .slice na d.nums.length nc, .int .i64 d.by_, .bool d.always] ∧ Below B wa W) (hg : W.grownBy W' row) (hT : RowT W row T) (hn1 : ¬ 92 = T) (hn2 : ¬ 50 = T) (hn3 : ¬ 43 = T) (hr : ∀ g, row = some g → B ≤ g) => (⟨(hg.block _ h.1.lt (fun e => by obtain ⟨cs, hb⟩ := hT _ e.symm; have := h.1.symm.trans hb; simp at this; exact hn1 this.2)).trans h.1, (hg.block _ h.2.1.lt (fun e => by obtain ⟨cs, hb⟩ := hT _ e.symm; have := h.2.1.symm.trans hb; simp at this; exact hn2 this.2)).trans h.2.1, (hg.block _ h.2.2.1.lt (fun e => by obtain ⟨cs, hb⟩ := hT _ e.symm; have := h.2.2.1.symm.trans hb; simp at this; exact hn3 this.2)).trans h.2.2.1, h.2.2.2.grown hg (Nat.le_trans (Nat.le_trans HB.out HBA.out.size) h.2.2.2.size) hr⟩ : Blk W' bm 92 #[.pointer (some ⟨br, 1, none⟩)] ∧ Blk W' bx 50 #[.pointer (some ⟨br, 0, none⟩)] ∧ Blk W' w.heap.size 43 #[.int .i64 d.kind, .string d.name, .slice ra d.refs.length rc, .slice na d.nums.length nc, .int .i64 d.by_, .bool d.always] ∧ Below B wa W'))
 have HKB := hide (fun (W W' : World) (h : Blk W bm 92 #[.pointer (some ⟨br, 1, none⟩)] ∧ Blk W bx 50 #[.pointer (some ⟨br, 0, none⟩)] ∧ Blk W w.heap.size 43 #[.int .i64 d.kind, .string d.name, .slice ra d.refs.length rc, .slice na d.nums.length nc, .int .i64 d.by_, .bool d.always] ∧ Below B wa W) (hb : Below W.heap.size W W') => HKP.out W W' none 4 h (grown_of_below hb none) (RowT.none_ _ _) (by decide) (by decide) (by decide) (fun g e => by cases e))
 have HOLD := hide (fun (W : World) (hb : Below wa.heap.size wa W) => (HAA.out.blk.below hb HAA.out.blk.lt).cell 6)
 obtain ⟨LI, i1, i2, i3⟩ := HAA.out.rm.i
 have HI1 := hide i1
 have HI2 := hide i2
 have HI3 := hide i3
 have hll : LI.length = m.iT.length := by rw [← i1]; simp
 obtain ⟨A0, c0, er, hcr, _⟩ := i2.form
 have old : wa.cell? ⟨br, 6, none⟩ = some (.slice A0 LI.length c0) := by rw [← er]; exact HAA.out.blk.cell 6
 have HER := hide er
 have cl := HAA.out.blk.lt
 obtain ⟨nL, hnL⟩ : ∃ nL, nL = LI.length := ⟨_, rfl⟩
 have HNL := hide hnL
 have HLL := hide (show nL ≤ 900000 by rw [hnL, hll]; exact hlen)
 rw [← hnL] at old
 have HSB0 := hide (show Blk wa.drew bm 92 #[.pointer (some ⟨br, 1, none⟩)] ∧ Blk wa.drew bx 50 #[.pointer (some ⟨br, 0, none⟩)] ∧ Blk wa.drew w.heap.size 43 #[.int .i64 d.kind, .string d.name, .slice ra d.refs.length rc, .slice na d.nums.length nc, .int .i64 d.by_, .bool d.always] ∧ Below B wa wa.drew from ⟨HBM.out, HBX.out, HXA.out, (Below.refl _ _).drew⟩)
 have HHZ := hide hz
 clear hwa hba hA hbm hbx hB er hcr hlen hsa hbB hun hos hol hm hr hrl hq hnl hnc h0 h1 h2 i1 i2 i3 hll hnL hz
 go_enter Tryz.func59, Tryz.ntmps59
 go_upto_region 1 with (fail)
 rw [show (w.alloc (.cells #[.int .i64 d.kind, .string d.name, .slice ra d.refs.length rc, .slice na d.nums.length nc, .int .i64 d.by_, .bool d.always] 43)) = wa from HWA.out.symm]
 refine wp_region_held_drew (S := (fun W => (W.cell? ⟨bm, 0, none⟩ = some (.pointer (some ⟨br, 1, none⟩)) ∧ W.cell? ⟨bx, 0, none⟩ = some (.pointer (some ⟨br, 0, none⟩)) ∧ W.cell? ⟨w.heap.size, 0, none⟩ = some (.int .i64 d.kind) ∧ W.cell? ⟨w.heap.size, 1, none⟩ = some (.string d.name) ∧ W.cell? ⟨w.heap.size, 2, none⟩ = some (.slice ra d.refs.length rc) ∧ W.cell? ⟨w.heap.size, 3, none⟩ = some (.slice na d.nums.length nc) ∧ W.cell? ⟨w.heap.size, 4, none⟩ = some (.int .i64 d.by_) ∧ W.cell? ⟨w.heap.size, 5, none⟩ = some (.bool d.always)) ∧ Blk W bm 92 #[.pointer (some ⟨br, 1, none⟩)] ∧ Blk W bx 50 #[.pointer (some ⟨br, 0, none⟩)] ∧ Blk W w.heap.size 43 #[.int .i64 d.kind, .string d.name, .slice ra d.refs.length rc, .slice na d.nums.length nc, .int .i64 d.by_, .bool d.always] ∧ Below B wa W)) (by kernel_rfl) (HSB.out _ HSB0.out) (fun hHeld => ?_)
 refine wpAnyH_take (i := 0) (oi := _) (v := ?_) rfl (by kernel_rfl) (by kernel_rfl) (by kernel_rfl) (fun _ _ _ h => h) (Or.inl ⟨by rfl, ?_⟩) hHeld ?_
 rotate_left
 · intro W hSw; (try dsimp only at hSw); go_simp; try with_reducible rfl
 simp only [Act.put, List.getElem_toArray, List.getElem_cons_zero, List.setIfInBounds_toArray, List.set_cons_zero, List.set_cons_succ]
 refine wpAnyH_take (i := 1) (oi := _) (v := ?_) rfl (by kernel_rfl) (by kernel_rfl) (by kernel_rfl) (fun _ _ _ h => h) (Or.inl ⟨by rfl, ?_⟩) hHeld ?_
 rotate_left
 · intro W hSw; (try dsimp only at hSw); go_simp; try with_reducible rfl
 simp only [Act.put, List.getElem_toArray, List.getElem_cons_succ, List.getElem_cons_zero, List.setIfInBounds_toArray, List.set_cons_zero, List.set_cons_succ]
 refine wpAnyH_take (i := 2) (oi := _) (v := ?_) rfl (by kernel_rfl) (by kernel_rfl) (by kernel_rfl) (fun _ _ _ h => h) (Or.inl ⟨by rfl, ?_⟩) hHeld ?_
 rotate_left
 · intro W hSw; (try dsimp only at hSw); go_simp; try with_reducible rfl
 simp only [Act.put, List.getElem_toArray, List.getElem_cons_succ, List.getElem_cons_zero, List.setIfInBounds_toArray, List.set_cons_zero, List.set_cons_succ]
 refine wpAnyH_take (i := 3) (oi := _) (v := ?_) rfl (by kernel_rfl) (by kernel_rfl) (by kernel_rfl) (fun _ _ _ h => h) (Or.inl ⟨by rfl, ?_⟩) hHeld ?_
 rotate_left
 · intro W hSw; (try dsimp only at hSw); go_simp; try with_reducible rfl
 simp only [Act.put, List.getElem_toArray, List.getElem_cons_succ, List.getElem_cons_zero, List.setIfInBounds_toArray, List.set_cons_zero, List.set_cons_succ]
 refine wpAnyH_take (i := 5) (oi := _) (v := ?_) rfl (by kernel_rfl) (by kernel_rfl) (by kernel_rfl) (fun _ _ _ h => h) (Or.inl ⟨by rfl, ?_⟩) hHeld ?_
 rotate_left
 · intro W hSw; (try dsimp only at hSw); go_simp; try with_reducible rfl
 simp only [Act.put, List.getElem_toArray, List.getElem_cons_succ, List.getElem_cons_zero, List.setIfInBounds_toArray, List.set_cons_zero, List.set_cons_succ]
 refine wpAnyH_take (i := 6) (oi := _) (v := ?_) rfl (by kernel_rfl) (by kernel_rfl) (by kernel_rfl) (fun _ _ _ h => h) (Or.inl ⟨by rfl, ?_⟩) hHeld ?_
 rotate_left
 · intro W hSw; (try dsimp only at hSw); go_simp; try with_reducible rfl
 simp only [Act.put, List.getElem_toArray, List.getElem_cons_succ, List.getElem_cons_zero, List.setIfInBounds_toArray, List.set_cons_zero, List.set_cons_succ]
 refine wpAnyH_ready (rs := [4, 7]) (by kernel_rfl) (by simp) ?_
 refine AllReadyH.cons rfl (fun K hK => ?_) (AllReadyH.cons rfl (fun K hK => ?_) AllReadyH.nil)
 · go_simp
   refine hK.out _ _ (HSB.out _ HSB0.out) (fun hHeld => ?_)
   clear hK K
   refine wpAnyH_ready (rs := [7]) (by kernel_rfl) (by simp) ?_
   refine AllReadyH.cons rfl (fun K hK => ?_) AllReadyH.nil
   go_simp
   go_at_call 57
   refine HUN.out.mono ?_
   rintro e w2 ⟨A3, c3, rfl, ho2, hb2⟩
   have HO2 := hide ho2
   have HB2 := hide (show Below wa.heap.size wa w2 from ((Below.refl _ wa).drew).trans hb2)
   have HS2 := hide (HKB.out _ w2 HSB0.out hb2)
   have HS3 := hide (show Blk (w2.alloc (.cells #[.string d.name, .int .i64 2, .int .i64 1, .int .i64 x0, .int .i64 x1, .int .i64 x2, .slice A3 os.length c3] 49)) bm 92 #[.pointer (some ⟨br, 1, none⟩)] ∧ Blk (w2.alloc (.cells #[.string d.name, .int .i64 2, .int .i64 1, .int .i64 x0, .int .i64 x1, .int .i64 x2, .slice A3 os.length c3] 49)) bx 50 #[.pointer (some ⟨br, 0, none⟩)] ∧ Blk (w2.alloc (.cells #[.string d.name, .int .i64 2, .int .i64 1, .int .i64 x0, .int .i64 x1, .int .i64 x2, .slice A3 os.length c3] 49)) w.heap.size 43 #[.int .i64 d.kind, .string d.name, .slice ra d.refs.length rc, .slice na d.nums.length nc, .int .i64 d.by_, .bool d.always] ∧ Below B wa (w2.alloc (.cells #[.string d.name, .int .i64 2, .int .i64 1, .int .i64 x0, .int .i64 x1, .int .i64 x2, .slice A3 os.length c3] 49)) from HKB.out w2 (w2.alloc (.cells #[.string d.name, .int .i64 2, .int .i64 1, .int .i64 x0, .int .i64 x1, .int .i64 x2, .slice A3 os.length c3] 49)) HS2.out ((Below.refl _ _).alloc (Nat.le_refl _) _))
   have old2 : w2.cell? ⟨br, 6, none⟩ = some (.slice A0 nL c0) := (HB2.out.cell (p := ⟨br, 6, none⟩) cl).trans old
   have cl2 : br < w2.heap.size := Nat.lt_of_lt_of_le cl HB2.out.size
   clear ho2 hb2
   (try dsimp only)
   refine hK.out _ _ (HSB.out _ HS2.out) (fun hHeld => ?_)
   clear hK K
   refine wpAnyH_ready (rs := [8]) (by kernel_rfl) (by simp) ?_
   refine AllReadyH.cons rfl (fun K hK => ?_) AllReadyH.nil
   go_simp
   refine hK.out _ _ (HSB.out _ HS3.out) (fun hHeld => ?_)
   clear hK K
   refine wpAnyH_ready (rs := [9]) (by kernel_rfl) (by simp) ?_
   refine AllReadyH.cons rfl (fun K hK => ?_) AllReadyH.nil
   refine step_append_el okItem rfl _ _ rfl B (.slice A0 nL c0) LI rfl ((show OwnE_ elItem B wa (.slice A0 nL c0) LI from by rw [HNL.out, ← HER.out]; exact HI2.out).below (HB2.out.alloc HB2.out.size _)) _ _ 1 1 [((⟨d.name, 2, 1, x0, x1, x2, os⟩, A3, c3) : ItV)] rfl (Reads.newE (E := elItem) w2 ((⟨d.name, 2, 1, x0, x1, x2, os⟩, A3, c3) : ItV)) rfl (by rw [← HNL.out]; have := HLL.out; simp; omega) (by have := HBA.out.size; have := HB.out; have := HB2.out.size; simp; omega) ?_
   intro v1 w1 ho1 hg1 hv1
   have hbb := HB2.out.alloc HB2.out.size (.cells #[.string d.name, .int .i64 2, .int .i64 1, .int .i64 x0, .int .i64 x1, .int .i64 x2, .slice A3 os.length c3] 49)
   have ha1 := HAA.out.below hbb
   have hg2 : (w2.alloc (.cells #[.string d.name, .int .i64 2, .int .i64 1, .int .i64 x0, .int .i64 x1, .int .i64 x2, .slice A3 os.length c3] 49)).grownBy w1 V.i.ownBlock := by rw [HER.out, ← HNL.out]; exact ⟨hg1.os, hg1.tape, hg1.output, hg1.size, hg1.block⟩
   have hi2 := HI2.out.below hbb
   have hrT : RowT (w2.alloc (.cells #[.string d.name, .int .i64 2, .int .i64 1, .int .i64 x0, .int .i64 x1, .int .i64 x2, .slice A3 os.length c3] 49)) V.i.ownBlock 49 := RowT.own hi2
   have hlo : ∀ g, V.i.ownBlock = some g → B ≤ g := fun g e => (hi2.lt g e).1
   have hsb2 := HKP.out _ w1 _ _ HS3.out hg2 hrT (by decide) (by decide) (by decide) hlo
   have hb2 : Blk w1 br 53 (resC mt V m) := (hg2.block br ha1.blk.lt (fun e => by obtain ⟨cs, hb⟩ := hrT _ e.symm; have := ha1.blk.symm.trans hb; first | (simp at this; done) | (simp at this; exact absurd this.2 (by decide)))).trans ha1.blk
   have hoi : OwnI B (w2.alloc (.cells #[.string d.name, .int .i64 2, .int .i64 1, .int .i64 x0, .int .i64 x1, .int .i64 x2, .slice A3 os.length c3] 49)) (.slice A3 os.length c3) os := own_lowerD (HO2.out.alloc _) (by have := HBA.out.size; have := HB.out; simp; omega)
   have hrm := ha1.rm.item (x := ((⟨d.name, 2, 1, x0, x1, x2, os⟩, A3, c3) : ItV)) HI1.out (fun y hy => (HI3.out y hy).below hbb) ho1 hg2 hrT hoi HHZ.out
   have had := AD.put (mt := mt) (V' := ⟨V.s, V.f, V.r, V.m, V.l, v1, V.u⟩) (m' := ⟨m.sT, m.fT, m.rT, m.mT, m.lT, m.iT ++ [⟨d.name, 2, 1, x0, x1, x2, os⟩], m.dT, m.oT, m.vT, m.aT, m.uT⟩) hb2 HAA.out.hB hrm (i := 6) (u := v1) rfl
   have f3 := hb2.frozen 6
   have q3 : w1.cell? ⟨br, 6, none⟩ = some V.i := hb2.cell 6
   have l3 := hb2.lt
   have hkx := ((KX.of_below HBA.out).trans (KX.of_below hbb)).trans ((KX.row hg2 hrT (by decide)).trans (KX.set_ hb2 (by decide) 6 v1))
   have hbw : Below B w (w1.setCell ⟨br, 6, none⟩ v1) := ((HBA.out.mono HB.out).trans hsb2.2.2.2).setCell (p := ⟨br, 6, none⟩) HAA.out.hB v1
   have HFIN := hide (And.intro had (And.intro hbw hkx))
   have HSB2 := hide hsb2
   have HSB3 := hide (HKP.out w1 (w1.setCell ⟨br, 6, none⟩ v1) (some br) 53 hsb2 (But.set_ (B := w1.heap.size) w1 6 v1).grown (fun g e => by cases e; exact ⟨_, hb2⟩) (by decide) (by decide) (by decide) (fun g e => by cases e; exact HAA.out.hB))
   obtain ⟨A9, c9, e9, _, _⟩ := ho1.form
   obtain ⟨n9, hn9⟩ : ∃ n9, n9 = (LI ++ [((⟨d.name, 2, 1, x0, x1, x2, os⟩, A3, c3) : ItV)]).length := ⟨_, rfl⟩
   rw [← hn9] at e9
   subst e9
   clear hn9 ho1 hg1 hv1 hbb ha1 hg2 hrT hlo hsb2 hb2 hrm had hkx hbw hi2 hoi
   (try dsimp only)
   refine hK.out _ _ (HSB.out _ HSB2.out) (fun hHeld => ?_)
   clear hK K
   refine wpAnyH_take (i := 10) (oi := _) (v := ?_) rfl (by kernel_rfl) (by kernel_rfl) (by kernel_rfl) (fun _ _ _ h => h) (Or.inl ⟨by rfl, ?_⟩) hHeld ?_
   rotate_left
   · intro W hSw; (try dsimp only at hSw); go_simp; try with_reducible rfl
   simp only [Act.put, List.getElem_toArray, List.getElem_cons_succ, List.getElem_cons_zero, List.setIfInBounds_toArray, List.set_cons_zero, List.set_cons_succ]
   refine wpAnyH_take (i := 11) (oi := _) (v := ?_) rfl (by kernel_rfl) (by kernel_rfl) (by kernel_rfl) (fun _ _ _ h => h) (Or.inl ⟨by rfl, ?_⟩) hHeld ?_
   rotate_left
   · intro W hSw; (try dsimp only at hSw); go_simp; try with_reducible rfl
   simp only [Act.put, List.getElem_toArray, List.getElem_cons_succ, List.getElem_cons_zero, List.setIfInBounds_toArray, List.set_cons_zero, List.set_cons_succ]
   refine wpAnyH_ready (rs := [12]) (by kernel_rfl) (by simp) ?_
   refine AllReadyH.cons rfl (fun K hK => ?_) AllReadyH.nil
   go_simp
   refine hK.out _ _ (HSB.out _ HSB3.out) (fun hHeld => ?_)
   clear hK K
   refine wpAnyH_done (by kernel_rfl) ?_ _
   go_wp2_with fail
   go_end0
   exact ⟨rfl, ⟨_, HFIN.out.1⟩, HFIN.out.2.1, HFIN.out.2.2⟩
 · go_simp
   go_at_call 57
   refine HUN.out.mono ?_
   rintro e w2 ⟨A3, c3, rfl, ho2, hb2⟩
   have HO2 := hide ho2
   have HB2 := hide (show Below wa.heap.size wa w2 from ((Below.refl _ wa).drew).trans hb2)
   have HS2 := hide (HKB.out _ w2 HSB0.out hb2)
   have HS3 := hide (show Blk (w2.alloc (.cells #[.string d.name, .int .i64 2, .int .i64 1, .int .i64 x0, .int .i64 x1, .int .i64 x2, .slice A3 os.length c3] 49)) bm 92 #[.pointer (some ⟨br, 1, none⟩)] ∧ Blk (w2.alloc (.cells #[.string d.name, .int .i64 2, .int .i64 1, .int .i64 x0, .int .i64 x1, .int .i64 x2, .slice A3 os.length c3] 49)) bx 50 #[.pointer (some ⟨br, 0, none⟩)] ∧ Blk (w2.alloc (.cells #[.string d.name, .int .i64 2, .int .i64 1, .int .i64 x0, .int .i64 x1, .int .i64 x2, .slice A3 os.length c3] 49)) w.heap.size 43 #[.int .i64 d.kind, .string d.name, .slice ra d.refs.length rc, .slice na d.nums.length nc, .int .i64 d.by_, .bool d.always] ∧ Below B wa (w2.alloc (.cells #[.string d.name, .int .i64 2, .int .i64 1, .int .i64 x0, .int .i64 x1, .int .i64 x2, .slice A3 os.length c3] 49)) from HKB.out w2 (w2.alloc (.cells #[.string d.name, .int .i64 2, .int .i64 1, .int .i64 x0, .int .i64 x1, .int .i64 x2, .slice A3 os.length c3] 49)) HS2.out ((Below.refl _ _).alloc (Nat.le_refl _) _))
   have old2 : w2.cell? ⟨br, 6, none⟩ = some (.slice A0 nL c0) := (HB2.out.cell (p := ⟨br, 6, none⟩) cl).trans old
   have cl2 : br < w2.heap.size := Nat.lt_of_lt_of_le cl HB2.out.size
   clear ho2 hb2
   (try dsimp only)
   refine hK.out _ _ (HSB.out _ HS2.out) (fun hHeld => ?_)
   clear hK K
   refine wpAnyH_ready (rs := [4, 8]) (by kernel_rfl) (by simp) ?_
   refine AllReadyH.cons rfl (fun K hK => ?_) (AllReadyH.cons rfl (fun K hK => ?_) AllReadyH.nil)
   · go_simp
     refine hK.out _ _ (HSB.out _ HS2.out) (fun hHeld => ?_)
     clear hK K
     refine wpAnyH_ready (rs := [8]) (by kernel_rfl) (by simp) ?_
     refine AllReadyH.cons rfl (fun K hK => ?_) AllReadyH.nil
     go_simp
     refine hK.out _ _ (HSB.out _ HS3.out) (fun hHeld => ?_)
     clear hK K
     refine wpAnyH_ready (rs := [9]) (by kernel_rfl) (by simp) ?_
     refine AllReadyH.cons rfl (fun K hK => ?_) AllReadyH.nil
     refine step_append_el okItem rfl _ _ rfl B (.slice A0 nL c0) LI rfl ((show OwnE_ elItem B wa (.slice A0 nL c0) LI from by rw [HNL.out, ← HER.out]; exact HI2.out).below (HB2.out.alloc HB2.out.size _)) _ _ 1 1 [((⟨d.name, 2, 1, x0, x1, x2, os⟩, A3, c3) : ItV)] rfl (Reads.newE (E := elItem) w2 ((⟨d.name, 2, 1, x0, x1, x2, os⟩, A3, c3) : ItV)) rfl (by rw [← HNL.out]; have := HLL.out; simp; omega) (by have := HBA.out.size; have := HB.out; have := HB2.out.size; simp; omega) ?_
     intro v1 w1 ho1 hg1 hv1
     have hbb := HB2.out.alloc HB2.out.size (.cells #[.string d.name, .int .i64 2, .int .i64 1, .int .i64 x0, .int .i64 x1, .int .i64 x2, .slice A3 os.length c3] 49)
     have ha1 := HAA.out.below hbb
     have hg2 : (w2.alloc (.cells #[.string d.name, .int .i64 2, .int .i64 1, .int .i64 x0, .int .i64 x1, .int .i64 x2, .slice A3 os.length c3] 49)).grownBy w1 V.i.ownBlock := by rw [HER.out, ← HNL.out]; exact ⟨hg1.os, hg1.tape, hg1.output, hg1.size, hg1.block⟩
     have hi2 := HI2.out.below hbb
     have hrT : RowT (w2.alloc (.cells #[.string d.name, .int .i64 2, .int .i64 1, .int .i64 x0, .int .i64 x1, .int .i64 x2, .slice A3 os.length c3] 49)) V.i.ownBlock 49 := RowT.own hi2
     have hlo : ∀ g, V.i.ownBlock = some g → B ≤ g := fun g e => (hi2.lt g e).1
     have hsb2 := HKP.out _ w1 _ _ HS3.out hg2 hrT (by decide) (by decide) (by decide) hlo
     have hb2 : Blk w1 br 53 (resC mt V m) := (hg2.block br ha1.blk.lt (fun e => by obtain ⟨cs, hb⟩ := hrT _ e.symm; have := ha1.blk.symm.trans hb; first | (simp at this; done) | (simp at this; exact absurd this.2 (by decide)))).trans ha1.blk
     have hoi : OwnI B (w2.alloc (.cells #[.string d.name, .int .i64 2, .int .i64 1, .int .i64 x0, .int .i64 x1, .int .i64 x2, .slice A3 os.length c3] 49)) (.slice A3 os.length c3) os := own_lowerD (HO2.out.alloc _) (by have := HBA.out.size; have := HB.out; simp; omega)
     have hrm := ha1.rm.item (x := ((⟨d.name, 2, 1, x0, x1, x2, os⟩, A3, c3) : ItV)) HI1.out (fun y hy => (HI3.out y hy).below hbb) ho1 hg2 hrT hoi HHZ.out
     have had := AD.put (mt := mt) (V' := ⟨V.s, V.f, V.r, V.m, V.l, v1, V.u⟩) (m' := ⟨m.sT, m.fT, m.rT, m.mT, m.lT, m.iT ++ [⟨d.name, 2, 1, x0, x1, x2, os⟩], m.dT, m.oT, m.vT, m.aT, m.uT⟩) hb2 HAA.out.hB hrm (i := 6) (u := v1) rfl
     have f3 := hb2.frozen 6
     have q3 : w1.cell? ⟨br, 6, none⟩ = some V.i := hb2.cell 6
     have l3 := hb2.lt
     have hkx := ((KX.of_below HBA.out).trans (KX.of_below hbb)).trans ((KX.row hg2 hrT (by decide)).trans (KX.set_ hb2 (by decide) 6 v1))
     have hbw : Below B w (w1.setCell ⟨br, 6, none⟩ v1) := ((HBA.out.mono HB.out).trans hsb2.2.2.2).setCell (p := ⟨br, 6, none⟩) HAA.out.hB v1
     have HFIN := hide (And.intro had (And.intro hbw hkx))
     have HSB2 := hide hsb2
     have HSB3 := hide (HKP.out w1 (w1.setCell ⟨br, 6, none⟩ v1) (some br) 53 hsb2 (But.set_ (B := w1.heap.size) w1 6 v1).grown (fun g e => by cases e; exact ⟨_, hb2⟩) (by decide) (by decide) (by decide) (fun g e => by cases e; exact HAA.out.hB))
     obtain ⟨A9, c9, e9, _, _⟩ := ho1.form
     obtain ⟨n9, hn9⟩ : ∃ n9, n9 = (LI ++ [((⟨d.name, 2, 1, x0, x1, x2, os⟩, A3, c3) : ItV)]).length := ⟨_, rfl⟩
     rw [← hn9] at e9
     subst e9
     clear hn9 ho1 hg1 hv1 hbb ha1 hg2 hrT hlo hsb2 hb2 hrm had hkx hbw hi2 hoi
     (try dsimp only)
     refine hK.out _ _ (HSB.out _ HSB2.out) (fun hHeld => ?_)
     clear hK K
     refine wpAnyH_take (i := 10) (oi := _) (v := ?_) rfl (by kernel_rfl) (by kernel_rfl) (by kernel_rfl) (fun _ _ _ h => h) (Or.inl ⟨by rfl, ?_⟩) hHeld ?_
     rotate_left
     · intro W hSw; (try dsimp only at hSw); go_simp; try with_reducible rfl
     simp only [Act.put, List.getElem_toArray, List.getElem_cons_succ, List.getElem_cons_zero, List.setIfInBounds_toArray, List.set_cons_zero, List.set_cons_succ]
     refine wpAnyH_take (i := 11) (oi := _) (v := ?_) rfl (by kernel_rfl) (by kernel_rfl) (by kernel_rfl) (fun _ _ _ h => h) (Or.inl ⟨by rfl, ?_⟩) hHeld ?_
     rotate_left
     · intro W hSw; (try dsimp only at hSw); go_simp; try with_reducible rfl
     simp only [Act.put, List.getElem_toArray, List.getElem_cons_succ, List.getElem_cons_zero, List.setIfInBounds_toArray, List.set_cons_zero, List.set_cons_succ]
     refine wpAnyH_ready (rs := [12]) (by kernel_rfl) (by simp) ?_
     refine AllReadyH.cons rfl (fun K hK => ?_) AllReadyH.nil
     go_simp
     refine hK.out _ _ (HSB.out _ HSB3.out) (fun hHeld => ?_)
     clear hK K
     refine wpAnyH_done (by kernel_rfl) ?_ _
     go_wp2_with fail
     go_end0
     exact ⟨rfl, ⟨_, HFIN.out.1⟩, HFIN.out.2.1, HFIN.out.2.2⟩
   · go_simp
     refine hK.out _ _ (HSB.out _ HS3.out) (fun hHeld => ?_)
     clear hK K
     refine wpAnyH_ready (rs := [4]) (by kernel_rfl) (by simp) ?_
     refine AllReadyH.cons rfl (fun K hK => ?_) AllReadyH.nil
     go_simp
     refine hK.out _ _ (HSB.out _ HS3.out) (fun hHeld => ?_)
     clear hK K
     refine wpAnyH_ready (rs := [9]) (by kernel_rfl) (by simp) ?_
     refine AllReadyH.cons rfl (fun K hK => ?_) AllReadyH.nil
     refine step_append_el okItem rfl _ _ rfl B (.slice A0 nL c0) LI rfl ((show OwnE_ elItem B wa (.slice A0 nL c0) LI from by rw [HNL.out, ← HER.out]; exact HI2.out).below (HB2.out.alloc HB2.out.size _)) _ _ 1 1 [((⟨d.name, 2, 1, x0, x1, x2, os⟩, A3, c3) : ItV)] rfl (Reads.newE (E := elItem) w2 ((⟨d.name, 2, 1, x0, x1, x2, os⟩, A3, c3) : ItV)) rfl (by rw [← HNL.out]; have := HLL.out; simp; omega) (by have := HBA.out.size; have := HB.out; have := HB2.out.size; simp; omega) ?_
     intro v1 w1 ho1 hg1 hv1
     have hbb := HB2.out.alloc HB2.out.size (.cells #[.string d.name, .int .i64 2, .int .i64 1, .int .i64 x0, .int .i64 x1, .int .i64 x2, .slice A3 os.length c3] 49)
     have ha1 := HAA.out.below hbb
     have hg2 : (w2.alloc (.cells #[.string d.name, .int .i64 2, .int .i64 1, .int .i64 x0, .int .i64 x1, .int .i64 x2, .slice A3 os.length c3] 49)).grownBy w1 V.i.ownBlock := by rw [HER.out, ← HNL.out]; exact ⟨hg1.os, hg1.tape, hg1.output, hg1.size, hg1.block⟩
     have hi2 := HI2.out.below hbb
     have hrT : RowT (w2.alloc (.cells #[.string d.name, .int .i64 2, .int .i64 1, .int .i64 x0, .int .i64 x1, .int .i64 x2, .slice A3 os.length c3] 49)) V.i.ownBlock 49 := RowT.own hi2
     have hlo : ∀ g, V.i.ownBlock = some g → B ≤ g := fun g e => (hi2.lt g e).1
     have hsb2 := HKP.out _ w1 _ _ HS3.out hg2 hrT (by decide) (by decide) (by decide) hlo
     have hb2 : Blk w1 br 53 (resC mt V m) := (hg2.block br ha1.blk.lt (fun e => by obtain ⟨cs, hb⟩ := hrT _ e.symm; have := ha1.blk.symm.trans hb; first | (simp at this; done) | (simp at this; exact absurd this.2 (by decide)))).trans ha1.blk
     have hoi : OwnI B (w2.alloc (.cells #[.string d.name, .int .i64 2, .int .i64 1, .int .i64 x0, .int .i64 x1, .int .i64 x2, .slice A3 os.length c3] 49)) (.slice A3 os.length c3) os := own_lowerD (HO2.out.alloc _) (by have := HBA.out.size; have := HB.out; simp; omega)
     have hrm := ha1.rm.item (x := ((⟨d.name, 2, 1, x0, x1, x2, os⟩, A3, c3) : ItV)) HI1.out (fun y hy => (HI3.out y hy).below hbb) ho1 hg2 hrT hoi HHZ.out
     have had := AD.put (mt := mt) (V' := ⟨V.s, V.f, V.r, V.m, V.l, v1, V.u⟩) (m' := ⟨m.sT, m.fT, m.rT, m.mT, m.lT, m.iT ++ [⟨d.name, 2, 1, x0, x1, x2, os⟩], m.dT, m.oT, m.vT, m.aT, m.uT⟩) hb2 HAA.out.hB hrm (i := 6) (u := v1) rfl
     have f3 := hb2.frozen 6
     have q3 : w1.cell? ⟨br, 6, none⟩ = some V.i := hb2.cell 6
     have l3 := hb2.lt
     have hkx := ((KX.of_below HBA.out).trans (KX.of_below hbb)).trans ((KX.row hg2 hrT (by decide)).trans (KX.set_ hb2 (by decide) 6 v1))
     have hbw : Below B w (w1.setCell ⟨br, 6, none⟩ v1) := ((HBA.out.mono HB.out).trans hsb2.2.2.2).setCell (p := ⟨br, 6, none⟩) HAA.out.hB v1
     have HFIN := hide (And.intro had (And.intro hbw hkx))
     have HSB2 := hide hsb2
     have HSB3 := hide (HKP.out w1 (w1.setCell ⟨br, 6, none⟩ v1) (some br) 53 hsb2 (But.set_ (B := w1.heap.size) w1 6 v1).grown (fun g e => by cases e; exact ⟨_, hb2⟩) (by decide) (by decide) (by decide) (fun g e => by cases e; exact HAA.out.hB))
     obtain ⟨A9, c9, e9, _, _⟩ := ho1.form
     obtain ⟨n9, hn9⟩ : ∃ n9, n9 = (LI ++ [((⟨d.name, 2, 1, x0, x1, x2, os⟩, A3, c3) : ItV)]).length := ⟨_, rfl⟩
     rw [← hn9] at e9
     subst e9
     clear hn9 ho1 hg1 hv1 hbb ha1 hg2 hrT hlo hsb2 hb2 hrm had hkx hbw hi2 hoi
     (try dsimp only)
     refine hK.out _ _ (HSB.out _ HSB2.out) (fun hHeld => ?_)
     clear hK K
     refine wpAnyH_take (i := 10) (oi := _) (v := ?_) rfl (by kernel_rfl) (by kernel_rfl) (by kernel_rfl) (fun _ _ _ h => h) (Or.inl ⟨by rfl, ?_⟩) hHeld ?_
     rotate_left
     · intro W hSw; (try dsimp only at hSw); go_simp; try with_reducible rfl
     simp only [Act.put, List.getElem_toArray, List.getElem_cons_succ, List.getElem_cons_zero, List.setIfInBounds_toArray, List.set_cons_zero, List.set_cons_succ]
     refine wpAnyH_take (i := 11) (oi := _) (v := ?_) rfl (by kernel_rfl) (by kernel_rfl) (by kernel_rfl) (fun _ _ _ h => h) (Or.inl ⟨by rfl, ?_⟩) hHeld ?_
     rotate_left
     · intro W hSw; (try dsimp only at hSw); go_simp; try with_reducible rfl
     simp only [Act.put, List.getElem_toArray, List.getElem_cons_succ, List.getElem_cons_zero, List.setIfInBounds_toArray, List.set_cons_zero, List.set_cons_succ]
     refine wpAnyH_ready (rs := [12]) (by kernel_rfl) (by simp) ?_
     refine AllReadyH.cons rfl (fun K hK => ?_) AllReadyH.nil
     go_simp
     refine hK.out _ _ (HSB.out _ HSB3.out) (fun hHeld => ?_)
     clear hK K
     refine wpAnyH_done (by kernel_rfl) ?_ _
     go_wp2_with fail
     go_end0
     exact ⟨rfl, ⟨_, HFIN.out.1⟩, HFIN.out.2.1, HFIN.out.2.2⟩
end Go.Proofs.YtcfogipaadhbeaaGreatDoor
