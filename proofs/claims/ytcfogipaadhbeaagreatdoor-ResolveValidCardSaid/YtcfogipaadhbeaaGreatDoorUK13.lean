/- A part of the claim: see its last text. -/
import Derived.Test.YtcfogipaadhbeaaGreatDoorUK06
import Derived.Deep.RegionHeld3

set_option maxRecDepth 100000
set_option maxHeartbeats 16000000
namespace Go.Proofs.YtcfogipaadhbeaaGreatDoor
open Go Go.RowKit Go.Proofs
theorem RM.num {B : Nat} {w : World} {V : MV} {m : Mod} (h : RM B w V m) (dk sl rs fl : Int) : RM B w V ⟨m.sT, m.fT, m.rT, m.mT, m.lT, m.iT, dk, sl, rs, fl, m.uT⟩ := ⟨h.s, h.f, h.sf, h.r, h.mc, h.l, h.i, h.u, h.small⟩
theorem add9_prog (B br mt bm : Nat) (V : MV) (m : Mod) (d : Decl) (ra na An : Option Addr) (rc nc cn Bn : Nat) (ns : List Int) (n0 q0 q1 : Int) (w : World) (hA : AD B br mt w V m) (hB : B ≤ w.heap.size) (hbm : Blk w bm 92 #[.pointer (some ⟨br, 1, none⟩)])
    (hn : OwnI Bn w (.slice An ns.length cn) ns) (h0 : ns[0]? = some n0) (hq : Ints w B na d.nums) (hq0 : d.nums[0]? = some q0) (hq1 : d.nums[1]? = some q1) :
    Calls Tryz.prog 60 #[.agg #[.int .i64 d.kind, .string d.name, .slice ra d.refs.length rc, .slice na d.nums.length nc, .int .i64 d.by_, .bool d.always], .slice An ns.length cn, .pointer (some ⟨bm, 0, none⟩)] w
     (AdnQ B br mt w ⟨m.sT, m.fT, m.rT, m.mT, m.lT, m.iT, n0, q0, q1, m.aT, m.uT⟩) := by
 obtain ⟨wa, hwa⟩ : ∃ wa, wa = w.alloc (.cells #[.int .i64 d.kind, .string d.name, .slice ra d.refs.length rc, .slice na d.nums.length nc, .int .i64 d.by_, .bool d.always] 43) := ⟨_, rfl⟩
 have hba : Below w.heap.size w wa := by rw [hwa]; exact (Below.refl _ _).alloc (Nat.le_refl _) _
 have HXA := hide (show Blk wa w.heap.size 43 _ from by rw [hwa]; exact Blk.new w _ _)
 have HAA := hide (hA.below hba)
 have HBM := hide (hbm.below hba hbm.lt)
 have HBA := hide hba
 have HB := hide hB
 have hl1 : 0 < ns.length := (List.getElem?_eq_some_iff.1 h0).1
 rcases hn.2 with ⟨_, h00⟩ | ⟨b, cap, cur, e, _, hcur, _, _, _, htk⟩
 · omega
 injection e with e1 e2 e3
 subst e1
 have hBN : Blk w b 3 cur := hcur
 have HBN := hide (hBN.below hba hBN.lt)
 have HC0 := hide (show cur[0]? = some (Value.int .i64 n0) from by
  have : (cur.toList.take (ns.length * 1))[0]? = (ns.map (Value.int .i64))[0]? := by rw [htk]
  rw [List.getElem?_take_of_lt (by omega), Array.getElem?_toList] at this
  rw [this]; simp [h0])
 obtain ⟨nn, hnn⟩ : ∃ nn, nn = ns.length := ⟨_, rfl⟩
 rw [← hnn] at hl1
 rw [← hnn]
 have hl0I : (0 : Int) < (nn : Int) := by omega
 have hqlen : 1 < d.nums.length := (List.getElem?_eq_some_iff.1 hq1).1
 obtain ⟨bq, oq, hqA, hqb, yq⟩ := int_at (hq.below (hba.mono hB)) (k := 0) (by omega)
 have HQ0 := hide (show wa.cell? ⟨bq, oq, none⟩ = some (.int .i64 q0) from by
  rw [List.getElem?_eq_getElem (by omega)] at hq0
  rw [show oq = oq + 0 from rfl, yq, Option.some.inj hq0])
 have HQ1 := hide (show wa.cell? ⟨bq, oq + 1, none⟩ = some (.int .i64 q1) from by
  obtain ⟨b', off', hA', _, y⟩ := int_at (hq.below (hba.mono hB)) (k := 1) hqlen
  rw [hqA] at hA'; cases hA'
  rw [List.getElem?_eq_getElem hqlen] at hq1
  rw [y, Option.some.inj hq1])
 have HQB := hide hqb
 obtain ⟨nq, hnq⟩ : ∃ nq, nq = d.nums.length := ⟨_, rfl⟩
 rw [← hnq] at hqlen HXA hwa
 rw [← hnq]
 have hq1I : (1 : Int) < (nq : Int) := by omega
 have hq0I : (0 : Int) < (nq : Int) := by omega
 have hq0N : 0 < nq := by omega
 subst hqA
 have HWA := hide hwa
 have HSB := hide (fun (W : World) (h : Blk W bm 92 #[.pointer (some ⟨br, 1, none⟩)] ∧ Blk W w.heap.size 43 #[.int .i64 d.kind, .string d.name, .slice ra d.refs.length rc, .slice (some ⟨bq, oq, none⟩) nq nc, .int .i64 d.by_, .bool d.always] ∧ Below B wa W ∧ Blk W b 3 cur) => (⟨⟨h.1.cell 0, (h.2.2.2.cell 0).trans HC0.out, h.2.1.cell 3, (h.2.2.1.cell HQB.out).trans HQ0.out, (h.2.2.1.cell HQB.out).trans HQ1.out⟩, h⟩ : (W.cell? ⟨bm, 0, none⟩ = some (.pointer (some ⟨br, 1, none⟩)) ∧ W.cell? ⟨b, 0, none⟩ = some (.int .i64 n0) ∧ W.cell? ⟨w.heap.size, 3, none⟩ = some (.slice (some ⟨bq, oq, none⟩) nq nc) ∧ W.cell? ⟨bq, oq, none⟩ = some (.int .i64 q0) ∧ W.cell? ⟨bq, oq + 1, none⟩ = some (.int .i64 q1)) ∧ Blk W bm 92 #[.pointer (some ⟨br, 1, none⟩)] ∧ Blk W w.heap.size 43 #[.int .i64 d.kind, .string d.name, .slice ra d.refs.length rc, .slice (some ⟨bq, oq, none⟩) nq nc, .int .i64 d.by_, .bool d.always] ∧ Below B wa W ∧ Blk W b 3 cur))
 have hkp := fun (W W' : World) (row : Option Nat) (T : TypeId) (h : Blk W bm 92 #[.pointer (some ⟨br, 1, none⟩)] ∧ Blk W w.heap.size 43 #[.int .i64 d.kind, .string d.name, .slice ra d.refs.length rc, .slice (some ⟨bq, oq, none⟩) nq nc, .int .i64 d.by_, .bool d.always] ∧ Below B wa W ∧ Blk W b 3 cur) (hg : W.grownBy W' row) (hT : RowT W row T) (hn1 : ¬ 92 = T) (hn2 : ¬ 43 = T) (hn3 : ¬ 3 = T) (hr : ∀ g, row = some g → B ≤ g) => (⟨(hg.block _ h.1.lt (fun e => by obtain ⟨cs, hb⟩ := hT _ e.symm; have := h.1.symm.trans hb; simp at this; exact hn1 this.2)).trans h.1, (hg.block _ h.2.1.lt (fun e => by obtain ⟨cs, hb⟩ := hT _ e.symm; have := h.2.1.symm.trans hb; simp at this; exact hn2 this.2)).trans h.2.1, h.2.2.1.grown hg (Nat.le_trans (Nat.le_trans HB.out HBA.out.size) h.2.2.1.size) hr, (hg.block _ h.2.2.2.lt (fun e => by obtain ⟨cs, hb⟩ := hT _ e.symm; have := h.2.2.2.symm.trans hb; simp at this; exact hn3 this.2)).trans h.2.2.2⟩ : Blk W' bm 92 #[.pointer (some ⟨br, 1, none⟩)] ∧ Blk W' w.heap.size 43 #[.int .i64 d.kind, .string d.name, .slice ra d.refs.length rc, .slice (some ⟨bq, oq, none⟩) nq nc, .int .i64 d.by_, .bool d.always] ∧ Below B wa W' ∧ Blk W' b 3 cur)
 have hs0 : Blk (wa.drew) bm 92 #[.pointer (some ⟨br, 1, none⟩)] ∧ Blk (wa.drew) w.heap.size 43 #[.int .i64 d.kind, .string d.name, .slice ra d.refs.length rc, .slice (some ⟨bq, oq, none⟩) nq nc, .int .i64 d.by_, .bool d.always] ∧ Below B wa (wa.drew) ∧ Blk (wa.drew) b 3 cur := ⟨HBM.out, HXA.out, (Below.refl _ _).drew, HBN.out⟩
 have hb0 : Blk wa.drew br 53 (resC mt V m) := HAA.out.blk
 have hs1 : Blk ((wa.drew.setCell ⟨br, 7, none⟩ (.int .i64 n0))) bm 92 #[.pointer (some ⟨br, 1, none⟩)] ∧ Blk ((wa.drew.setCell ⟨br, 7, none⟩ (.int .i64 n0))) w.heap.size 43 #[.int .i64 d.kind, .string d.name, .slice ra d.refs.length rc, .slice (some ⟨bq, oq, none⟩) nq nc, .int .i64 d.by_, .bool d.always] ∧ Below B wa ((wa.drew.setCell ⟨br, 7, none⟩ (.int .i64 n0))) ∧ Blk ((wa.drew.setCell ⟨br, 7, none⟩ (.int .i64 n0))) b 3 cur := hkp wa.drew (wa.drew.setCell ⟨br, 7, none⟩ (.int .i64 n0)) (some br) 53 hs0 (But.set_ (B := wa.drew.heap.size) wa.drew 7 _).grown (fun g e => by cases e; exact ⟨_, hb0⟩) (by decide) (by decide) (by decide) (fun g e => by cases e; exact HAA.out.hB)
 have hb1 := hb0.set_ 7 (.int .i64 n0)
 have hs2 : Blk (((wa.drew.setCell ⟨br, 7, none⟩ (.int .i64 n0)).setCell ⟨br, 8, none⟩ (.int .i64 q0))) bm 92 #[.pointer (some ⟨br, 1, none⟩)] ∧ Blk (((wa.drew.setCell ⟨br, 7, none⟩ (.int .i64 n0)).setCell ⟨br, 8, none⟩ (.int .i64 q0))) w.heap.size 43 #[.int .i64 d.kind, .string d.name, .slice ra d.refs.length rc, .slice (some ⟨bq, oq, none⟩) nq nc, .int .i64 d.by_, .bool d.always] ∧ Below B wa (((wa.drew.setCell ⟨br, 7, none⟩ (.int .i64 n0)).setCell ⟨br, 8, none⟩ (.int .i64 q0))) ∧ Blk (((wa.drew.setCell ⟨br, 7, none⟩ (.int .i64 n0)).setCell ⟨br, 8, none⟩ (.int .i64 q0))) b 3 cur := hkp (wa.drew.setCell ⟨br, 7, none⟩ (.int .i64 n0)) ((wa.drew.setCell ⟨br, 7, none⟩ (.int .i64 n0)).setCell ⟨br, 8, none⟩ (.int .i64 q0)) (some br) 53 hs1 (But.set_ (B := (wa.drew.setCell ⟨br, 7, none⟩ (.int .i64 n0)).heap.size) (wa.drew.setCell ⟨br, 7, none⟩ (.int .i64 n0)) 8 _).grown (fun g e => by cases e; exact ⟨_, hb1⟩) (by decide) (by decide) (by decide) (fun g e => by cases e; exact HAA.out.hB)
 have hb2 := hb1.set_ 8 (.int .i64 q0)
 have hs3 : Blk ((((wa.drew.setCell ⟨br, 7, none⟩ (.int .i64 n0)).setCell ⟨br, 8, none⟩ (.int .i64 q0)).setCell ⟨br, 9, none⟩ (.int .i64 q1))) bm 92 #[.pointer (some ⟨br, 1, none⟩)] ∧ Blk ((((wa.drew.setCell ⟨br, 7, none⟩ (.int .i64 n0)).setCell ⟨br, 8, none⟩ (.int .i64 q0)).setCell ⟨br, 9, none⟩ (.int .i64 q1))) w.heap.size 43 #[.int .i64 d.kind, .string d.name, .slice ra d.refs.length rc, .slice (some ⟨bq, oq, none⟩) nq nc, .int .i64 d.by_, .bool d.always] ∧ Below B wa ((((wa.drew.setCell ⟨br, 7, none⟩ (.int .i64 n0)).setCell ⟨br, 8, none⟩ (.int .i64 q0)).setCell ⟨br, 9, none⟩ (.int .i64 q1))) ∧ Blk ((((wa.drew.setCell ⟨br, 7, none⟩ (.int .i64 n0)).setCell ⟨br, 8, none⟩ (.int .i64 q0)).setCell ⟨br, 9, none⟩ (.int .i64 q1))) b 3 cur := hkp ((wa.drew.setCell ⟨br, 7, none⟩ (.int .i64 n0)).setCell ⟨br, 8, none⟩ (.int .i64 q0)) (((wa.drew.setCell ⟨br, 7, none⟩ (.int .i64 n0)).setCell ⟨br, 8, none⟩ (.int .i64 q0)).setCell ⟨br, 9, none⟩ (.int .i64 q1)) (some br) 53 hs2 (But.set_ (B := ((wa.drew.setCell ⟨br, 7, none⟩ (.int .i64 n0)).setCell ⟨br, 8, none⟩ (.int .i64 q0)).heap.size) ((wa.drew.setCell ⟨br, 7, none⟩ (.int .i64 n0)).setCell ⟨br, 8, none⟩ (.int .i64 q0)) 9 _).grown (fun g e => by cases e; exact ⟨_, hb2⟩) (by decide) (by decide) (by decide) (fun g e => by cases e; exact HAA.out.hB)
 have hb3 := hb2.set_ 9 (.int .i64 q1)
 have HS0 := hide hs0
 have HS1 := hide hs1
 have HS2 := hide hs2
 have HS3 := hide hs3
 have f0 := HAA.out.blk.frozen 7
 have f1 := HAA.out.blk.frozen 8
 have f2 := HAA.out.blk.frozen 9
 have g0 := HAA.out.blk.cell 7
 have g1 := HAA.out.blk.cell 8
 have g2 := HAA.out.blk.cell 9
 simp [resC] at g0 g1 g2
 have l0 := HAA.out.blk.lt
 have hrm := (((HAA.out.rm.below (Below.refl _ wa).drew).put hb0 (by decide) 7 (.int .i64 n0)).put hb1 (by decide) 8 (.int .i64 q0)).put hb2 (by decide) 9 (.int .i64 q1)
 have HFIN := hide (show (∃ V', AD B br mt (((wa.drew.setCell ⟨br, 7, none⟩ (.int .i64 n0)).setCell ⟨br, 8, none⟩ (.int .i64 q0)).setCell ⟨br, 9, none⟩ (.int .i64 q1)) V' ⟨m.sT, m.fT, m.rT, m.mT, m.lT, m.iT, n0, q0, q1, m.aT, m.uT⟩) ∧ Below B w (((wa.drew.setCell ⟨br, 7, none⟩ (.int .i64 n0)).setCell ⟨br, 8, none⟩ (.int .i64 q0)).setCell ⟨br, 9, none⟩ (.int .i64 q1)) ∧ KX w (((wa.drew.setCell ⟨br, 7, none⟩ (.int .i64 n0)).setCell ⟨br, 8, none⟩ (.int .i64 q0)).setCell ⟨br, 9, none⟩ (.int .i64 q1)) from
  ⟨⟨V, hb3, hrm.num _ _ _ _, HAA.out.hB⟩, (HBA.out.mono HB.out).trans hs3.2.2.1, ((KX.of_below HBA.out).trans (KX.of_below (Below.refl _ wa).drew)).trans (((KX.set_ hb0 (by decide) 7 _).trans (KX.set_ hb1 (by decide) 8 _)).trans (KX.set_ hb2 (by decide) 9 _))⟩)
 clear hs0 hs1 hs2 hs3 hb0 hb1 hb2 hb3 hrm hkp hwa hba hA hbm hB hn h0 hq hq0 hq1 hcur htk hBN e2 e3 hnn hnq hqb yq
 go_enter Tryz.func60, Tryz.ntmps60
 go_upto_region 1 with (fail)
 rw [show (w.alloc (.cells #[.int .i64 d.kind, .string d.name, .slice ra d.refs.length rc, .slice (some ⟨bq, oq, none⟩) nq nc, .int .i64 d.by_, .bool d.always] 43)) = wa from HWA.out.symm]
 refine wp_region_held_drew (S := (fun W => (W.cell? ⟨bm, 0, none⟩ = some (.pointer (some ⟨br, 1, none⟩)) ∧ W.cell? ⟨b, 0, none⟩ = some (.int .i64 n0) ∧ W.cell? ⟨w.heap.size, 3, none⟩ = some (.slice (some ⟨bq, oq, none⟩) nq nc) ∧ W.cell? ⟨bq, oq, none⟩ = some (.int .i64 q0) ∧ W.cell? ⟨bq, oq + 1, none⟩ = some (.int .i64 q1)) ∧ Blk W bm 92 #[.pointer (some ⟨br, 1, none⟩)] ∧ Blk W w.heap.size 43 #[.int .i64 d.kind, .string d.name, .slice ra d.refs.length rc, .slice (some ⟨bq, oq, none⟩) nq nc, .int .i64 d.by_, .bool d.always] ∧ Below B wa W ∧ Blk W b 3 cur)) (by kernel_rfl) (HSB.out _ HS0.out) (fun hHeld => ?_)
 refine wpAnyH_take (i := 0) (oi := _) (v := ?_) rfl (by kernel_rfl) (by kernel_rfl) (by kernel_rfl) (fun _ _ _ h => h) (Or.inl ⟨by rfl, ?_⟩) hHeld ?_
 rotate_left
 · intro W hSw; (try dsimp only at hSw); go_simp; try with_reducible rfl
 simp only [Act.put, List.getElem_toArray, List.getElem_cons_zero, List.setIfInBounds_toArray, List.set_cons_zero, List.set_cons_succ]
 refine wpAnyH_take (i := 1) (oi := _) (v := ?_) rfl (by kernel_rfl) (by kernel_rfl) (by kernel_rfl) (fun _ _ _ h => h) (Or.inl ⟨by rfl, ?_⟩) hHeld ?_
 rotate_left
 · intro W hSw; (try dsimp only at hSw); go_simp; try with_reducible rfl
 simp only [Act.put, List.getElem_toArray, List.getElem_cons_succ, List.getElem_cons_zero, List.setIfInBounds_toArray, List.set_cons_zero, List.set_cons_succ]
 refine wpAnyH_take (i := 2) (oi := _) (v := ?_) rfl (by kernel_rfl) (by kernel_rfl) (by kernel_rfl) (fun _ _ _ h => h) (Or.inl ⟨by rfl, ?_⟩) hHeld ?_
 rotate_left
 · intro W hSw; (try dsimp only at hSw); go_simp; try with_reducible rfl
 simp only [Act.put, List.getElem_toArray, List.getElem_cons_succ, List.getElem_cons_zero, List.setIfInBounds_toArray, List.set_cons_zero, List.set_cons_succ]
 refine wpAnyH_take (i := 3) (oi := _) (v := ?_) rfl (by kernel_rfl) (by kernel_rfl) (by kernel_rfl) (fun _ _ _ h => h) (Or.inl ⟨by rfl, ?_⟩) hHeld ?_
 rotate_left
 · intro W hSw; (try dsimp only at hSw); go_simp; try with_reducible rfl
 simp only [Act.put, List.getElem_toArray, List.getElem_cons_succ, List.getElem_cons_zero, List.setIfInBounds_toArray, List.set_cons_zero, List.set_cons_succ]
 refine wpAnyH_take (i := 4) (oi := _) (v := ?_) rfl (by kernel_rfl) (by kernel_rfl) (by kernel_rfl) (fun _ _ _ h => h) (Or.inl ⟨by rfl, ?_⟩) hHeld ?_
 rotate_left
 · intro W hSw; (try dsimp only at hSw); go_simp; try with_reducible rfl
 simp only [Act.put, List.getElem_toArray, List.getElem_cons_succ, List.getElem_cons_zero, List.setIfInBounds_toArray, List.set_cons_zero, List.set_cons_succ]
 refine wpAnyH_take (i := 5) (oi := _) (v := ?_) rfl (by kernel_rfl) (by kernel_rfl) (by kernel_rfl) (fun _ _ _ h => h) (Or.inl ⟨by rfl, ?_⟩) hHeld ?_
 rotate_left
 · intro W hSw; (try dsimp only at hSw); go_simp; try with_reducible rfl
 simp only [Act.put, List.getElem_toArray, List.getElem_cons_succ, List.getElem_cons_zero, List.setIfInBounds_toArray, List.set_cons_zero, List.set_cons_succ]
 refine wpAnyH_take (i := 6) (oi := _) (v := ?_) rfl (by kernel_rfl) (by kernel_rfl) (by kernel_rfl) (fun _ _ _ h => h) (Or.inl ⟨by rfl, ?_⟩) hHeld ?_
 rotate_left
 · intro W hSw; (try dsimp only at hSw); go_simp; try with_reducible rfl
 simp only [Act.put, List.getElem_toArray, List.getElem_cons_succ, List.getElem_cons_zero, List.setIfInBounds_toArray, List.set_cons_zero, List.set_cons_succ]
 refine wpAnyH_take (i := 7) (oi := _) (v := ?_) rfl (by kernel_rfl) (by kernel_rfl) (by kernel_rfl) (fun _ _ _ h => h) (Or.inl ⟨by rfl, ?_⟩) hHeld ?_
 rotate_left
 · intro W hSw; (try dsimp only at hSw); go_simp; try with_reducible rfl
 simp only [Act.put, List.getElem_toArray, List.getElem_cons_succ, List.getElem_cons_zero, List.setIfInBounds_toArray, List.set_cons_zero, List.set_cons_succ]
 refine wpAnyH_take (i := 8) (oi := _) (v := ?_) rfl (by kernel_rfl) (by kernel_rfl) (by kernel_rfl) (fun _ _ _ h => h) (Or.inl ⟨by rfl, ?_⟩) hHeld ?_
 rotate_left
 · intro W hSw; (try dsimp only at hSw); go_simp; try with_reducible rfl
 simp only [Act.put, List.getElem_toArray, List.getElem_cons_succ, List.getElem_cons_zero, List.setIfInBounds_toArray, List.set_cons_zero, List.set_cons_succ]
 refine wpAnyH_take (i := 9) (oi := _) (v := ?_) rfl (by kernel_rfl) (by kernel_rfl) (by kernel_rfl) (fun _ _ _ h => h) (Or.inl ⟨by rfl, ?_⟩) hHeld ?_
 rotate_left
 · intro W hSw; (try dsimp only at hSw); go_simp; try with_reducible rfl
 simp only [Act.put, List.getElem_toArray, List.getElem_cons_succ, List.getElem_cons_zero, List.setIfInBounds_toArray, List.set_cons_zero, List.set_cons_succ]
 refine wpAnyH_take (i := 10) (oi := _) (v := ?_) rfl (by kernel_rfl) (by kernel_rfl) (by kernel_rfl) (fun _ _ _ h => h) (Or.inl ⟨by rfl, ?_⟩) hHeld ?_
 rotate_left
 · intro W hSw; (try dsimp only at hSw); go_simp; try with_reducible rfl
 simp only [Act.put, List.getElem_toArray, List.getElem_cons_succ, List.getElem_cons_zero, List.setIfInBounds_toArray, List.set_cons_zero, List.set_cons_succ]
 refine wpAnyH_take (i := 11) (oi := _) (v := ?_) rfl (by kernel_rfl) (by kernel_rfl) (by kernel_rfl) (fun _ _ _ h => h) (Or.inl ⟨by rfl, ?_⟩) hHeld ?_
 rotate_left
 · intro W hSw; (try dsimp only at hSw); go_simp; try with_reducible rfl
 simp only [Act.put, List.getElem_toArray, List.getElem_cons_succ, List.getElem_cons_zero, List.setIfInBounds_toArray, List.set_cons_zero, List.set_cons_succ]
 refine wpAnyH_take (i := 12) (oi := _) (v := ?_) rfl (by kernel_rfl) (by kernel_rfl) (by kernel_rfl) (fun _ _ _ h => h) (Or.inl ⟨by rfl, ?_⟩) hHeld ?_
 rotate_left
 · intro W hSw; (try dsimp only at hSw); go_simp; try with_reducible rfl
 simp only [Act.put, List.getElem_toArray, List.getElem_cons_succ, List.getElem_cons_zero, List.setIfInBounds_toArray, List.set_cons_zero, List.set_cons_succ]
 refine wpAnyH_take (i := 13) (oi := _) (v := ?_) rfl (by kernel_rfl) (by kernel_rfl) (by kernel_rfl) (fun _ _ _ h => h) (Or.inl ⟨by rfl, ?_⟩) hHeld ?_
 rotate_left
 · intro W hSw; (try dsimp only at hSw); go_simp; try with_reducible rfl
 simp only [Act.put, List.getElem_toArray, List.getElem_cons_succ, List.getElem_cons_zero, List.setIfInBounds_toArray, List.set_cons_zero, List.set_cons_succ]
 refine wpAnyH_take (i := 14) (oi := _) (v := ?_) rfl (by kernel_rfl) (by kernel_rfl) (by kernel_rfl) (fun _ _ _ h => h) (Or.inl ⟨by rfl, ?_⟩) hHeld ?_
 rotate_left
 · intro W hSw; (try dsimp only at hSw); go_simp; try with_reducible rfl
 simp only [Act.put, List.getElem_toArray, List.getElem_cons_succ, List.getElem_cons_zero, List.setIfInBounds_toArray, List.set_cons_zero, List.set_cons_succ]
 refine wpAnyH_take (i := 15) (oi := _) (v := ?_) rfl (by kernel_rfl) (by kernel_rfl) (by kernel_rfl) (fun _ _ _ h => h) (Or.inl ⟨by rfl, ?_⟩) hHeld ?_
 rotate_left
 · intro W hSw; (try dsimp only at hSw); go_simp; try with_reducible rfl
 simp only [Act.put, List.getElem_toArray, List.getElem_cons_succ, List.getElem_cons_zero, List.setIfInBounds_toArray, List.set_cons_zero, List.set_cons_succ]
 refine wpAnyH_ready (rs := [16]) (by kernel_rfl) (by simp) ?_
 refine AllReadyH.cons rfl (fun K hK => ?_) AllReadyH.nil
 go_simp
 refine hK.out _ _ (HSB.out _ HS1.out) (fun hHeld => ?_)
 clear hK K
 refine wpAnyH_take (i := 17) (oi := _) (v := ?_) rfl (by kernel_rfl) (by kernel_rfl) (by kernel_rfl) (fun _ _ _ h => h) (Or.inl ⟨by rfl, ?_⟩) hHeld ?_
 rotate_left
 · intro W hSw; (try dsimp only at hSw); go_simp; try with_reducible rfl
 simp only [Act.put, List.getElem_toArray, List.getElem_cons_succ, List.getElem_cons_zero, List.setIfInBounds_toArray, List.set_cons_zero, List.set_cons_succ]
 refine wpAnyH_take (i := 18) (oi := _) (v := ?_) rfl (by kernel_rfl) (by kernel_rfl) (by kernel_rfl) (fun _ _ _ h => h) (Or.inl ⟨by rfl, ?_⟩) hHeld ?_
 rotate_left
 · intro W hSw; (try dsimp only at hSw); go_simp; try with_reducible rfl
 simp only [Act.put, List.getElem_toArray, List.getElem_cons_succ, List.getElem_cons_zero, List.setIfInBounds_toArray, List.set_cons_zero, List.set_cons_succ]
 refine wpAnyH_ready (rs := [19]) (by kernel_rfl) (by simp) ?_
 refine AllReadyH.cons rfl (fun K hK => ?_) AllReadyH.nil
 go_simp
 refine hK.out _ _ (HSB.out _ HS2.out) (fun hHeld => ?_)
 clear hK K
 refine wpAnyH_take (i := 20) (oi := _) (v := ?_) rfl (by kernel_rfl) (by kernel_rfl) (by kernel_rfl) (fun _ _ _ h => h) (Or.inl ⟨by rfl, ?_⟩) hHeld ?_
 rotate_left
 · intro W hSw; (try dsimp only at hSw); go_simp; try with_reducible rfl
 simp only [Act.put, List.getElem_toArray, List.getElem_cons_succ, List.getElem_cons_zero, List.setIfInBounds_toArray, List.set_cons_zero, List.set_cons_succ]
 refine wpAnyH_take (i := 21) (oi := _) (v := ?_) rfl (by kernel_rfl) (by kernel_rfl) (by kernel_rfl) (fun _ _ _ h => h) (Or.inl ⟨by rfl, ?_⟩) hHeld ?_
 rotate_left
 · intro W hSw; (try dsimp only at hSw); go_simp; try with_reducible rfl
 simp only [Act.put, List.getElem_toArray, List.getElem_cons_succ, List.getElem_cons_zero, List.setIfInBounds_toArray, List.set_cons_zero, List.set_cons_succ]
 refine wpAnyH_ready (rs := [22]) (by kernel_rfl) (by simp) ?_
 refine AllReadyH.cons rfl (fun K hK => ?_) AllReadyH.nil
 go_simp
 refine hK.out _ _ (HSB.out _ HS3.out) (fun hHeld => ?_)
 clear hK K
 refine wpAnyH_done (by kernel_rfl) ?_ _
 go_wp2_with fail
 go_end0
 exact ⟨rfl, HFIN.out⟩
theorem add10_prog (B br mt bm : Nat) (V : MV) (m : Mod) (d : Decl) (ra na : Option Addr) (rc nc : Nat) (nv : Value) (w : World) (hA : AD B br mt w V m) (hB : B ≤ w.heap.size) (hbm : Blk w bm 92 #[.pointer (some ⟨br, 1, none⟩)]) :
    Calls Tryz.prog 61 #[.agg #[.int .i64 d.kind, .string d.name, .slice ra d.refs.length rc, .slice na d.nums.length nc, .int .i64 d.by_, .bool d.always], nv, .pointer (some ⟨bm, 0, none⟩)] w
     (AdnQ B br mt w ⟨m.sT, m.fT, m.rT, m.mT, m.lT, m.iT, m.dT, m.oT, m.vT, d.by_, m.uT⟩) := by
 obtain ⟨wa, hwa⟩ : ∃ wa, wa = w.alloc (.cells #[.int .i64 d.kind, .string d.name, .slice ra d.refs.length rc, .slice na d.nums.length nc, .int .i64 d.by_, .bool d.always] 43) := ⟨_, rfl⟩
 have hba : Below w.heap.size w wa := by rw [hwa]; exact (Below.refl _ _).alloc (Nat.le_refl _) _
 have hXA : Blk wa w.heap.size 43 #[.int .i64 d.kind, .string d.name, .slice ra d.refs.length rc, .slice na d.nums.length nc, .int .i64 d.by_, .bool d.always] := by rw [hwa]; exact Blk.new w _ _
 have hAA := hA.below hba
 have hBM := hbm.below hba hbm.lt
 have z4 := hXA.cell 4
 have zl := hXA.lt
 have y0 := hBM.cell 0
 have yl := hBM.lt
 simp at z4 y0
 have g0 := hAA.blk.cell 10
 have f0 := hAA.blk.frozen 10
 have l0 := hAA.blk.lt
 simp [resC] at g0
 have HWA := hide hwa
 have HFIN := hide (show (∃ V', AD B br mt (wa.setCell ⟨br, 10, none⟩ (.int .i64 d.by_)) V' ⟨m.sT, m.fT, m.rT, m.mT, m.lT, m.iT, m.dT, m.oT, m.vT, d.by_, m.uT⟩) ∧ Below B w (wa.setCell ⟨br, 10, none⟩ (.int .i64 d.by_)) ∧ KX w (wa.setCell ⟨br, 10, none⟩ (.int .i64 d.by_)) from
  ⟨⟨V, hAA.blk.set_ 10 _, (hAA.rm.put hAA.blk (by decide) 10 _).num _ _ _ _, hAA.hB⟩, (hba.mono hB).setCell (p := ⟨br, 10, none⟩) hAA.hB _, (KX.of_below hba).trans (KX.set_ hAA.blk (by decide) 10 _)⟩)
 clear hwa hba hXA hAA hBM hA hbm
 go_enter Tryz.func61, Tryz.ntmps61
 go_upto_region 1 with (fail)
 rw [show (w.alloc (.cells #[.int .i64 d.kind, .string d.name, .slice ra d.refs.length rc, .slice na d.nums.length nc, .int .i64 d.by_, .bool d.always] 43)) = wa from HWA.out.symm]
 go_wp2_with fail
 go_end0
 exact ⟨rfl, HFIN.out⟩
def adL (bm bx : Nat) : List (Int × Value) := [(0, .func (.func 51) #[] #[.pointer (some ⟨bm, 0, none⟩)]), (1, .func (.func 52) #[] #[.pointer (some ⟨bm, 0, none⟩)]), (2, .func (.func 53) #[] #[.pointer (some ⟨bm, 0, none⟩)]), (3, .func (.func 54) #[] #[.pointer (some ⟨bm, 0, none⟩)]), (4, .func (.func 55) #[] #[.pointer (some ⟨bm, 0, none⟩)]), (5, .func (.func 56) #[] #[.pointer (some ⟨bm, 0, none⟩), .pointer (some ⟨bx, 0, none⟩)]), (6, .func (.func 58) #[] #[.pointer (some ⟨bm, 0, none⟩), .pointer (some ⟨bx, 0, none⟩)]), (7, .func (.func 59) #[] #[.pointer (some ⟨bm, 0, none⟩), .pointer (some ⟨bx, 0, none⟩)]), (8, .func (.func 60) #[] #[.pointer (some ⟨bm, 0, none⟩)]), (9, .func (.func 61) #[] #[.pointer (some ⟨bm, 0, none⟩)])]
theorem adders_prog (br : Nat) (w : World) :
    Calls Tryz.prog 24 #[.pointer (some ⟨br, 0, none⟩)] w fun e w' => ∃ ma bm bx, e = .returned (.map (some ma)) ∧ w.heap.size ≤ ma ∧ AM keyInt w' ma (adL bm bx) ∧ Blk w' bm 92 #[.pointer (some ⟨br, 1, none⟩)] ∧ Blk w' bx 50 #[.pointer (some ⟨br, 0, none⟩)] ∧ Below w.heap.size w w' := by
 have hmm := @run_makeMap Tryz.prog
 go_enter Tryz.func24, Tryz.ntmps24
 go_wp2_with (first
  | (refine wpList_insert_new (es := #[]) (c := 0) (vv := .func (.func 51) #[] #[.pointer (some ⟨w.heap.size + 1, 0, none⟩)]) rfl rfl _ _ _ _ rfl Tryz.underlying56 Tryz.underlying3 rfl rfl (by simp) rfl rfl rfl ?_)
  | (refine wpList_insert_new (c := 1) (vv := .func (.func 52) #[] #[.pointer (some ⟨w.heap.size + 1, 0, none⟩)]) rfl rfl _ _ _ _ rfl Tryz.underlying56 Tryz.underlying3 rfl rfl (by simp) rfl rfl rfl ?_)
  | (refine wpList_insert_new (c := 2) (vv := .func (.func 53) #[] #[.pointer (some ⟨w.heap.size + 1, 0, none⟩)]) rfl rfl _ _ _ _ rfl Tryz.underlying56 Tryz.underlying3 rfl rfl (by simp) rfl rfl rfl ?_)
  | (refine wpList_insert_new (c := 3) (vv := .func (.func 54) #[] #[.pointer (some ⟨w.heap.size + 1, 0, none⟩)]) rfl rfl _ _ _ _ rfl Tryz.underlying56 Tryz.underlying3 rfl rfl (by simp) rfl rfl rfl ?_)
  | (refine wpList_insert_new (c := 4) (vv := .func (.func 55) #[] #[.pointer (some ⟨w.heap.size + 1, 0, none⟩)]) rfl rfl _ _ _ _ rfl Tryz.underlying56 Tryz.underlying3 rfl rfl (by simp) rfl rfl rfl ?_)
  | (refine wpList_insert_new (c := 5) (vv := .func (.func 56) #[] #[.pointer (some ⟨w.heap.size + 1, 0, none⟩), .pointer (some ⟨w.heap.size, 0, none⟩)]) rfl rfl _ _ _ _ rfl Tryz.underlying56 Tryz.underlying3 rfl rfl (by simp) rfl rfl rfl ?_)
  | (refine wpList_insert_new (c := 6) (vv := .func (.func 58) #[] #[.pointer (some ⟨w.heap.size + 1, 0, none⟩), .pointer (some ⟨w.heap.size, 0, none⟩)]) rfl rfl _ _ _ _ rfl Tryz.underlying56 Tryz.underlying3 rfl rfl (by simp) rfl rfl rfl ?_)
  | (refine wpList_insert_new (c := 7) (vv := .func (.func 59) #[] #[.pointer (some ⟨w.heap.size + 1, 0, none⟩), .pointer (some ⟨w.heap.size, 0, none⟩)]) rfl rfl _ _ _ _ rfl Tryz.underlying56 Tryz.underlying3 rfl rfl (by simp) rfl rfl rfl ?_)
  | (refine wpList_insert_new (c := 8) (vv := .func (.func 60) #[] #[.pointer (some ⟨w.heap.size + 1, 0, none⟩)]) rfl rfl _ _ _ _ rfl Tryz.underlying56 Tryz.underlying3 rfl rfl (by simp) rfl rfl rfl ?_)
  | (refine wpList_insert_new (c := 9) (vv := .func (.func 61) #[] #[.pointer (some ⟨w.heap.size + 1, 0, none⟩)]) rfl rfl _ _ _ _ rfl Tryz.underlying56 Tryz.underlying3 rfl rfl (by simp) rfl rfl rfl ?_))
 go_ret
 have h1 := (Below.refl w.heap.size w).alloc (Nat.le_refl _) (.cells #[.pointer (some ⟨br, 0, none⟩)] 50)
 have h2 := h1.alloc h1.size (.cells #[.pointer (some ⟨br, 1, none⟩)] 92)
 have hA : ∀ (es : Array MapEntry) (c : Nat), KVs keyInt es.toList (adL (w.heap.size + 1) w.heap.size) → AM keyInt (((w.alloc (.cells #[.pointer (some ⟨br, 0, none⟩)] 50)).alloc (.cells #[.pointer (some ⟨br, 1, none⟩)] 92)).alloc (.map es c)) (w.heap.size + 2) (adL (w.heap.size + 1) w.heap.size) := fun es c h =>
  ⟨es, c, by have := heap_alloc_new ((w.alloc (.cells #[.pointer (some ⟨br, 0, none⟩)] 50)).alloc (.cells #[.pointer (some ⟨br, 1, none⟩)] 92)) (.map es c); simpa using this, h⟩
 refine ⟨w.heap.size + 2, w.heap.size + 1, w.heap.size, rfl, by omega, hA _ _ rfl, ?_, ?_, h2.alloc h2.size _⟩
 · have := (Blk.new (w.alloc (.cells #[.pointer (some ⟨br, 0, none⟩)] 50)) 92 #[.pointer (some ⟨br, 1, none⟩)])
   rw [World.size_alloc] at this
   exact this.alloc _
 · exact ((Blk.new w 50 #[.pointer (some ⟨br, 0, none⟩)]).alloc _).alloc _
end Go.Proofs.YtcfogipaadhbeaaGreatDoor
