/- A part of the claim: see its last text. -/
import Derived.Test.YtlnjaemdelnceaaGreatDoorUK22
import Derived.Test.YtlnjaemdelnceaaGreatDoorUK31
import Derived.Test.YtlnjaemdelnceaaGreatDoorUK30
import Derived.Test.YtlnjaemdelnceaaGreatDoorUK29
import Derived.Test.YtlnjaemdelnceaaGreatDoorUK32

set_option maxRecDepth 100000
set_option maxHeartbeats 16000000
namespace Go.Proofs.YtlnjaemdelnceaaGreatDoor
open Go Go.RowKit Go.Proofs
def h22 (n r b : Nat) : MH := { h15 n r with u := some ⟨b, 0, none⟩, uc := 1 }
def rc22 : Array Value := #[.int .i64 0, .int .i64 1, .int .i64 0, .int .i64 0, .int .i64 0, .bool false, .slice none 0 0]
structure X22 (n r b : Nat) (W : World) : Prop where
 x : X15 n r W
 u : Blk W b 32 rc22
theorem X22.md {n r b : Nat} {W : World} (x : X22 n r b W) : MD W W.heap.size (h22 n r b) m22 :=
 { x.x.md with
  dU := rows_one x.u x.u.lt rfl ⟨none, 0, rfl, by decide, by decide, rfl, fun h0 => absurd h0 (by simp [r22])⟩
  ul := by decide }
theorem X22.grow {n r b : Nat} {W W2 : World} (x : X22 n r b W) (hb : Below W.heap.size W W2) : X22 n r b W2 := ⟨x.x.grow hb, x.u.below hb x.u.lt⟩
theorem v22 : validM m22 = true := by decide
theorem v22w : validM (withR m22 r22) = true := by decide
theorem fin22 : finalM m22 (initP m22) = (1, 2, false) := by decide
theorem ins22 : instantM m22 (initP m22) 3 = [⟨0, 1, 3, 1, 2, 1, 0⟩] := by kernel_rfl
theorem hol22a : holdsR m22 r22 (initP m22) (0, 0) = true := by decide
theorem hol22b : holdsR m22 r22 (initP m22) (1, 1) = true := by decide
theorem hol22c : holdsR m22 r22 (initP m22) (1, 2) = false := by decide
theorem fai22 : (failuresR m22 r22).length = 3 := by decide
theorem txt22 : rtextB m22 r22 = (⟨#[113, 117, 111, 114, 117, 109, 32, 100, 98]⟩ : ByteArray) := by kernel_rfl
theorem txs22 : (rtextD m22 r22).size ≤ 9223372036854775807 := by
 have e : rtextD m22 r22 = (⟨#[113, 117, 111, 114, 117, 109, 32, 100, 98, 59]⟩ : ByteArray) := by kernel_rfl
 rw [e]; decide
theorem ord22 : orderB m22 r22 (initP m22) (initP m22) = true := by decide
theorem X15.set_ {n r bm i : Nat} {W : World} {v : Value} (x : X15 n r W) (h1 : n + 1 + 1 + 1 + 1 + 1 < bm) (h2 : r + 1 < bm) : X15 n r (W.setCell ⟨bm, i, none⟩ v) :=
 ⟨⟨x.s.b1.far (by simp; omega) _, x.s.b2.far (by simp; omega) _, x.s.b3.far (by simp; omega) _, x.s.b4.far (by simp; omega) _, x.s.b5.far (by simp; omega) _⟩, x.o.far (by simp; omega) _, x.i.far (by simp; omega) _⟩
structure AS (w : World) (h : MH) (m : Mod) (x : RuleM) (bm bx : Nat) (W : World) : Prop where
 mb : Blk W bm 29 #[.slice h.s m.sT.length h.sc, .slice h.f m.fT.length h.fc, .slice h.r m.rT.length h.rc, .slice h.m m.mT.length h.mc, .slice h.l m.lT.length h.lc, .slice h.i m.iT.length h.ic, .int .i64 m.dT, .int .i64 m.oT, .int .i64 m.vT, .int .i64 m.aT, .slice h.u m.uT.length h.uc]
 xb : Blk W bx 32 #[.int .i64 x.kind, .int .i64 x.item, .int .i64 x.other, .int .i64 x.n, .int .i64 x.by_, .bool x.always, .slice none x.machines.length 0]
 d : MD W W.heap.size h m
 b : Below w.heap.size w W
theorem AS.grow {w : World} {h : MH} {m : Mod} {x : RuleM} {bm bx : Nat} {W W2 : World} (s : AS w h m x bm bx W) (hb : Below W.heap.size W W2) : AS w h m x bm bx W2 := ⟨s.mb.below hb s.mb.lt, s.xb.below hb s.xb.lt, s.d.grow hb, s.b.trans (hb.mono s.b.size)⟩
structure AP (w : World) (h : MH) (m : Mod) (x : RuleM) (bm bx bp : Nat) (A : Option Addr) (c : Nat) (p : PlaceM) (W : World) : Prop where
 s : AS w h m x bm bx W
 pb : Blk W bp 35 #[.slice A p.length c]
 q : PR W W.heap.size A p
theorem AP.grow {w : World} {h : MH} {m : Mod} {x : RuleM} {bm bx bp : Nat} {A : Option Addr} {c : Nat} {p : PlaceM} {W W2 : World} (s : AP w h m x bm bx bp A c p W) (hb : Below W.heap.size W W2) : AP w h m x bm bx bp A c p W2 := ⟨s.s.grow hb, s.pb.below hb s.pb.lt, s.q.grow hb⟩
theorem AP.cells {w : World} {h : MH} {m : Mod} {x : RuleM} {bm bx bp : Nat} {A : Option Addr} {c : Nat} {p : PlaceM} {W : World} (s : AP w h m x bm bx bp A c p W) : (W.cell? ⟨bm, 0, none⟩ = some (.slice h.s m.sT.length h.sc) ∧ W.cell? ⟨bm, 1, none⟩ = some (.slice h.f m.fT.length h.fc) ∧ W.cell? ⟨bm, 2, none⟩ = some (.slice h.r m.rT.length h.rc) ∧ W.cell? ⟨bm, 3, none⟩ = some (.slice h.m m.mT.length h.mc) ∧ W.cell? ⟨bm, 4, none⟩ = some (.slice h.l m.lT.length h.lc) ∧ W.cell? ⟨bm, 5, none⟩ = some (.slice h.i m.iT.length h.ic) ∧ W.cell? ⟨bm, 6, none⟩ = some (.int .i64 m.dT) ∧ W.cell? ⟨bm, 7, none⟩ = some (.int .i64 m.oT) ∧ W.cell? ⟨bm, 8, none⟩ = some (.int .i64 m.vT) ∧ W.cell? ⟨bm, 9, none⟩ = some (.int .i64 m.aT) ∧ W.cell? ⟨bm, 10, none⟩ = some (.slice h.u m.uT.length h.uc)) ∧ (W.cell? ⟨bx, 0, none⟩ = some (.int .i64 x.kind) ∧ W.cell? ⟨bx, 1, none⟩ = some (.int .i64 x.item) ∧ W.cell? ⟨bx, 2, none⟩ = some (.int .i64 x.other) ∧ W.cell? ⟨bx, 3, none⟩ = some (.int .i64 x.n) ∧ W.cell? ⟨bx, 4, none⟩ = some (.int .i64 x.by_) ∧ W.cell? ⟨bx, 5, none⟩ = some (.bool x.always) ∧ W.cell? ⟨bx, 6, none⟩ = some (.slice none x.machines.length 0)) ∧ W.cell? ⟨bp, 0, none⟩ = some (.slice A p.length c) ∧ bm < W.heap.size ∧ bx < W.heap.size ∧ bp < W.heap.size :=
 ⟨MB.cells s.s.mb, ⟨s.s.xb.cell 0, s.s.xb.cell 1, s.s.xb.cell 2, s.s.xb.cell 3, s.s.xb.cell 4, s.s.xb.cell 5, s.s.xb.cell 6⟩, s.pb.cell 0, s.s.mb.lt, s.s.xb.lt, s.pb.lt⟩
theorem one_vio (w : World) (v : VioM) : RdVi (w.alloc (.cells #[.int .i64 v.kind, .int .i64 v.rule, .int .i64 v.time, .int .i64 v.by_, .int .i64 v.num, .int .i64 v.item, .int .i64 v.at_] 54)) (some ⟨w.heap.size, 0, none⟩) [v] := fun k hk => by
 obtain rfl : k = 0 := by simp at hk; omega
 refine ⟨_, 0, rfl, by simp, fun j u hu => ?_⟩
 rw [show 0 + 0 * 7 + j = j by omega, (Blk.new w 54 #[.int .i64 v.kind, .int .i64 v.rule, .int .i64 v.time, .int .i64 v.by_, .int .i64 v.num, .int .i64 v.item, .int .i64 v.at_]).cell j]
 simpa [vioC] using hu
theorem ini22 : (initP m22).length = 1 ∧ ∀ l ∈ initP m22, l.length ≤ 1000 := by decide
theorem units_short {p : PlaceM} (h : ∀ l ∈ p, l.length ≤ 1000) (i : Int) : (unitsP p i).length ≤ 1000 := by
 unfold unitsP
 split
 · rename_i hi
   simp only [exI, Bool.and_eq_true, decide_eq_true_eq] at hi
   have hl : (i - 1).toNat < p.length := by omega
   rw [List.getD_eq_getElem?_getD, List.getElem?_eq_getElem hl]
   exact h _ (List.getElem_mem hl)
 · simp
theorem awake22 (w : World) (ha : Asc w) (hpw : Pow w) : Calls Tryz.prog 9 #[] w (AnsR w (.bool true)) := by
 have HE := hide (example15 w)
 have HA := hide (And.intro ha hpw)
 clear ha hpw
 go_enter Tryz.func9, Tryz.ntmps9
 go_upto_region 2 with (first
  | (go_at_call 28; refine HE.out.mono ?_; rintro e w1 ⟨n, r, rfl, hx, hb⟩
     have HX := hide hx
     have HB1 := hide hb
     clear hx hb)
  | (refine wpList_store_row (o := ⟨none, .store 29 _ _, _, _, _, _⟩) rfl 29 _ _ rfl w1.heap.size (cells22 (h15 n r) m15) rfl rfl 29 z29 (Blk.new w1 _ _) (by kernel_rfl) rfl (cells22_one _ _) ?_; rw [World.setRow_alloc_new]))
 have hk2 := Blk.new w1 29 (cells22 (h15 n r) m15)
 have hb2 : Below w1.heap.size w1 (w1.alloc (.cells (cells22 (h15 n r) m15) 29)) := (Below.refl _ _).alloc (Nat.le_refl _) _
 obtain ⟨w2, hw2⟩ : ∃ w2, w2 = w1.alloc (.cells (cells22 (h15 n r) m15) 29) := ⟨_, rfl⟩
 obtain ⟨bm, hbm⟩ : ∃ bm, bm = w1.heap.size := ⟨_, rfl⟩
 have hz2 : w2.heap.size = bm + 1 := by rw [hw2, hbm]; simp
 rw [← hw2, ← hbm] at hk2
 rw [← hw2] at hb2 ⊢
 rw [← hbm]
 have q9 : w2.cell? ⟨bm, 9, none⟩ = some (.int .i64 0) := hk2.cell 9
 have q10 : w2.cell? ⟨bm, 10, none⟩ = some (.slice none 0 0) := hk2.cell 10
 have ql := hk2.lt
 have af9 := hk2.frozen 9
 have af10 := hk2.frozen 10
 have HK2 := hide hk2
 have HX2 := hide (HX.out.grow hb2)
 have HB2 := hide (HB1.out.trans (hb2.mono HB1.out.size))
 have HLB := hide (show w.heap.size ≤ bm by rw [hbm]; exact HB1.out.size)
 have HZ2 := hide hz2
 have HNB := hide (show n + 1 + 1 + 1 + 1 + 1 < bm ∧ r + 1 < bm by rw [hbm]; exact ⟨HX.out.s.b5.lt, HX.out.i.lt⟩)
 clear HE hw2 hbm hb2 hk2 HX HB1 hz2
 go_upto_region 5 with (fail)
 have hsz : ((w2.setCell ⟨bm, 9, none⟩ (.int .i64 1)).setCell ⟨bm, 10, none⟩ (.slice (some ⟨w2.heap.size + 1, 0, none⟩) 1 1)).heap.size = w2.heap.size := by simp
 have hsy : (((w2.setCell ⟨bm, 9, none⟩ (.int .i64 1)).setCell ⟨bm, 10, none⟩ (.slice (some ⟨w2.heap.size + 1, 0, none⟩) 1 1)).alloc (.cells rc22 32)).heap.size = w2.heap.size + 1 := by simp
 have has : AS w (h22 n r (w2.heap.size + 1)) m22 r22 bm w2.heap.size ((((w2.setCell ⟨bm, 9, none⟩ (.int .i64 1)).setCell ⟨bm, 10, none⟩ (.slice (some ⟨w2.heap.size + 1, 0, none⟩) 1 1)).alloc (.cells rc22 32)).alloc (.cells rc22 32)) := by
  have hx5 : X15 n r ((w2.setCell ⟨bm, 9, none⟩ (.int .i64 1)).setCell ⟨bm, 10, none⟩ (.slice (some ⟨w2.heap.size + 1, 0, none⟩) 1 1)) := (HX2.out.set_ HNB.out.1 HNB.out.2).set_ HNB.out.1 HNB.out.2
  have hu : Blk ((((w2.setCell ⟨bm, 9, none⟩ (.int .i64 1)).setCell ⟨bm, 10, none⟩ (.slice (some ⟨w2.heap.size + 1, 0, none⟩) 1 1)).alloc (.cells rc22 32)).alloc (.cells rc22 32)) (w2.heap.size + 1) 32 rc22 := by
   have := Blk.new (((w2.setCell ⟨bm, 9, none⟩ (.int .i64 1)).setCell ⟨bm, 10, none⟩ (.slice (some ⟨w2.heap.size + 1, 0, none⟩) 1 1)).alloc (.cells rc22 32)) 32 rc22
   rw [hsy] at this
   exact this
  have hx22 : X22 n r (w2.heap.size + 1) ((((w2.setCell ⟨bm, 9, none⟩ (.int .i64 1)).setCell ⟨bm, 10, none⟩ (.slice (some ⟨w2.heap.size + 1, 0, none⟩) 1 1)).alloc (.cells rc22 32)).alloc (.cells rc22 32)) := ⟨(hx5.grow ((Below.refl _ _).alloc (Nat.le_refl _) _)).grow ((Below.refl _ _).alloc (Nat.le_refl _) _), hu⟩
  refine ⟨(((HK2.out.set_ 9 _).set_ 10 _).alloc _).alloc _, ?_, hx22.md, ?_⟩
  · have := (Blk.new ((w2.setCell ⟨bm, 9, none⟩ (.int .i64 1)).setCell ⟨bm, 10, none⟩ (.slice (some ⟨w2.heap.size + 1, 0, none⟩) 1 1)) 32 rc22).alloc (.cells rc22 32)
    rw [hsz] at this
    exact this
  · exact (((HB2.out.setCell HLB.out _).setCell HLB.out _).alloc (by rw [hsz]; exact HB2.out.size) _).alloc (by rw [hsy]; have := HB2.out.size; omega) _
 obtain ⟨w5, hw5⟩ : ∃ w5, w5 = ((((w2.setCell ⟨bm, 9, none⟩ (.int .i64 1)).setCell ⟨bm, 10, none⟩ (.slice (some ⟨w2.heap.size + 1, 0, none⟩) 1 1)).alloc (.cells rc22 32)).alloc (.cells rc22 32)) := ⟨_, rfl⟩
 have hgoal := hw5
 simp only [rc22] at hgoal
 rw [← hw5] at has
 rw [← hgoal]
 have HC := hide (show (h22 n r (w2.heap.size + 1)).rc = 1 ∧ (h22 n r (w2.heap.size + 1)).mc = 2 ∧ (h22 n r (w2.heap.size + 1)).lc = 1 from ⟨rfl, rfl, rfl⟩)
 obtain ⟨h, hh⟩ : ∃ h, h = h22 n r (w2.heap.size + 1) := ⟨_, rfl⟩
 obtain ⟨m, hm⟩ : ∃ m, m = m22 := ⟨_, rfl⟩
 obtain ⟨x, hx⟩ : ∃ x, x = r22 := ⟨_, rfl⟩
 obtain ⟨bx, hbx⟩ : ∃ bx, bx = w2.heap.size := ⟨_, rfl⟩
 have HM := hide hm
 have HXR := hide hx
 rw [← hh] at has HC
 rw [← hm, ← hx, ← hbx] at has
 rw [← hbx]
 have HK := hide (show m.rT.length ≤ h.rc ∧ m.mT.length ≤ h.mc ∧ m.lT.length ≤ h.lc by rw [HC.out.1, HC.out.2.1, HC.out.2.2, hm]; decide)
 have HI := hide (initial_ref h m w5 has.d (by rw [hm]; decide) (by rw [hm]; decide))
 obtain ⟨p, hp⟩ : ∃ p, p = initP m := ⟨_, rfl⟩
 rw [← hp] at HI
 have HP := hide hp
 obtain ⟨a0, a1, a2, a3, a4, a5, a6, a7, a8, a9, a10⟩ := MB.cells has.mb
 have al := has.mb.lt
 have HS := hide has
 clear q9 q10 ql af9 af10 has hh hm hx hbx hp hw5 hgoal hsz hsy HX2 HK2 HB2 HLB HZ2 HNB HC
 go_upto_region 6 with (go_at_call 29; refine HI.out.mono ?_; rintro e w6 ⟨Ap, cp, rfl, hpt, hb6⟩
                        have HP6 := hide hpt.pr
                        have HS6 := hide (HS.out.grow hb6)
                        clear hpt hb6)
 have hbn : Below w6.heap.size w6 (w6.alloc (.cells #[.slice Ap p.length cp] 35)) := (Below.refl _ _).alloc (Nat.le_refl _) _
 have hap : AP w h m x bm bx w6.heap.size Ap cp p (w6.alloc (.cells #[.slice Ap p.length cp] 35)) := ⟨HS6.out.grow hbn, Blk.new w6 _ _, HP6.out.grow hbn⟩
 obtain ⟨w7, hw7⟩ : ∃ w7, w7 = w6.alloc (.cells #[.slice Ap p.length cp] 35) := ⟨_, rfl⟩
 obtain ⟨bp, hbp⟩ : ∃ bp, bp = w6.heap.size := ⟨_, rfl⟩
 rw [← hw7, ← hbp] at hap
 rw [← hw7, ← hbp]
 have HAP := hide hap
 clear hap hw7 hbp hbn HP6 HS6 HS HI a0 a1 a2 a3 a4 a5 a6 a7 a8 a9 a10 al
 have hpl : p.length ≤ 1000 := by rw [HP.out, HM.out, ini22.1]; decide
 have hpu : ∀ i, (unitsP p i).length ≤ 1000 := units_short (by rw [HP.out, HM.out]; exact ini22.2)
 have hfm : FewM m := by rw [HM.out]; exact ⟨by decide, by decide, by decide, by decide⟩
 have hxm : x.machines = [] := by rw [HXR.out]; rfl
 have hint : ∀ W : World, Ints W W.heap.size none x.machines := fun W => by rw [hxm]; exact ⟨rfl, fun h0 => absurd h0 (by simp)⟩
 have hcond : ∀ W, AP w h m x bm bx bp Ap cp p W → Cond W h m x none Ap cp p := fun W s => ⟨s.s.d, hint W, by rw [hxm]; decide, s.q, hpl, hpu _, by rw [HM.out, HXR.out]; decide⟩
 have HFI := hide (fun W (s : AP w h m x bm bx bp Ap cp p W) => (show Calls Tryz.prog 19 #[.agg #[.slice h.s m.sT.length h.sc, .slice h.f m.fT.length h.fc, .slice h.r m.rT.length h.rc, .slice h.m m.mT.length h.mc, .slice h.l m.lT.length h.lc, .slice h.i m.iT.length h.ic, .int .i64 m.dT, .int .i64 m.oT, .int .i64 m.vT, .int .i64 m.aT, .slice h.u m.uT.length h.uc], .agg #[.slice Ap p.length cp]] W (AnsR W (.tuple #[.int .i64 1, .int .i64 2, .bool false])) from by
  have := final_prog h m Ap cp p W s.s.d s.q (by rw [HM.out]; decide) hpl hpu
  rw [HP.out, HM.out, fin22] at this
  rw [HP.out, HM.out]
  exact this))
 have HIN := hide (fun W (s : AP w h m x bm bx bp Ap cp p W) => (show Calls Tryz.prog 17 #[.agg #[.slice h.s m.sT.length h.sc, .slice h.f m.fT.length h.fc, .slice h.r m.rT.length h.rc, .slice h.m m.mT.length h.mc, .slice h.l m.lT.length h.lc, .slice h.i m.iT.length h.ic, .int .i64 m.dT, .int .i64 m.oT, .int .i64 m.vT, .int .i64 m.aT, .slice h.u m.uT.length h.uc], .agg #[.slice Ap p.length cp], .int .i64 3] W (fun e w' => ∃ v, e = .returned v ∧ OVi W.heap.size w' v [⟨0, 1, 3, 1, 2, 1, 0⟩] ∧ Below W.heap.size W w') from by
  have := instant_prog h m Ap cp p 3 W s.s.d hfm (by rw [HM.out]; decide) (by rw [HM.out]; decide) s.q hpl hpu
  rw [HP.out, HM.out, ins22] at this
  rw [HP.out, HM.out]
  exact this))
 have HHA := hide (fun W (s : AP w h m x bm bx bp Ap cp p W) => (show Calls Tryz.prog 11 #[.agg #[.slice h.s m.sT.length h.sc, .slice h.f m.fT.length h.fc, .slice h.r m.rT.length h.rc, .slice h.m m.mT.length h.mc, .slice h.l m.lT.length h.lc, .slice h.i m.iT.length h.ic, .int .i64 m.dT, .int .i64 m.oT, .int .i64 m.vT, .int .i64 m.aT, .slice h.u m.uT.length h.uc], .agg #[.int .i64 x.kind, .int .i64 x.item, .int .i64 x.other, .int .i64 x.n, .int .i64 x.by_, .bool x.always, .slice none x.machines.length 0], .agg #[.slice Ap p.length cp], .agg #[.int .i64 0, .int .i64 0]] W (AnsR W (.bool true)) from by
  have := holds_prog h m x none 0 Ap cp p (0, 0) W (hcond W s)
  rwa [show holdsR m x p (0, 0) = true by rw [HP.out, HM.out, HXR.out]; exact hol22a] at this))
 have HHB := hide (fun W (s : AP w h m x bm bx bp Ap cp p W) => (show Calls Tryz.prog 11 #[.agg #[.slice h.s m.sT.length h.sc, .slice h.f m.fT.length h.fc, .slice h.r m.rT.length h.rc, .slice h.m m.mT.length h.mc, .slice h.l m.lT.length h.lc, .slice h.i m.iT.length h.ic, .int .i64 m.dT, .int .i64 m.oT, .int .i64 m.vT, .int .i64 m.aT, .slice h.u m.uT.length h.uc], .agg #[.int .i64 x.kind, .int .i64 x.item, .int .i64 x.other, .int .i64 x.n, .int .i64 x.by_, .bool x.always, .slice none x.machines.length 0], .agg #[.slice Ap p.length cp], .agg #[.int .i64 1, .int .i64 1]] W (AnsR W (.bool true)) from by
  have := holds_prog h m x none 0 Ap cp p (1, 1) W (hcond W s)
  rwa [show holdsR m x p (1, 1) = true by rw [HP.out, HM.out, HXR.out]; exact hol22b] at this))
 have HHC := hide (fun W (s : AP w h m x bm bx bp Ap cp p W) => (show Calls Tryz.prog 11 #[.agg #[.slice h.s m.sT.length h.sc, .slice h.f m.fT.length h.fc, .slice h.r m.rT.length h.rc, .slice h.m m.mT.length h.mc, .slice h.l m.lT.length h.lc, .slice h.i m.iT.length h.ic, .int .i64 m.dT, .int .i64 m.oT, .int .i64 m.vT, .int .i64 m.aT, .slice h.u m.uT.length h.uc], .agg #[.int .i64 x.kind, .int .i64 x.item, .int .i64 x.other, .int .i64 x.n, .int .i64 x.by_, .bool x.always, .slice none x.machines.length 0], .agg #[.slice Ap p.length cp], .agg #[.int .i64 1, .int .i64 2]] W (AnsR W (.bool false)) from by
  have := holds_prog h m x none 0 Ap cp p (1, 2) W (hcond W s)
  rwa [show holdsR m x p (1, 2) = false by rw [HP.out, HM.out, HXR.out]; exact hol22c] at this))
 have HFA := hide (fun W => (show Calls Tryz.prog 14 #[.agg #[.slice h.s m.sT.length h.sc, .slice h.f m.fT.length h.fc, .slice h.r m.rT.length h.rc, .slice h.m m.mT.length h.mc, .slice h.l m.lT.length h.lc, .slice h.i m.iT.length h.ic, .int .i64 m.dT, .int .i64 m.oT, .int .i64 m.vT, .int .i64 m.aT, .slice h.u m.uT.length h.uc], .agg #[.int .i64 x.kind, .int .i64 x.item, .int .i64 x.other, .int .i64 x.n, .int .i64 x.by_, .bool x.always, .slice none x.machines.length 0]] W (FailsR W (failuresR m x)) from fails_prog h m hfm x none 0 W))
 have HFL := hide (show (failuresR m x).length = 3 by rw [HM.out, HXR.out]; exact fai22)
 have HTX := hide (fun W (s : AP w h m x bm bx bp Ap cp p W) => (show Calls Tryz.prog 30 #[.agg #[.slice h.s m.sT.length h.sc, .slice h.f m.fT.length h.fc, .slice h.r m.rT.length h.rc, .slice h.m m.mT.length h.mc, .slice h.l m.lT.length h.lc, .slice h.i m.iT.length h.ic, .int .i64 m.dT, .int .i64 m.oT, .int .i64 m.vT, .int .i64 m.aT, .slice h.u m.uT.length h.uc], .agg #[.int .i64 x.kind, .int .i64 x.item, .int .i64 x.other, .int .i64 x.n, .int .i64 x.by_, .bool x.always, .slice none x.machines.length 0]] W (AnsR W (.string (⟨#[113, 117, 111, 114, 117, 109, 32, 100, 98]⟩ : ByteArray))) from by
  have := rtext_yes h m x none 0 W s.s.d HK.out.1 HK.out.2.1 HK.out.2.2 (HA.out.1.below (Nat.le_refl _) s.s.b) (HA.out.2.below (Nat.le_refl _) s.s.b) (hint W) (by rw [hxm]; decide) (by decide) (by rw [HM.out]; exact v22) (by rw [HM.out, HXR.out]; exact v22w) (by rw [HM.out, HXR.out]; exact txs22)
  rwa [show rtextB m x = (⟨#[113, 117, 111, 114, 117, 109, 32, 100, 98]⟩ : ByteArray) by rw [HM.out, HXR.out]; exact txt22] at this))
 have HOR := hide (fun W (s : AP w h m x bm bx bp Ap cp p W) => (show Calls Tryz.prog 21 #[.agg #[.slice h.s m.sT.length h.sc, .slice h.f m.fT.length h.fc, .slice h.r m.rT.length h.rc, .slice h.m m.mT.length h.mc, .slice h.l m.lT.length h.lc, .slice h.i m.iT.length h.ic, .int .i64 m.dT, .int .i64 m.oT, .int .i64 m.vT, .int .i64 m.aT, .slice h.u m.uT.length h.uc], .agg #[.int .i64 x.kind, .int .i64 x.item, .int .i64 x.other, .int .i64 x.n, .int .i64 x.by_, .bool x.always, .slice none x.machines.length 0], .agg #[.slice Ap p.length cp], .agg #[.slice Ap p.length cp]] W (AnsR W (.bool true)) from by
  have := order_prog h m x none 0 Ap Ap cp cp p p W s.s.d s.q s.q hpl hpl (hpu _) (hpu _) (hpu _)
  rwa [show orderB m x p p = true by rw [HP.out, HM.out, HXR.out]; exact ord22] at this))
 clear hpl hpu hfm hxm hint hcond
 obtain ⟨⟨a0, a1, a2, a3, a4, a5, a6, a7, a8, a9, a10⟩, ⟨x0, x1, x2, x3, x4, x5, x6⟩, p0, la, lx, lp⟩ := HAP.out.cells
 go_wp2_with (first
  | (go_at_call 19; (with_reducible refine (HFI.out _ HAP.out).mono ?_); rintro e w8 ⟨rfl, hb⟩
     have HAQ := hide (HAP.out.grow hb)
     clear HAP hb a0 a1 a2 a3 a4 a5 a6 a7 a8 a9 a10 x0 x1 x2 x3 x4 x5 x6 p0 la lx lp
     have HAP := HAQ
     clear HAQ
     obtain ⟨⟨a0, a1, a2, a3, a4, a5, a6, a7, a8, a9, a10⟩, ⟨x0, x1, x2, x3, x4, x5, x6⟩, p0, la, lx, lp⟩ := HAP.out.cells)
  | (go_at_call 17; (with_reducible refine (HIN.out _ HAP.out).mono ?_); rintro e w8 ⟨v8, rfl, ho, hb⟩
     obtain ⟨A8, c8, rfl, hrd⟩ := ho.rd
     have HRD := hide (And.intro hrd (Nat.le_refl w8.heap.size))
     obtain ⟨w9, hw9⟩ : ∃ w9, w9 = w8 := ⟨_, rfl⟩
     have HB8 := hide (show Below w9.heap.size w9 w8 by rw [hw9]; exact Below.refl _ _)
     rw [← hw9] at HRD
     clear ho hrd hw9
     have HAQ := hide (HAP.out.grow hb)
     clear HAP hb a0 a1 a2 a3 a4 a5 a6 a7 a8 a9 a10 x0 x1 x2 x3 x4 x5 x6 p0 la lx lp
     have HAP := HAQ
     clear HAQ
     obtain ⟨⟨a0, a1, a2, a3, a4, a5, a6, a7, a8, a9, a10⟩, ⟨x0, x1, x2, x3, x4, x5, x6⟩, p0, la, lx, lp⟩ := HAP.out.cells)
  | (go_at_call 11; (with_reducible refine (HHA.out _ HAP.out).mono ?_); rintro e w10 ⟨rfl, hb⟩
     have HB10 := hide (HB8.out.trans (hb.mono HB8.out.size))
     have HAQ := hide (HAP.out.grow hb)
     clear HAP hb a0 a1 a2 a3 a4 a5 a6 a7 a8 a9 a10 x0 x1 x2 x3 x4 x5 x6 p0 la lx lp
     have HAP := HAQ
     clear HAQ
     obtain ⟨⟨a0, a1, a2, a3, a4, a5, a6, a7, a8, a9, a10⟩, ⟨x0, x1, x2, x3, x4, x5, x6⟩, p0, la, lx, lp⟩ := HAP.out.cells)
  | (go_at_call 11; (with_reducible refine (HHB.out _ HAP.out).mono ?_); rintro e w11 ⟨rfl, hb⟩
     have HB11 := hide (HB10.out.trans (hb.mono HB10.out.size))
     have HAQ := hide (HAP.out.grow hb)
     clear HAP hb a0 a1 a2 a3 a4 a5 a6 a7 a8 a9 a10 x0 x1 x2 x3 x4 x5 x6 p0 la lx lp
     have HAP := HAQ
     clear HAQ
     obtain ⟨⟨a0, a1, a2, a3, a4, a5, a6, a7, a8, a9, a10⟩, ⟨x0, x1, x2, x3, x4, x5, x6⟩, p0, la, lx, lp⟩ := HAP.out.cells)
  | (go_at_call 11; (with_reducible refine (HHC.out _ HAP.out).mono ?_); rintro e w12 ⟨rfl, hb⟩
     have HB12 := hide (HB11.out.trans (hb.mono HB11.out.size))
     have HSV := hide (fun cc => sameVi_ref A8 (some ⟨w12.heap.size, 0, none⟩) c8 cc [⟨0, 1, 3, 1, 2, 1, 0⟩] (w12.alloc (.cells #[.int .i64 0, .int .i64 1, .int .i64 3, .int .i64 1, .int .i64 2, .int .i64 1, .int .i64 0] 54)) (HRD.out.1.grow (HB12.out.alloc HB12.out.size _)) (one_vio w12 ⟨0, 1, 3, 1, 2, 1, 0⟩) (by decide))
     have HAQ := hide (HAP.out.grow hb)
     clear HAP hb a0 a1 a2 a3 a4 a5 a6 a7 a8 a9 a10 x0 x1 x2 x3 x4 x5 x6 p0 la lx lp
     have HAP := HAQ
     clear HAQ
     obtain ⟨⟨a0, a1, a2, a3, a4, a5, a6, a7, a8, a9, a10⟩, ⟨x0, x1, x2, x3, x4, x5, x6⟩, p0, la, lx, lp⟩ := HAP.out.cells)
  | (go_at_call 16; refine (HSV.out _).mono ?_; rintro e w13 ⟨rfl, hb0⟩
     have hb := ((Below.refl w12.heap.size w12).alloc (Nat.le_refl _) (.cells #[.int .i64 0, .int .i64 1, .int .i64 3, .int .i64 1, .int .i64 2, .int .i64 1, .int .i64 0] 54)).trans (hb0.mono (by simp))
     clear hb0
     have HAQ := hide (HAP.out.grow hb)
     clear HAP hb a0 a1 a2 a3 a4 a5 a6 a7 a8 a9 a10 x0 x1 x2 x3 x4 x5 x6 p0 la lx lp
     have HAP := HAQ
     clear HAQ
     obtain ⟨⟨a0, a1, a2, a3, a4, a5, a6, a7, a8, a9, a10⟩, ⟨x0, x1, x2, x3, x4, x5, x6⟩, p0, la, lx, lp⟩ := HAP.out.cells)
  | (go_at_call 14; (with_reducible refine (HFA.out _).mono ?_); rintro e w14 ⟨v14, rfl, ho, hb⟩
     obtain ⟨A14, c14, rfl, _, _⟩ := ho.form
     rw [HFL.out]
     clear ho
     have HAQ := hide (HAP.out.grow hb)
     clear HAP hb a0 a1 a2 a3 a4 a5 a6 a7 a8 a9 a10 x0 x1 x2 x3 x4 x5 x6 p0 la lx lp
     have HAP := HAQ
     clear HAQ
     obtain ⟨⟨a0, a1, a2, a3, a4, a5, a6, a7, a8, a9, a10⟩, ⟨x0, x1, x2, x3, x4, x5, x6⟩, p0, la, lx, lp⟩ := HAP.out.cells)
  | (go_at_call 30; (with_reducible refine (HTX.out _ HAP.out).mono ?_); rintro e w15 ⟨rfl, hb⟩
     have HAQ := hide (HAP.out.grow hb)
     clear HAP hb a0 a1 a2 a3 a4 a5 a6 a7 a8 a9 a10 x0 x1 x2 x3 x4 x5 x6 p0 la lx lp
     have HAP := HAQ
     clear HAQ
     obtain ⟨⟨a0, a1, a2, a3, a4, a5, a6, a7, a8, a9, a10⟩, ⟨x0, x1, x2, x3, x4, x5, x6⟩, p0, la, lx, lp⟩ := HAP.out.cells)
  | (go_at_call 21; (with_reducible refine (HOR.out _ HAP.out).mono ?_); rintro e w16 ⟨rfl, hb⟩
     have HAQ := hide (HAP.out.grow hb)
     clear HAP hb a0 a1 a2 a3 a4 a5 a6 a7 a8 a9 a10 x0 x1 x2 x3 x4 x5 x6 p0 la lx lp
     have HAP := HAQ
     clear HAQ
     obtain ⟨⟨a0, a1, a2, a3, a4, a5, a6, a7, a8, a9, a10⟩, ⟨x0, x1, x2, x3, x4, x5, x6⟩, p0, la, lx, lp⟩ := HAP.out.cells))
 go_ret
 exact ⟨rfl, HAP.out.s.b⟩
def PLR (w : World) (B : Nat) (A : Option Addr) (l : List PlaceM) : Prop := ∀ i (hi : i < l.length), ∃ b off A2 c2, A = some ⟨b, off, none⟩ ∧ b < B ∧ w.cell? ⟨b, off + i, none⟩ = some (.slice A2 l[i].length c2) ∧ l[i].length ≤ 9223372036854775807 ∧ PR w B A2 l[i]
theorem PLR.grow {w w' : World} {A : Option Addr} {l : List PlaceM} (h : PLR w w.heap.size A l) (hb : Below w.heap.size w w') : PLR w' w'.heap.size A l := fun i hi => by
 obtain ⟨b, off, A2, c2, e, hl, hc, h1, h2⟩ := h i hi
 exact ⟨b, off, A2, c2, e, Nat.lt_of_lt_of_le hl hb.size, (hb.cell (p := ⟨b, off + i, none⟩) hl).trans hc, h1, h2.grow hb⟩
def Large (m : Mod) (l : List PlaceM) (w : World) (e : Ending) (w' : World) : Prop := ∃ b : Bool, e = .returned (.bool b) ∧ Below w.heap.size w w' ∧ (b = false → FewL m ∧ ∀ p ∈ l, p.length ≤ 24 ∧ ∀ x ∈ p, x.length ≤ 24)
theorem large22 (h : MH) (m : Mod) (A : Option Addr) (c : Nat) (l : List PlaceM) (w : World) (d : MD w w.heap.size h m) (hl : PLR w w.heap.size A l) (hc : l.length ≤ 9223372036854775807) :
    Calls Tryz.prog 10 #[.agg #[.slice h.s m.sT.length h.sc, .slice h.f m.fT.length h.fc, .slice h.r m.rT.length h.rc, .slice h.m m.mT.length h.mc, .slice h.l m.lT.length h.lc, .slice h.i m.iT.length h.ic, .int .i64 m.dT, .int .i64 m.oT, .int .i64 m.vT, .int .i64 m.aT, .slice h.u m.uT.length h.uc], .slice A l.length c] w (Large m l w) := by
 have HM := hide (Blk.new w 29 #[.slice h.s m.sT.length h.sc, .slice h.f m.fT.length h.fc, .slice h.r m.rT.length h.rc, .slice h.m m.mT.length h.mc, .slice h.l m.lT.length h.lc, .slice h.i m.iT.length h.ic, .int .i64 m.dT, .int .i64 m.oT, .int .i64 m.vT, .int .i64 m.aT, .slice h.u m.uT.length h.uc])
 have HB := hide ((Below.refl w.heap.size w).alloc (Nat.le_refl _) (.cells #[.slice h.s m.sT.length h.sc, .slice h.f m.fT.length h.fc, .slice h.r m.rT.length h.rc, .slice h.m m.mT.length h.mc, .slice h.l m.lT.length h.lc, .slice h.i m.iT.length h.ic, .int .i64 m.dT, .int .i64 m.oT, .int .i64 m.vT, .int .i64 m.aT, .slice h.u m.uT.length h.uc] 29))
 have D := hide (d.grow HB.out)
 have HL := hide (hl.grow HB.out)
 clear d hl
 go_enter Tryz.func10, Tryz.ntmps10
 go_wp2_with fail
 obtain ⟨w1, hw1⟩ : ∃ w1, w1 = w.alloc (.cells #[.slice h.s m.sT.length h.sc, .slice h.f m.fT.length h.fc, .slice h.r m.rT.length h.rc, .slice h.m m.mT.length h.mc, .slice h.l m.lT.length h.lc, .slice h.i m.iT.length h.ic, .int .i64 m.dT, .int .i64 m.oT, .int .i64 m.vT, .int .i64 m.aT, .slice h.u m.uT.length h.uc] 29) := ⟨_, rfl⟩
 rw [← hw1] at HM HB D HL ⊢
 clear hw1
 go_loopw [5] (fun i wr => ∃ k : Nat, k ≤ l.length ∧ i = .int .i64 k ∧ Hid (Below w1.heap.size w1 wr) ∧ Hid (∀ j (hj : j < l.length), j < k → l[j].length ≤ 24 ∧ ∀ x ∈ l[j], x.length ≤ 24)) (fun i _ => l.length - (intOf i).toNat)
 case atStart => exact ⟨0, Nat.zero_le _, rfl, Below.refl _ _, fun j hj h0 => absurd h0 (by omega)⟩
 case round =>
  obtain ⟨k, hk, rfl, hb, hs⟩ := hrel
  by_cases hlt : k < l.length
  · obtain ⟨b, off, A2, c2, hA, hbl, x0, y1, y2⟩ := (HL.out.grow hb.out) k hlt
    have HF := hide (few20_ref A2 c2 l[k] wr y2 y1)
    obtain ⟨n, hn⟩ : ∃ n, n = l[k].length := ⟨_, rfl⟩
    rw [← hn] at x0 HF
    have hkI : (k : Int) < (l.length : Int) := by omega
    subst hA
    clear hn y1 y2
    go_wp2_with (go_at_call 31; refine HF.out.mono ?_; rintro e w2 ⟨q, rfl, hb2, hq⟩; have HQ := hide hq; have HB2 := hide (hb.out.trans (hb2.mono hb.out.size)); clear hq hb2)
    · go_ret
      exact ⟨true, rfl, HB.out.trans (HB2.out.mono HB.out.size), fun e => absurd e (by simp)⟩
    · rename_i hq
      have hq1 : l[k].length ≤ 24 ∧ ∀ x ∈ l[k], x.length ≤ 24 := HQ.out (by simpa using hq)
      have HS : Hid (∀ j (hj : j < l.length), j < k + 1 → l[j].length ≤ 24 ∧ ∀ x ∈ l[j], x.length ≤ 24) := hide fun j hj h1 => by
       rcases Nat.lt_or_ge j k with h2 | h2
       · exact hs.out j hj h2
       · obtain rfl : j = k := by omega
         exact hq1
      clear hq1 hq
      go_roundw
      case rel => exact ⟨k + 1, by omega, by go_num, HB2, HS⟩
      case measure => simp [intOf]; omega
  · obtain rfl : k = l.length := by omega
    have HF := hide (few22_ref h m wr (D.out.grow hb.out))
    obtain ⟨a0, a1, a2, a3, a4, a5, a6, a7, a8, a9, a10⟩ := MB.cells (HM.out.below hb.out HM.out.lt)
    go_wp2_with (go_at_call 32; refine HF.out.mono ?_; rintro e w2 ⟨⟨q, rfl, hq⟩, hb2⟩; have HQ := hide hq; have HB2 := hide (hb.out.trans (hb2.mono hb.out.size)); clear hq hb2)
    go_ret
    exact ⟨_, rfl, HB.out.trans (HB2.out.mono HB.out.size), fun e => ⟨HQ.out (by simpa using e), fun p hp => by obtain ⟨j, hj, rfl⟩ := List.getElem_of_mem hp; exact hs.out j hj hj⟩⟩
end Go.Proofs.YtlnjaemdelnceaaGreatDoor
