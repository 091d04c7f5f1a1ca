/- A part of the claim: see its last text. -/
import Derived.Test.YtlnjaemdelnceaaGreatDoorUK41
import Derived.Test.YtlnjaemdelnceaaGreatDoorUK38
import Derived.Test.YtlnjaemdelnceaaGreatDoorUK32

set_option maxRecDepth 100000
set_option maxHeartbeats 16000000
namespace Go.Proofs.YtlnjaemdelnceaaGreatDoor
open Go Go.RowKit Go.Proofs
theorem failR_0 (h : MH) (m : Mod) (F : FewM m) (x : RuleM) (A : Option Addr) (c : Nat) (w : World) (g0 : (x.kind == 0) = true) :
    Calls Tryz.prog 15 #[.agg #[.slice h.s m.sT.length h.sc, .slice h.f m.fT.length h.fc, .slice h.r m.rT.length h.rc, .slice h.m m.mT.length h.mc, .slice h.l m.lT.length h.lc, .slice h.i m.iT.length h.ic, .int .i64 m.dT, .int .i64 m.oT, .int .i64 m.vT, .int .i64 m.aT, .slice h.u m.uT.length h.uc], .agg #[.int .i64 x.kind, .int .i64 x.item, .int .i64 x.other, .int .i64 x.n, .int .i64 x.by_, .bool x.always, .slice A x.machines.length c]] w (FailsR w (allF m)) := by
 have HB := hide (show Below w.heap.size w ((w.alloc (.cells #[.slice h.s m.sT.length h.sc, .slice h.f m.fT.length h.fc, .slice h.r m.rT.length h.rc, .slice h.m m.mT.length h.mc, .slice h.l m.lT.length h.lc, .slice h.i m.iT.length h.ic, .int .i64 m.dT, .int .i64 m.oT, .int .i64 m.vT, .int .i64 m.aT, .slice h.u m.uT.length h.uc] 29)).alloc (.cells #[.int .i64 x.kind, .int .i64 x.item, .int .i64 x.other, .int .i64 x.n, .int .i64 x.by_, .bool x.always, .slice A x.machines.length c] 32)) from ((Below.refl w.heap.size w).alloc (Nat.le_refl _) _).alloc (by simp) _)
 have HC := hide (all21_ref h m F.cm F.cr F.ce F.cs ((w.alloc (.cells #[.slice h.s m.sT.length h.sc, .slice h.f m.fT.length h.fc, .slice h.r m.rT.length h.rc, .slice h.m m.mT.length h.mc, .slice h.l m.lT.length h.lc, .slice h.i m.iT.length h.ic, .int .i64 m.dT, .int .i64 m.oT, .int .i64 m.vT, .int .i64 m.aT, .slice h.u m.uT.length h.uc] 29)).alloc (.cells #[.int .i64 x.kind, .int .i64 x.item, .int .i64 x.other, .int .i64 x.n, .int .i64 x.by_, .bool x.always, .slice A x.machines.length c] 32)))
 go_enter Tryz.func15, Tryz.ntmps15
 go_wp2_with (go_at_call 40; refine HC.out.mono ?_; rintro e w1 ⟨v, rfl, ho, hb⟩; have HO := hide ho; have HB1 := hide hb; clear ho hb)
 go_ret
 exact ⟨v, rfl, own_lowerF HO.out HB.out.size, HB.out.trans (HB1.out.mono HB.out.size)⟩
theorem failR_1f (h : MH) (m : Mod) (F : FewM m) (x : RuleM) (A : Option Addr) (c : Nat) (w : World) (g0 : (x.kind == 0) = false) (g1 : (x.kind == 1) = true) (g2 : x.always = false) :
    Calls Tryz.prog 15 #[.agg #[.slice h.s m.sT.length h.sc, .slice h.f m.fT.length h.fc, .slice h.r m.rT.length h.rc, .slice h.m m.mT.length h.mc, .slice h.l m.lT.length h.lc, .slice h.i m.iT.length h.ic, .int .i64 m.dT, .int .i64 m.oT, .int .i64 m.vT, .int .i64 m.aT, .slice h.u m.uT.length h.uc], .agg #[.int .i64 x.kind, .int .i64 x.item, .int .i64 x.other, .int .i64 x.n, .int .i64 x.by_, .bool x.always, .slice A x.machines.length c]] w (FailsR w (allF m)) := by
 have HB := hide (show Below w.heap.size w ((w.alloc (.cells #[.slice h.s m.sT.length h.sc, .slice h.f m.fT.length h.fc, .slice h.r m.rT.length h.rc, .slice h.m m.mT.length h.mc, .slice h.l m.lT.length h.lc, .slice h.i m.iT.length h.ic, .int .i64 m.dT, .int .i64 m.oT, .int .i64 m.vT, .int .i64 m.aT, .slice h.u m.uT.length h.uc] 29)).alloc (.cells #[.int .i64 x.kind, .int .i64 x.item, .int .i64 x.other, .int .i64 x.n, .int .i64 x.by_, .bool false, .slice A x.machines.length c] 32)) from ((Below.refl w.heap.size w).alloc (Nat.le_refl _) _).alloc (by simp) _)
 rw [g2]
 have HC := hide (all21_ref h m F.cm F.cr F.ce F.cs ((w.alloc (.cells #[.slice h.s m.sT.length h.sc, .slice h.f m.fT.length h.fc, .slice h.r m.rT.length h.rc, .slice h.m m.mT.length h.mc, .slice h.l m.lT.length h.lc, .slice h.i m.iT.length h.ic, .int .i64 m.dT, .int .i64 m.oT, .int .i64 m.vT, .int .i64 m.aT, .slice h.u m.uT.length h.uc] 29)).alloc (.cells #[.int .i64 x.kind, .int .i64 x.item, .int .i64 x.other, .int .i64 x.n, .int .i64 x.by_, .bool false, .slice A x.machines.length c] 32)))
 go_enter Tryz.func15, Tryz.ntmps15
 go_wp2_with (go_at_call 40; refine HC.out.mono ?_; rintro e w1 ⟨v, rfl, ho, hb⟩; have HO := hide ho; have HB1 := hide hb; clear ho hb)
 go_ret
 exact ⟨v, rfl, own_lowerF HO.out HB.out.size, HB.out.trans (HB1.out.mono HB.out.size)⟩
theorem failR_1t (h : MH) (m : Mod) (x : RuleM) (A : Option Addr) (c : Nat) (w : World) (g0 : (x.kind == 0) = false) (g1 : (x.kind == 1) = true) (g2 : x.always = true) :
    Calls Tryz.prog 15 #[.agg #[.slice h.s m.sT.length h.sc, .slice h.f m.fT.length h.fc, .slice h.r m.rT.length h.rc, .slice h.m m.mT.length h.mc, .slice h.l m.lT.length h.lc, .slice h.i m.iT.length h.ic, .int .i64 m.dT, .int .i64 m.oT, .int .i64 m.vT, .int .i64 m.aT, .slice h.u m.uT.length h.uc], .agg #[.int .i64 x.kind, .int .i64 x.item, .int .i64 x.other, .int .i64 x.n, .int .i64 x.by_, .bool x.always, .slice A x.machines.length c]] w (FailsR w [(0, 0)]) := by
 have HB := hide (show Below w.heap.size w ((w.alloc (.cells #[.slice h.s m.sT.length h.sc, .slice h.f m.fT.length h.fc, .slice h.r m.rT.length h.rc, .slice h.m m.mT.length h.mc, .slice h.l m.lT.length h.lc, .slice h.i m.iT.length h.ic, .int .i64 m.dT, .int .i64 m.oT, .int .i64 m.vT, .int .i64 m.aT, .slice h.u m.uT.length h.uc] 29)).alloc (.cells #[.int .i64 x.kind, .int .i64 x.item, .int .i64 x.other, .int .i64 x.n, .int .i64 x.by_, .bool true, .slice A x.machines.length c] 32)) from ((Below.refl w.heap.size w).alloc (Nat.le_refl _) _).alloc (by simp) _)
 rw [g2]
 have HO := hide (OwnF.one ((w.alloc (.cells #[.slice h.s m.sT.length h.sc, .slice h.f m.fT.length h.fc, .slice h.r m.rT.length h.rc, .slice h.m m.mT.length h.mc, .slice h.l m.lT.length h.lc, .slice h.i m.iT.length h.ic, .int .i64 m.dT, .int .i64 m.oT, .int .i64 m.vT, .int .i64 m.aT, .slice h.u m.uT.length h.uc] 29)).alloc (.cells #[.int .i64 x.kind, .int .i64 x.item, .int .i64 x.other, .int .i64 x.n, .int .i64 x.by_, .bool true, .slice A x.machines.length c] 32)) HB.out.size (0, 0))
 have HB2 := hide (HB.out.alloc HB.out.size (.cells #[.int .i64 0, .int .i64 0] 37))
 go_enter Tryz.func15, Tryz.ntmps15
 go_wp2_with fail
 go_ret
 exact ⟨_, rfl, by simpa using HO.out, HB2.out⟩
theorem failR_o (h : MH) (m : Mod) (x : RuleM) (A : Option Addr) (c : Nat) (w : World) (g0 : (x.kind == 0) = false) (g1 : (x.kind == 1) = false) :
    Calls Tryz.prog 15 #[.agg #[.slice h.s m.sT.length h.sc, .slice h.f m.fT.length h.fc, .slice h.r m.rT.length h.rc, .slice h.m m.mT.length h.mc, .slice h.l m.lT.length h.lc, .slice h.i m.iT.length h.ic, .int .i64 m.dT, .int .i64 m.oT, .int .i64 m.vT, .int .i64 m.aT, .slice h.u m.uT.length h.uc], .agg #[.int .i64 x.kind, .int .i64 x.item, .int .i64 x.other, .int .i64 x.n, .int .i64 x.by_, .bool x.always, .slice A x.machines.length c]] w (FailsR w [(0, 0)]) := by
 have HB := hide (show Below w.heap.size w ((w.alloc (.cells #[.slice h.s m.sT.length h.sc, .slice h.f m.fT.length h.fc, .slice h.r m.rT.length h.rc, .slice h.m m.mT.length h.mc, .slice h.l m.lT.length h.lc, .slice h.i m.iT.length h.ic, .int .i64 m.dT, .int .i64 m.oT, .int .i64 m.vT, .int .i64 m.aT, .slice h.u m.uT.length h.uc] 29)).alloc (.cells #[.int .i64 x.kind, .int .i64 x.item, .int .i64 x.other, .int .i64 x.n, .int .i64 x.by_, .bool x.always, .slice A x.machines.length c] 32)) from ((Below.refl w.heap.size w).alloc (Nat.le_refl _) _).alloc (by simp) _)
 have HO := hide (OwnF.one ((w.alloc (.cells #[.slice h.s m.sT.length h.sc, .slice h.f m.fT.length h.fc, .slice h.r m.rT.length h.rc, .slice h.m m.mT.length h.mc, .slice h.l m.lT.length h.lc, .slice h.i m.iT.length h.ic, .int .i64 m.dT, .int .i64 m.oT, .int .i64 m.vT, .int .i64 m.aT, .slice h.u m.uT.length h.uc] 29)).alloc (.cells #[.int .i64 x.kind, .int .i64 x.item, .int .i64 x.other, .int .i64 x.n, .int .i64 x.by_, .bool x.always, .slice A x.machines.length c] 32)) HB.out.size (0, 0))
 have HB2 := hide (HB.out.alloc HB.out.size (.cells #[.int .i64 0, .int .i64 0] 37))
 go_enter Tryz.func15, Tryz.ntmps15
 go_wp2_with fail
 go_ret
 exact ⟨_, rfl, by simpa using HO.out, HB2.out⟩
theorem failures_ref (h : MH) (m : Mod) (F : FewM m) (x : RuleM) (A : Option Addr) (c : Nat) (w : World) :
    Calls Tryz.prog 15 #[.agg #[.slice h.s m.sT.length h.sc, .slice h.f m.fT.length h.fc, .slice h.r m.rT.length h.rc, .slice h.m m.mT.length h.mc, .slice h.l m.lT.length h.lc, .slice h.i m.iT.length h.ic, .int .i64 m.dT, .int .i64 m.oT, .int .i64 m.vT, .int .i64 m.aT, .slice h.u m.uT.length h.uc], .agg #[.int .i64 x.kind, .int .i64 x.item, .int .i64 x.other, .int .i64 x.n, .int .i64 x.by_, .bool x.always, .slice A x.machines.length c]] w (FailsR w (failuresR m x)) := by
 unfold failuresR
 by_cases h0 : x.kind = 0
 · rw [if_pos (.inl h0)]; exact failR_0 h m F x A c w (by simpa using h0)
 by_cases h1 : x.kind = 1
 · rcases (by cases x.always <;> simp : x.always = false ∨ x.always = true) with hal | hal
   · rw [if_pos (.inr ⟨h1, hal⟩)]; exact failR_1f h m F x A c w (by simpa using h0) (by simpa using h1) hal
   · rw [if_neg (by simp [h0, hal])]; exact failR_1t h m x A c w (by simpa using h0) (by simpa using h1) hal
 · rw [if_neg (by simp [h0, h1])]; exact failR_o h m x A c w (by simpa using h0) (by simpa using h1)
structure H3 (w : World) (M X P : Array Value) (q : Addr) (f : Int × Int) (w1 W : World) : Prop where
 m : Blk W w.heap.size 29 M
 x : Blk W (w.heap.size + 1) 32 X
 p : Blk W (w.heap.size + 1 + 1) 35 P
 f0 : W.cell? q = some (.int .i64 f.1)
 f1 : W.cell? ⟨q.block, q.off + 1, q.spot⟩ = some (.int .i64 f.2)
 lt : q.block < w1.heap.size
 b : Below w1.heap.size w1 W
theorem H3.grow {w : World} {M X P : Array Value} {q : Addr} {f : Int × Int} {w1 W W' : World} (s : H3 w M X P q f w1 W) (hb : Below W.heap.size W W') : H3 w M X P q f w1 W' :=
 ⟨s.m.below hb s.m.lt, s.x.below hb s.x.lt, s.p.below hb s.p.lt, (hb.cell (Nat.lt_of_lt_of_le s.lt s.b.size)).trans s.f0, (hb.cell (p := ⟨q.block, q.off + 1, q.spot⟩) (Nat.lt_of_lt_of_le s.lt s.b.size)).trans s.f1, s.lt, s.b.trans (hb.mono s.b.size)⟩
theorem H3.drew {w : World} {M X P : Array Value} {q : Addr} {f : Int × Int} {w1 W : World} (s : H3 w M X P q f w1 W) : H3 w M X P q f w1 W.drew := s.grow (Below.refl _ W).drew
theorem H3.cells {w : World} {h : MH} {m : Mod} {x : RuleM} {A Ap : Option Addr} {c cp b off : Nat} {p : PlaceM} {f : Int × Int} {w1 W : World} (s : H3 w #[.slice h.s m.sT.length h.sc, .slice h.f m.fT.length h.fc, .slice h.r m.rT.length h.rc, .slice h.m m.mT.length h.mc, .slice h.l m.lT.length h.lc, .slice h.i m.iT.length h.ic, .int .i64 m.dT, .int .i64 m.oT, .int .i64 m.vT, .int .i64 m.aT, .slice h.u m.uT.length h.uc] #[.int .i64 x.kind, .int .i64 x.item, .int .i64 x.other, .int .i64 x.n, .int .i64 x.by_, .bool x.always, .slice A x.machines.length c] #[.slice Ap p.length cp] ⟨b, off, none⟩ f w1 W) :
    (W.cell? ⟨w.heap.size, 0, none⟩ = some (.slice h.s m.sT.length h.sc) ∧ W.cell? ⟨w.heap.size, 1, none⟩ = some (.slice h.f m.fT.length h.fc) ∧ W.cell? ⟨w.heap.size, 2, none⟩ = some (.slice h.r m.rT.length h.rc) ∧ W.cell? ⟨w.heap.size, 3, none⟩ = some (.slice h.m m.mT.length h.mc) ∧ W.cell? ⟨w.heap.size, 4, none⟩ = some (.slice h.l m.lT.length h.lc) ∧ W.cell? ⟨w.heap.size, 5, none⟩ = some (.slice h.i m.iT.length h.ic) ∧ W.cell? ⟨w.heap.size, 6, none⟩ = some (.int .i64 m.dT) ∧ W.cell? ⟨w.heap.size, 7, none⟩ = some (.int .i64 m.oT) ∧ W.cell? ⟨w.heap.size, 8, none⟩ = some (.int .i64 m.vT) ∧ W.cell? ⟨w.heap.size, 9, none⟩ = some (.int .i64 m.aT) ∧ W.cell? ⟨w.heap.size, 10, none⟩ = some (.slice h.u m.uT.length h.uc)) ∧ (W.cell? ⟨w.heap.size + 1, 0, none⟩ = some (.int .i64 x.kind) ∧ W.cell? ⟨w.heap.size + 1, 1, none⟩ = some (.int .i64 x.item) ∧ W.cell? ⟨w.heap.size + 1, 2, none⟩ = some (.int .i64 x.other) ∧ W.cell? ⟨w.heap.size + 1, 3, none⟩ = some (.int .i64 x.n) ∧ W.cell? ⟨w.heap.size + 1, 4, none⟩ = some (.int .i64 x.by_) ∧ W.cell? ⟨w.heap.size + 1, 5, none⟩ = some (.bool x.always) ∧ W.cell? ⟨w.heap.size + 1, 6, none⟩ = some (.slice A x.machines.length c)) ∧ W.cell? ⟨w.heap.size + 1 + 1, 0, none⟩ = some (.slice Ap p.length cp) ∧ W.cell? ⟨b, off, none⟩ = some (.int .i64 f.1) ∧ W.cell? ⟨b, off + 1, none⟩ = some (.int .i64 f.2) :=
 ⟨MB.cells s.m, ⟨s.x.cell 0, s.x.cell 1, s.x.cell 2, s.x.cell 3, s.x.cell 4, s.x.cell 5, s.x.cell 6⟩, s.p.cell 0, s.f0, s.f1⟩
end Go.Proofs.YtlnjaemdelnceaaGreatDoor
