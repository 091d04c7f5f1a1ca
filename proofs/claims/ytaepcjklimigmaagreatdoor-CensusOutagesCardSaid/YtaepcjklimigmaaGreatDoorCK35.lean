/- A part of the claim: see its last text. -/
import Derived.Test.YtaepcjklimigmaaGreatDoorCK33
import Derived.Test.YtaepcjklimigmaaGreatDoorCK34
import Derived.Test.YtaepcjklimigmaaGreatDoorCK29
import Derived.Test.YtaepcjklimigmaaGreatDoorCK02

set_option maxRecDepth 100000
set_option maxHeartbeats 16000000
namespace Go.Proofs.YtaepcjklimigmaaGreatDoor
open Go Go.RowKit Go.Proofs
theorem item_of_kind {m : Mod} {n v : Int} (h : kindI m n = v) (hv : v ≠ -1) : ∃ a : Nat, a < m.iT.length ∧ n = (a : Int) + 1 ∧ ∃ ha : a < m.iT.length, m.iT[a].kind = v := by
 have h0 := h
 by_cases h1 : n < 1
 · rw [kindI_no (.inl h1)] at h; exact absurd h.symm hv
 by_cases h2 : (m.iT.length : Int) < n
 · rw [kindI_no (.inr h2)] at h; exact absurd h.symm hv
 obtain ⟨a, ha, rfl⟩ : ∃ a : Nat, a < m.iT.length ∧ n = (a : Int) + 1 := ⟨(n - 1).toNat, by omega, by omega⟩
 rw [kindI_yes ha] at h0
 exact ⟨a, ha, rfl, ha, h0⟩
theorem after_ref (h : MH) (m : Mod) (x : EvM) (j : EvJ) (A : Option Addr) (c : Nat) (q : PlaceM) (w : World) (d : MD w w.heap.size h m) (hm : m.mT.length ≤ 100) (hil : m.iT.length ≤ 100) (ho : x.old.length ≤ 100) (hI : Ints w w.heap.size j.A x.old) (hp : PT w (.slice A q.length c) q) (hr : Room 800 q) (hc : countsB m x = true) :
    Calls Tryz.prog 40 #[.agg #[.slice h.s m.sT.length h.sc, .slice h.f m.fT.length h.fc, .slice h.r m.rT.length h.rc, .slice h.m m.mT.length h.mc, .slice h.l m.lT.length h.lc, .slice h.i m.iT.length h.ic, .int .i64 m.dT, .int .i64 m.oT, .int .i64 m.vT, .int .i64 m.aT, .slice h.u m.uT.length h.uc], .agg #[.slice A q.length c], .agg #[.int .i64 x.kind, .int .i64 x.mach, .int .i64 j.v2, .int .i64 j.v3, .int .i64 x.group, .int .i64 j.v5, .string j.v6, .int .i64 j.v7, .int .i64 j.v8, .int .i64 j.v9, .bool j.v10, .int .i64 j.v11, .slice j.A x.old.length j.c, .slice j.A13 j.n13 j.c13, .slice j.A14 j.n14 j.c14, .int .i64 x.hitem, .int .i64 j.v16, .int .i64 x.hstate, .int .i64 j.v18, .int .i64 j.v19, .bool x.gone, .int .i64 x.outcome]] w (PlaceR w (afterP m q x)) := by
 by_cases hk : x.kind = 2
 · rw [countsB_2 hk, decide_eq_true_eq] at hc
   obtain ⟨a, ha, e, _⟩ := item_of_kind hc (by decide)
   have := rafter_members h m x j A c q w hm ho hI hp hr hk (by omega) (by omega)
   rw [show afterP m q x = x.old.foldl (putOld m x.group) (dropAll q x.group m.mT.length) by simp [afterP, hk]]
   exact this
 · have hk3 : x.kind = 3 := by
     rcases Classical.em (x.kind = 3) with h3 | h3
     · exact h3
     · rw [countsB_0 hk h3] at hc; cases hc
   rw [countsB_3 hk3] at hc
   simp only [Bool.and_eq_true, Bool.or_eq_true, decide_eq_true_eq] at hc
   have hr9 := hr.mono (show 800 ≤ 900 by omega)
   have hB : ∀ b : Bool, b = false ∨ b = true := fun b => by cases b <;> simp
   rcases hc.1 with h1 | h1
   · obtain ⟨a, ha, e, ha', hkd⟩ := item_of_kind h1 (by decide)
     have k1 : (m.iT[a].kind == 1) = true := by rw [hkd]; rfl
     have k2 : (m.iT[a].kind == 2) = false := by rw [hkd]; rfl
     rcases hB x.gone with hg | hg
     · rcases hB (x.hstate != 0) with hs | hs
       · exact rafter_run h m x j A c q w d hp hr9 hil hk a ha e hg k1 k2 hs
       · exact rafter_pool h m x j A c q w d hp hr9 hil hk a ha e hg k1 hs
     · exact rafter_gone h m x j A c q w d hp hr9 hil hk a ha e hg
   · obtain ⟨a, ha, e, ha', hkd⟩ := item_of_kind h1 (by decide)
     have k1 : (m.iT[a].kind == 1) = false := by rw [hkd]; rfl
     have k2 : (m.iT[a].kind == 2) = true := by rw [hkd]; rfl
     rcases hB x.gone with hg | hg
     · rcases hB (x.hstate == 2) with hs | hs
       · exact rafter_job h m x j A c q w d hp hr9 hil hk a ha e hg k1 k2 hs
       · exact rafter_paused h m x j A c q w d hp hr9 hil hk a ha e hg k1 k2 hs
     · exact rafter_gone h m x j A c q w d hp hr9 hil hk a ha e hg
theorem sizeModel : (Tryz.prog.info? 29).map (·.size) = some 11 := by kernel_rfl
theorem model_range {w : World} {bm : Nat} {h : MH} {m : Mod} (d : Blk w bm 29 #[.slice h.s m.sT.length h.sc, .slice h.f m.fT.length h.fc, .slice h.r m.rT.length h.rc, .slice h.m m.mT.length h.mc, .slice h.l m.lT.length h.lc, .slice h.i m.iT.length h.ic, .int .i64 m.dT, .int .i64 m.oT, .int .i64 m.vT, .int .i64 m.aT, .slice h.u m.uT.length h.uc]) : w.rangeAt bm 0 [.slice h.s m.sT.length h.sc, .slice h.f m.fT.length h.fc, .slice h.r m.rT.length h.rc, .slice h.m m.mT.length h.mc, .slice h.l m.lT.length h.lc, .slice h.i m.iT.length h.ic, .int .i64 m.dT, .int .i64 m.oT, .int .i64 m.vT, .int .i64 m.aT, .slice h.u m.uT.length h.uc] := fun j v hv => by
 rw [Nat.zero_add, d.cell]; simpa using hv
theorem range_below {B : Nat} {w w' : World} {b off : Nat} {cs : List Value} (h : w.rangeAt b off cs) (hb : Below B w w') (hlt : b < B) : w'.rangeAt b off cs := fun j v hv => (hb.cell (p := ⟨b, off + j, none⟩) hlt).trans (h j v hv)
structure RplS (w : World) (h : MH) (m : Mod) (ps : List PlaceM) (v : Value) (wr : World) : Prop where
 b : Below w.heap.size w wr
 bm : Blk wr w.heap.size 29 #[.slice h.s m.sT.length h.sc, .slice h.f m.fT.length h.fc, .slice h.r m.rT.length h.rc, .slice h.m m.mT.length h.mc, .slice h.l m.lT.length h.lc, .slice h.i m.iT.length h.ic, .int .i64 m.dT, .int .i64 m.oT, .int .i64 m.vT, .int .i64 m.aT, .slice h.u m.uT.length h.uc]
 o : OPs w.heap.size wr v ps
theorem RplS.grow {w : World} {h : MH} {m : Mod} {ps : List PlaceM} {v : Value} {wr w1 : World} (s : RplS w h m ps v wr) (hb : Below wr.heap.size wr w1) : RplS w h m ps v w1 := ⟨s.b.trans (hb.mono s.b.size), s.bm.below hb s.bm.lt, s.o.below hb⟩
structure MS (w : World) (M : Array Value) (W : World) : Prop where
 m : Blk W w.heap.size 29 M
 b : Below w.heap.size w W
theorem MS.grow {w : World} {M : Array Value} {W W2 : World} (s : MS w M W) (hb : Below W.heap.size W W2) : MS w M W2 := ⟨s.m.below hb s.m.lt, s.b.trans (hb.mono s.b.size)⟩
theorem MS.drew {w : World} {M : Array Value} {W : World} (s : MS w M W) : MS w M W.drew := ⟨s.m.drew, s.b.drew⟩
theorem MS.cells {w : World} {h : MH} {m : Mod} {W : World} (s : MS w #[.slice h.s m.sT.length h.sc, .slice h.f m.fT.length h.fc, .slice h.r m.rT.length h.rc, .slice h.m m.mT.length h.mc, .slice h.l m.lT.length h.lc, .slice h.i m.iT.length h.ic, .int .i64 m.dT, .int .i64 m.oT, .int .i64 m.vT, .int .i64 m.aT, .slice h.u m.uT.length h.uc] W) : W.cell? ⟨w.heap.size, 0, none⟩ = some (.slice h.s m.sT.length h.sc) ∧ W.cell? ⟨w.heap.size, 1, none⟩ = some (.slice h.f m.fT.length h.fc) ∧ W.cell? ⟨w.heap.size, 2, none⟩ = some (.slice h.r m.rT.length h.rc) ∧ W.cell? ⟨w.heap.size, 3, none⟩ = some (.slice h.m m.mT.length h.mc) ∧ W.cell? ⟨w.heap.size, 4, none⟩ = some (.slice h.l m.lT.length h.lc) ∧ W.cell? ⟨w.heap.size, 5, none⟩ = some (.slice h.i m.iT.length h.ic) ∧ W.cell? ⟨w.heap.size, 6, none⟩ = some (.int .i64 m.dT) ∧ W.cell? ⟨w.heap.size, 7, none⟩ = some (.int .i64 m.oT) ∧ W.cell? ⟨w.heap.size, 8, none⟩ = some (.int .i64 m.vT) ∧ W.cell? ⟨w.heap.size, 9, none⟩ = some (.int .i64 m.aT) ∧ W.cell? ⟨w.heap.size, 10, none⟩ = some (.slice h.u m.uT.length h.uc) := MB.cells s.m
end Go.Proofs.YtaepcjklimigmaaGreatDoor
