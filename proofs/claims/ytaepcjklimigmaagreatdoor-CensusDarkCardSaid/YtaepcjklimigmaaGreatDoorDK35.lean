/- A part of the claim: see its last text. -/
import Derived.Test.YtaepcjklimigmaaGreatDoorDK33
import Derived.Test.YtaepcjklimigmaaGreatDoorDK34
import Derived.Test.YtaepcjklimigmaaGreatDoorDK29
import Derived.Test.YtaepcjklimigmaaGreatDoorDK02

set_option maxRecDepth 100000
set_option maxHeartbeats 16000000
namespace Go.Proofs.YtaepcjklimigmaaGreatDoor
open Go Go.RowKit Go.Proofs
theorem placesM_last (m : Mod) (l : List EvM) : ∀ k, k ≤ l.length → ∃ pre, placesM m (l.take k) = pre ++ [placeAt m l k]
 | 0, _ => ⟨[], rfl⟩
 | k + 1, hk => by
   obtain ⟨pre, h⟩ := placesM_last m l k (by omega)
   rw [placesM_succ (by omega)]
   split
   · exact ⟨_, rfl⟩
   · rename_i hc
     refine ⟨pre, ?_⟩
     rw [List.append_nil, h, placeAt_succ m l (by omega), stepP, if_neg hc]
theorem sizeModel : (Tryz.prog.info? 29).map (·.size) = some 11 := by kernel_rfl
theorem model_range {w : World} {bm : Nat} {h : MH} {m : Mod} (d : Blk w bm 29 #[.slice h.s m.sT.length h.sc, .slice h.f m.fT.length h.fc, .slice h.r m.rT.length h.rc, .slice h.m m.mT.length h.mc, .slice h.l m.lT.length h.lc, .slice h.i m.iT.length h.ic, .int .i64 m.dT, .int .i64 m.oT, .int .i64 m.vT, .int .i64 m.aT, .slice h.u m.uT.length h.uc]) : w.rangeAt bm 0 [.slice h.s m.sT.length h.sc, .slice h.f m.fT.length h.fc, .slice h.r m.rT.length h.rc, .slice h.m m.mT.length h.mc, .slice h.l m.lT.length h.lc, .slice h.i m.iT.length h.ic, .int .i64 m.dT, .int .i64 m.oT, .int .i64 m.vT, .int .i64 m.aT, .slice h.u m.uT.length h.uc] := fun j v hv => by
 rw [Nat.zero_add, d.cell]; simpa using hv
structure RplS (w : World) (h : MH) (m : Mod) (ps : List PlaceM) (v : Value) (wr : World) : Prop where
 b : Below w.heap.size w wr
 bm : Blk wr w.heap.size 29 #[.slice h.s m.sT.length h.sc, .slice h.f m.fT.length h.fc, .slice h.r m.rT.length h.rc, .slice h.m m.mT.length h.mc, .slice h.l m.lT.length h.lc, .slice h.i m.iT.length h.ic, .int .i64 m.dT, .int .i64 m.oT, .int .i64 m.vT, .int .i64 m.aT, .slice h.u m.uT.length h.uc]
 o : OPs w.heap.size wr v ps
theorem RplS.grow {w : World} {h : MH} {m : Mod} {ps : List PlaceM} {v : Value} {wr w1 : World} (s : RplS w h m ps v wr) (hb : Below wr.heap.size wr w1) : RplS w h m ps v w1 := ⟨s.b.trans (hb.mono s.b.size), s.bm.below hb s.bm.lt, s.o.below hb⟩
structure MS (w : World) (M : Array Value) (W : World) : Prop where
 m : Blk W w.heap.size 29 M
 b : Below w.heap.size w W
theorem MS.grow {w : World} {M : Array Value} {W W2 : World} (s : MS w M W) (hb : Below W.heap.size W W2) : MS w M W2 := ⟨s.m.below hb s.m.lt, s.b.trans (hb.mono s.b.size)⟩
theorem MS.drew {w : World} {M : Array Value} {W : World} (s : MS w M W) : MS w M W.drew := ⟨s.m.drew, s.b.drew⟩
theorem MS.cells {w : World} {h : MH} {m : Mod} {W : World} (s : MS w #[.slice h.s m.sT.length h.sc, .slice h.f m.fT.length h.fc, .slice h.r m.rT.length h.rc, .slice h.m m.mT.length h.mc, .slice h.l m.lT.length h.lc, .slice h.i m.iT.length h.ic, .int .i64 m.dT, .int .i64 m.oT, .int .i64 m.vT, .int .i64 m.aT, .slice h.u m.uT.length h.uc] W) : W.cell? ⟨w.heap.size, 0, none⟩ = some (.slice h.s m.sT.length h.sc) ∧ W.cell? ⟨w.heap.size, 1, none⟩ = some (.slice h.f m.fT.length h.fc) ∧ W.cell? ⟨w.heap.size, 2, none⟩ = some (.slice h.r m.rT.length h.rc) ∧ W.cell? ⟨w.heap.size, 3, none⟩ = some (.slice h.m m.mT.length h.mc) ∧ W.cell? ⟨w.heap.size, 4, none⟩ = some (.slice h.l m.lT.length h.lc) ∧ W.cell? ⟨w.heap.size, 5, none⟩ = some (.slice h.i m.iT.length h.ic) ∧ W.cell? ⟨w.heap.size, 6, none⟩ = some (.int .i64 m.dT) ∧ W.cell? ⟨w.heap.size, 7, none⟩ = some (.int .i64 m.oT) ∧ W.cell? ⟨w.heap.size, 8, none⟩ = some (.int .i64 m.vT) ∧ W.cell? ⟨w.heap.size, 9, none⟩ = some (.int .i64 m.aT) ∧ W.cell? ⟨w.heap.size, 10, none⟩ = some (.slice h.u m.uT.length h.uc) := MB.cells s.m
end Go.Proofs.YtaepcjklimigmaaGreatDoor
