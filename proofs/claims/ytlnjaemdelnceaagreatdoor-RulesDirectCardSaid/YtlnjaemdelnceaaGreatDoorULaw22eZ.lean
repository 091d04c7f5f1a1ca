/- A part of the claim: see its last text. -/
import Derived.Test.YtlnjaemdelnceaaGreatDoorUK33
import Derived.Test.YtlnjaemdelnceaaGreatDoorUK34
import Derived.Test.YtlnjaemdelnceaaGreatDoorUK36
import Derived.Test.YtlnjaemdelnceaaGreatDoorUK37

set_option maxRecDepth 100000
set_option maxHeartbeats 16000000
namespace Go.Proofs.YtlnjaemdelnceaaGreatDoor
open Go Go.RowKit Go.Proofs
theorem FewL.m {m : Mod} (h : FewL m) : FewM m := ⟨by have := h.lm; omega, by have := h.lr; omega, by have := h.lf; omega, by have := h.ls; omega⟩
theorem md_rules {w : World} {B : Nat} {h : MH} {m : Mod} (d : MD w B h m) : ∀ x ∈ m.uT, x.machines.length ≤ 9223372036854775807 := by
 intro x hx
 obtain ⟨i, hi, rfl⟩ := List.getElem_of_mem hx
 obtain ⟨b, off, A2, c2, _, _, _, _, _, _, _, _, _, h1, h2, _⟩ := d.dU.rule hi
 omega
theorem plr1 {w : World} {g : Nat} {A : Option Addr} {c : Nat} {p : PlaceM} (hb : Blk w g 35 #[.slice A p.length c]) (hl : p.length ≤ 9223372036854775807) (hp : PR w w.heap.size A p) : PLR w w.heap.size (some ⟨g, 0, none⟩) [p] := by
 intro i hi
 obtain rfl : i = 0 := by simp at hi; omega
 exact ⟨g, 0, A, c, rfl, hb.lt, hb.cell 0, hl, hp⟩
theorem plr2 {w : World} {g : Nat} {A A2 : Option Addr} {c c2 : Nat} {p q : PlaceM} (hb : Blk w g 35 #[.slice A p.length c, .slice A2 q.length c2]) (hl : p.length ≤ 9223372036854775807 ∧ q.length ≤ 9223372036854775807) (hp : PR w w.heap.size A p) (hq : PR w w.heap.size A2 q) : PLR w w.heap.size (some ⟨g, 0, none⟩) [p, q] := by
 intro i hi
 rcases i with _ | _ | i
 · exact ⟨g, 0, A, c, rfl, hb.lt, hb.cell 0, hl.1, hp⟩
 · exact ⟨g, 0, A2, c2, rfl, hb.lt, hb.cell 1, hl.2, hq⟩
 · simp at hi; omega
theorem large_one (h : MH) (m : Mod) (A : Option Addr) (c : Nat) (p : PlaceM) (W : World) (d : MD W W.heap.size h m) (hl : p.length ≤ 9223372036854775807) (hp : PR W W.heap.size A p) :
    Calls Tryz.prog 10 #[.agg #[.slice h.s m.sT.length h.sc, .slice h.f m.fT.length h.fc, .slice h.r m.rT.length h.rc, .slice h.m m.mT.length h.mc, .slice h.l m.lT.length h.lc, .slice h.i m.iT.length h.ic, .int .i64 m.dT, .int .i64 m.oT, .int .i64 m.vT, .int .i64 m.aT, .slice h.u m.uT.length h.uc], .slice (some ⟨W.heap.size, 0, none⟩) 1 1] (W.alloc (.cells #[.slice A p.length c] 35)) (Large m [p] (W.alloc (.cells #[.slice A p.length c] 35))) := by
 have hb : Below W.heap.size W (W.alloc (.cells #[.slice A p.length c] 35)) := (Below.refl _ _).alloc (Nat.le_refl _) _
 exact large22 h m (some ⟨W.heap.size, 0, none⟩) 1 [p] _ (d.grow hb) (plr1 (Blk.new W _ _) hl (hp.grow hb)) (by simp)
theorem large_oneD (h : MH) (m : Mod) (A : Option Addr) (c : Nat) (p : PlaceM) (W : World) (d : MD W W.heap.size h m) (hl : p.length ≤ 9223372036854775807) (hp : PR W W.heap.size A p) :
    Calls Tryz.prog 10 #[.agg #[.slice h.s m.sT.length h.sc, .slice h.f m.fT.length h.fc, .slice h.r m.rT.length h.rc, .slice h.m m.mT.length h.mc, .slice h.l m.lT.length h.lc, .slice h.i m.iT.length h.ic, .int .i64 m.dT, .int .i64 m.oT, .int .i64 m.vT, .int .i64 m.aT, .slice h.u m.uT.length h.uc], .slice (some ⟨W.heap.size, 0, none⟩) 1 1] (W.alloc (.cells #[.slice A p.length c] 35)).drew (Large m [p] (W.alloc (.cells #[.slice A p.length c] 35)).drew) := by
 have hb : Below W.heap.size W (W.alloc (.cells #[.slice A p.length c] 35)).drew := ((Below.refl _ _).alloc (Nat.le_refl _) _).drew
 exact large22 h m (some ⟨W.heap.size, 0, none⟩) 1 [p] _ (d.grow hb) (plr1 (Blk.new W _ _).drew hl (hp.grow hb)) (by simp)
theorem large_two (h : MH) (m : Mod) (A A2 : Option Addr) (c c2 : Nat) (p q : PlaceM) (W : World) (d : MD W W.heap.size h m) (hl : p.length ≤ 9223372036854775807 ∧ q.length ≤ 9223372036854775807) (hp : PR W W.heap.size A p) (hq : PR W W.heap.size A2 q) :
    Calls Tryz.prog 10 #[.agg #[.slice h.s m.sT.length h.sc, .slice h.f m.fT.length h.fc, .slice h.r m.rT.length h.rc, .slice h.m m.mT.length h.mc, .slice h.l m.lT.length h.lc, .slice h.i m.iT.length h.ic, .int .i64 m.dT, .int .i64 m.oT, .int .i64 m.vT, .int .i64 m.aT, .slice h.u m.uT.length h.uc], .slice (some ⟨W.heap.size, 0, none⟩) 2 2] (W.alloc (.cells #[.slice A p.length c, .slice A2 q.length c2] 35)) (Large m [p, q] (W.alloc (.cells #[.slice A p.length c, .slice A2 q.length c2] 35))) := by
 have hb : Below W.heap.size W (W.alloc (.cells #[.slice A p.length c, .slice A2 q.length c2] 35)) := (Below.refl _ _).alloc (Nat.le_refl _) _
 exact large22 h m (some ⟨W.heap.size, 0, none⟩) 2 [p, q] _ (d.grow hb) (plr2 (Blk.new W _ _) hl (hp.grow hb) (hq.grow hb)) (by simp)
theorem small_units {p : PlaceM} (h : ∀ l ∈ p, l.length ≤ 24) (i : Int) : (unitsP p i).length ≤ 1000 := units_short (fun l hl => by have := h l hl; omega) i
end Go.Proofs.YtlnjaemdelnceaaGreatDoor
