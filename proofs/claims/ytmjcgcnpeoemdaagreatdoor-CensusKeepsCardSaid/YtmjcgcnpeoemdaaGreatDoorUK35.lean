/- A part of the claim: see its last text. -/
import Derived.Test.YtmjcgcnpeoemdaaGreatDoorUK02
import Derived.Deep.MidRow
import Derived.Test.YtmjcgcnpeoemdaaGreatDoorUK34
import Derived.Test.YtmjcgcnpeoemdaaGreatDoorUK21
import Derived.BigQuiet
import Derived.Deep.QuietTactic
import Derived.Test.YtmjcgcnpeoemdaaGreatDoorUK29
import Derived.Test.YtmjcgcnpeoemdaaGreatDoorUK12

set_option maxRecDepth 100000
set_option maxHeartbeats 16000000
namespace Go.Proofs.YtmjcgcnpeoemdaaGreatDoor
open Go Go.RowKit Go.Proofs
structure MS (w : World) (M : Array Value) (W : World) : Prop where
 m : Blk W w.heap.size 29 M
 b : Below w.heap.size w W
theorem MS.grow {w : World} {M : Array Value} {W W2 : World} (s : MS w M W) (hb : Below W.heap.size W W2) : MS w M W2 := ⟨s.m.below hb s.m.lt, s.b.trans (hb.mono s.b.size)⟩
theorem MS.drew {w : World} {M : Array Value} {W : World} (s : MS w M W) : MS w M W.drew := ⟨s.m.drew, s.b.drew⟩
theorem MS.cells {w : World} {h : MH} {m : Mod} {W : World} (s : MS w #[.slice h.s m.sT.length h.sc, .slice h.f m.fT.length h.fc, .slice h.r m.rT.length h.rc, .slice h.m m.mT.length h.mc, .slice h.l m.lT.length h.lc, .slice h.i m.iT.length h.ic, .int .i64 m.dT, .int .i64 m.oT, .int .i64 m.vT, .int .i64 m.aT, .slice h.u m.uT.length h.uc] W) : W.cell? ⟨w.heap.size, 0, none⟩ = some (.slice h.s m.sT.length h.sc) ∧ W.cell? ⟨w.heap.size, 1, none⟩ = some (.slice h.f m.fT.length h.fc) ∧ W.cell? ⟨w.heap.size, 2, none⟩ = some (.slice h.r m.rT.length h.rc) ∧ W.cell? ⟨w.heap.size, 3, none⟩ = some (.slice h.m m.mT.length h.mc) ∧ W.cell? ⟨w.heap.size, 4, none⟩ = some (.slice h.l m.lT.length h.lc) ∧ W.cell? ⟨w.heap.size, 5, none⟩ = some (.slice h.i m.iT.length h.ic) ∧ W.cell? ⟨w.heap.size, 6, none⟩ = some (.int .i64 m.dT) ∧ W.cell? ⟨w.heap.size, 7, none⟩ = some (.int .i64 m.oT) ∧ W.cell? ⟨w.heap.size, 8, none⟩ = some (.int .i64 m.vT) ∧ W.cell? ⟨w.heap.size, 9, none⟩ = some (.int .i64 m.aT) ∧ W.cell? ⟨w.heap.size, 10, none⟩ = some (.slice h.u m.uT.length h.uc) := MB.cells s.m
theorem sizeModel : (Tryz.prog.info? 29).map (·.size) = some 11 := by kernel_rfl
theorem model_range {w : World} {bm : Nat} {h : MH} {m : Mod} (d : Blk w bm 29 #[.slice h.s m.sT.length h.sc, .slice h.f m.fT.length h.fc, .slice h.r m.rT.length h.rc, .slice h.m m.mT.length h.mc, .slice h.l m.lT.length h.lc, .slice h.i m.iT.length h.ic, .int .i64 m.dT, .int .i64 m.oT, .int .i64 m.vT, .int .i64 m.aT, .slice h.u m.uT.length h.uc]) : w.rangeAt bm 0 [.slice h.s m.sT.length h.sc, .slice h.f m.fT.length h.fc, .slice h.r m.rT.length h.rc, .slice h.m m.mT.length h.mc, .slice h.l m.lT.length h.lc, .slice h.i m.iT.length h.ic, .int .i64 m.dT, .int .i64 m.oT, .int .i64 m.vT, .int .i64 m.aT, .slice h.u m.uT.length h.uc] := fun j v hv => by
 rw [Nat.zero_add, d.cell]; simpa using hv
theorem range_below {B : Nat} {w w' : World} {b off : Nat} {cs : List Value} (h : w.rangeAt b off cs) (hb : Below B w w') (hlt : b < B) : w'.rangeAt b off cs := fun j v hv => (hb.cell (p := ⟨b, off + j, none⟩) hlt).trans (h j v hv)
def SameI (p : PlaceM) (W0 : World) (i : Value) (wr : World) : Prop := ∃ k : Nat, k ≤ p.length ∧ i = .int .i64 k ∧ Below W0.heap.size W0 wr
def SameJ (l : List UnitM) (W0 : World) (i : Value) (wr : World) : Prop := ∃ k : Nat, k ≤ l.length ∧ i = .int .i64 k ∧ Below W0.heap.size W0 wr
theorem below_drewNs {B : Nat} {a b : World} (h : Below B a b) (n : Nat) : Below B a (b.drewN n) := by
 induction n with
 | zero => exact h
 | succ n ih => exact ih.drew
theorem same_ref20 (A A2 : Option Addr) (c c2 : Nat) (p : PlaceM) (w : World) (h1 : PT w (.slice A p.length c) p) (h2 : PT w (.slice A2 p.length c2) p) (hs : Short p) :
    Calls Tryz.prog 24 #[.agg #[.slice A p.length c], .agg #[.slice A2 p.length c2]] w (AnsR w (.bool true)) := by
 obtain ⟨W0, e0⟩ : ∃ W0, W0 = (w.alloc (.cells #[.slice A p.length c] 60)).alloc (.cells #[.slice A2 p.length c2] 60) := ⟨_, rfl⟩
 have hb : Below w.heap.size w W0 := by rw [e0]; exact ((Below.refl w.heap.size w).alloc (Nat.le_refl _) _).alloc (by simp) _
 have ha : Blk W0 w.heap.size 60 #[.slice A p.length c] := by rw [e0]; exact (Blk.new w _ _).alloc _
 have hc : Blk W0 (w.heap.size + 1) 60 #[.slice A2 p.length c2] := by rw [e0]; simpa using Blk.new (w.alloc (.cells #[.slice A p.length c] 60)) 60 #[.slice A2 p.length c2]
 have HF := hide (fun W (hW : Below W0.heap.size W0 W) => (⟨ha.below hW ha.lt, hc.below hW hc.lt, (h1.below hb).below hW, (h2.below hb).below hW⟩ : Blk W w.heap.size 60 #[.slice A p.length c] ∧ Blk W (w.heap.size + 1) 60 #[.slice A2 p.length c2] ∧ PT W (.slice A p.length c) p ∧ PT W (.slice A2 p.length c2) p))
 have HB := hide hb
 have HS := hide hs
 have hpl := hs.1
 have HE := hide e0
 clear hb ha hc h1 h2 hs e0
 go_enter Tryz.func24, Tryz.ntmps24
 go_wp2_with fail
 rw [← HE.out]
 go_loopw [5] (fun i wr => SameI p W0 i wr) (fun i _ => p.length - (intOf i).toNat)
 case atStart => exact ⟨0, Nat.zero_le _, rfl, Below.refl _ _⟩
 case round =>
  obtain ⟨k, hk, rfl, hbr⟩ := hrel
  obtain ⟨ha, hc, q1, q2⟩ := HF.out wr hbr
  have a0 := ha.cell 0
  have al := ha.lt
  have c0 := hc.cell 0
  have cl := hc.lt
  simp at a0 c0
  have HBR := hide hbr
  clear ha hc hbr
  by_cases hlt : k < p.length
  · obtain ⟨b, off, A3, c3, hA, hb, x0, hu⟩ := q1.at_ hlt
    obtain ⟨b', off', A4, c4, hA', hb', x0', hu'⟩ := q2.at_ hlt
    have hl999 := HS.out.2 _ (List.getElem_mem hlt)
    subst hA hA'
    have HU := hide (And.intro hu hu')
    clear q1 q2 hu hu'
    go_wp2_with fail
    go_quiet (fail)
    rename World => W1
    have HBD := hide (fun n => below_drewNs HBR.out n)
    go_wp2_with fail
    have HBQ := hide (HBD.out nq)
    go_loopw [6] (fun i wr => SameJ p[k] W0 i wr) (fun i _ => p[k].length - (intOf i).toNat)
    case atStart => exact ⟨0, Nat.zero_le _, rfl, HBQ.out⟩
    case round =>
     obtain ⟨n, hn, rfl, hbr⟩ := hrel
     obtain ⟨ha, hc, q1, q2⟩ := HF.out wr hbr
     have a0 := ha.cell 0
     have al := ha.lt
     have c0 := hc.cell 0
     have cl := hc.lt
     simp at a0 c0
     obtain ⟨b1, o1, A5, c5, e1, hb1, x1, hu1⟩ := q1.at_ hlt
     obtain ⟨b2, o2, A6, c6, e2, hb2, x2, hu2⟩ := q2.at_ hlt
     obtain ⟨rfl, rfl⟩ : b = b1 ∧ off = o1 := by injection e1 with e1; injection e1 with h1 h2; exact ⟨h1, h2⟩
     obtain ⟨rfl, rfl⟩ : b' = b2 ∧ off' = o2 := by injection e2 with e2; injection e2 with h1 h2; exact ⟨h1, h2⟩
     have HBQ := hide hbr
     clear ha hc q1 q2 e1 e2 hbr
     by_cases hln : n < p[k].length
     · obtain ⟨b3, o3, e3, hb3, y0, y1⟩ := hu1.at_ hln
       obtain ⟨b4, o4, e4, hb4, z0, z1⟩ := hu2.at_ hln
       subst e3 e4
       clear hu1 hu2
       go_wp2_with fail
       go_quiet (fail)
       have HBQ := hide (below_drewNs HBQ.out nq)
       go_wp2_with fail
       go_roundw
       case rel => exact ⟨n + 1, by omega, by go_num, HBQ.out⟩
       case measure => simp [intOf]; omega
     · obtain rfl : n = p[k].length := by omega
       clear hu1 hu2
       go_wp2_with fail
       go_roundw
       case rel => exact ⟨k + 1, by omega, by go_num, HBQ.out⟩
       case measure => simp [intOf]; omega
  · obtain rfl : k = p.length := by omega
    go_wp2_with fail
    go_ret
    exact ⟨rfl, HB.out.trans (HBR.out.mono HB.out.size)⟩
def SameK (n : Nat) (W0 : World) (i : Value) (wr : World) : Prop := ∃ k : Nat, k ≤ n ∧ i = .int .i64 k ∧ Below W0.heap.size W0 wr
theorem samePlaces_ref (A A2 : Option Addr) (c c2 : Nat) (ps : List PlaceM) (w : World) (h1 : PsR w A ps) (h2 : PsR w A2 ps) (hs : ∀ p ∈ ps, Short p) (hl : ps.length ≤ 9223372036854775807) :
    Calls Tryz.prog 9 #[.slice A ps.length c, .slice A2 ps.length c2] w (AnsR w (.bool true)) := by
 have HS := hide hs
 have HF := hide (And.intro h1 h2)
 clear hs h1 h2
 go_enter Tryz.func9, Tryz.ntmps9
 go_wp2_with fail
 go_loopw [5] (fun i wr => SameK ps.length w i wr) (fun i _ => ps.length - (intOf i).toNat)
 case atStart => exact ⟨0, Nat.zero_le _, rfl, Below.refl _ _⟩
 case round =>
  obtain ⟨k, hk, rfl, hbr⟩ := hrel
  have HBR := hide hbr
  by_cases hlt : k < ps.length
  · obtain ⟨b, off, A3, c3, hA, hb, x0, hp⟩ := (HF.out.1.grow hbr) k hlt
    obtain ⟨b', off', A4, c4, hA', hb', x0', hp'⟩ := (HF.out.2.grow hbr) k hlt
    subst hA hA'
    have HC := hide (same_ref20 A3 A4 c3 c4 ps[k] wr.drew (hp.below (Below.refl _ wr).drew) (hp'.below (Below.refl _ wr).drew) (HS.out _ (List.getElem_mem hlt)))
    clear hp hp' hbr
    go_wp2_with fail
    go_region_law
     ((go_simp; go_at_call 24; refine HC.out.mono ?_; rintro e w2 ⟨rfl, hb2⟩
       have HB2 := hide (show Below w.heap.size w w2 from (HBR.out.drew).trans (hb2.mono HBR.out.size))
       clear hb2
       dsimp only))
    all_goals
     go_wp2_with fail
     go_roundw
     case rel => exact ⟨k + 1, by omega, by go_num, HB2.out⟩
     case measure => simp [intOf]; omega
  · obtain rfl : k = ps.length := by omega
    go_wp2_with fail
    go_ret
    exact ⟨rfl, HBR.out⟩
theorem short_places {m : Mod} {l : List EvM} (hi : m.iT.length ≤ 1000) (ho : ∀ x ∈ m.iT, x.on.length ≤ 100) (hl : ∀ x ∈ l, x.old.length ≤ 10) (h60 : l.length ≤ 60) : ∀ k, k ≤ l.length → ∀ p ∈ placesM m (l.take k), Short p
 | 0, _ => fun p hp => by
   obtain rfl : p = initP m := by simpa [placesM, placesGo] using hp
   exact (Room.placeAt hi ho hl 0).short (by omega)
 | k + 1, hk => fun p hp => by
   rw [placesM_succ (by omega)] at hp
   rcases List.mem_append.1 hp with h | h
   · exact short_places hi ho hl h60 k (by omega) p h
   · split at h
     · obtain rfl : p = placeAt m l (k + 1) := by simpa using h
       exact (Room.placeAt hi ho hl (k + 1)).short (by omega)
     · simp at h
theorem places_len (m : Mod) (l : List EvM) : (placesM m l).length ≤ l.length + 1 := by
 rw [placesM, List.length_cons]
 exact Nat.succ_le_succ (placesGo_len m l _)
theorem breachesM_len {m : Mod} {l : List EvM} (hr : m.uT.length ≤ 100) (hl : l.length ≤ 60) : (breachesM m l).length ≤ 6000 :=
 Nat.le_trans (breachesTo_len m l l.length) (Nat.le_trans (Nat.mul_le_mul hl hr) (by decide))
end Go.Proofs.YtmjcgcnpeoemdaaGreatDoor
