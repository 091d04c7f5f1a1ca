/- A part of the claim: see its last text. -/
import Derived.Test.YtmjcgcnpeoemdaaGreatDoorUK02
import Derived.Test.YtmjcgcnpeoemdaaGreatDoorUK03
import Derived.Test.YtmjcgcnpeoemdaaGreatDoorUK15
import Derived.Test.YtmjcgcnpeoemdaaGreatDoorUK20

set_option maxRecDepth 100000
set_option maxHeartbeats 16000000
namespace Go.Proofs.YtmjcgcnpeoemdaaGreatDoor
open Go Go.RowKit Go.Proofs
end Go.Proofs.YtmjcgcnpeoemdaaGreatDoor

namespace Go.Proofs.YtmjcgcnpeoemdaaGreatDoor
open Go Go.RowKit Go.Proofs
theorem units_rd (A : Option Addr) (c : Nat) (p : PlaceM) (item : Int) (w : World) (h : PR w w.heap.size A p) (hl : p.length ≤ 9223372036854775807) :
    Calls Tryz.prog 25 #[.agg #[.slice A p.length c], .int .i64 item] w (UnitsQ w (unitsP p item)) := by
 have HB := hide ((Below.refl w.heap.size w).alloc (Nat.le_refl _) (.cells #[.slice A p.length c] 60))
 cases e1 : exI item p.length
 · have HU := hide (unitsP_no e1)
   go_enter Tryz.func25, Tryz.ntmps25
   go_wp2_with (go_at_call 30; refine (exists_ref _ _ _).mono ?_; rintro e w2 ⟨rfl, rfl⟩)
   go_ret
   rw [HU.out]
   exact ⟨none, 0, rfl, ⟨rfl, fun h0 => absurd h0 (by simp)⟩, HB.out⟩
 · have hit : 1 ≤ item ∧ item ≤ (p.length : Int) := by simpa [exI] using e1
   obtain ⟨j, hj, rfl⟩ : ∃ j : Nat, j < p.length ∧ item = (j : Int) + 1 := ⟨(item - 1).toNat, by omega, by omega⟩
   obtain ⟨b, off, A2, c2, rfl, hb, x0, _, _, hu⟩ := h j hj
   have HU := hide (unitsP_yes hj)
   have HT := hide hu
   have hjI : (j : Int) < (p.length : Int) := by omega
   clear hu h hit
   go_enter Tryz.func25, Tryz.ntmps25
   go_wp2_with (go_at_call 30; refine (exists_ref _ _ _).mono ?_; rintro e w2 ⟨rfl, rfl⟩)
   go_ret
   rw [HU.out]
   exact ⟨A2, c2, rfl, (HT.out.below HB.out).more HB.out.size, HB.out⟩
def MacS (l : List UnitM) (st : Int) (w : World) (v i : Value) (wr : World) : Prop := ∃ k : Nat, k ≤ l.length ∧ i = .int .i64 k ∧ Hid (OwnI w.heap.size wr v (((l.take k).filter fun u => decide (u.2 = st)).map (·.1))) ∧ Below w.heap.size w wr
theorem machines_ref (A : Option Addr) (c : Nat) (p : PlaceM) (item st : Int) (w : World) (h : PR w w.heap.size A p) (hl : p.length ≤ 1000) (hul : (unitsP p item).length ≤ 1000) :
    Calls Tryz.prog 12 #[.agg #[.slice A p.length c], .int .i64 item, .int .i64 st] w (IntsR w (machinesP p item st)) := by
 have hb := (Below.refl w.heap.size w).alloc (Nat.le_refl _) (.cells #[.slice A p.length c] 60)
 have HB := hide hb
 have HU := hide (units_rd A c p item _ (h.grow hb) (by omega))
 have HMP := hide (show machinesP p item st = ((unitsP p item).filter fun u => decide (u.2 = st)).map (·.1) from rfl)
 obtain ⟨l, hL⟩ : ∃ l, l = unitsP p item := ⟨_, rfl⟩
 rw [← hL] at HU HMP hul
 clear hL hb h
 go_enter Tryz.func12, Tryz.ntmps12
 go_wp2_with (go_at_call 25; refine HU.out.mono ?_; rintro e w1 ⟨A2, c2, rfl, hr, hb1⟩
              have HR := hide hr
              have HB1 := hide (HB.out.trans (hb1.mono HB.out.size))
              have HO := hide (OwnI.new w1 [] (Nat.le_refl _) (by simp))
              clear hr hb1)
 have HB2 := hide (HB1.out.alloc HB1.out.size (.cells #[] 3))
 go_loopw [8, 9] (fun v i wr => MacS l st w1 v i wr) (fun _ i _ => l.length - (intOf i).toNat)
 case atStart => exact ⟨0, Nat.zero_le _, rfl, HO.out, (Below.refl _ _).alloc (Nat.le_refl _) _⟩
 case round =>
  clear HO
  obtain ⟨k, hk, rfl, hM, hbr⟩ := hrel
  by_cases hlt : k < l.length
  · obtain ⟨b, off, hA, hb, x0, x1⟩ := ((HR.out.below hbr).more hbr.size).at_ hlt
    subst hA
    obtain ⟨x, hx⟩ : ∃ x, x = l[k] := ⟨_, rfl⟩
    have hfx : ((l.take (k + 1)).filter fun u => decide (u.2 = st)).map (·.1) = ((l.take k).filter fun u => decide (u.2 = st)).map (·.1) ++ if x.2 = st then [x.1] else [] := by
     rw [List.take_succ_eq_append_getElem hlt, List.filter_append, hx, List.map_append]
     by_cases e : l[k].2 = st <;> simp [e]
    obtain ⟨q, hq⟩ : ∃ q, q = ((l.take k).filter fun u => decide (u.2 = st)).map (·.1) := ⟨_, rfl⟩
    have hql : q.length ≤ 1000 := by
     rw [hq]; have := List.length_filter_le (fun u : UnitM => decide (u.2 = st)) (l.take k); simp at this ⊢; omega
    rw [← hx] at x0 x1
    rw [← hq] at hM hfx
    have HFX := hide hfx
    have hbw := hide hbr
    clear hfx hx hq
    have hB : ∀ b : Bool, b = false ∨ b = true := fun b => by cases b <;> simp
    rcases hB (x.2 == st) with hpx | hpx
    · have HFY := hide (show (if x.2 = st then [x.1] else []) = [] by simp at hpx; simp [hpx])
      go_wp2_with fail
      go_roundw
      case rel => exact ⟨k + 1, by omega, by go_num, hide (by rw [HFX.out, HFY.out]; simpa using hM.out), hbw.out⟩
      case measure => simp [intOf]; omega
    · have HFY := hide (show (if x.2 = st then [x.1] else []) = [x.1] by simp at hpx; simp [hpx])
      have HO2 := hide (hM.out.alloc (.cells #[.int .i64 x.1] 3))
      have HR2 := hide (Ints.newRow2 wr 3 [x.1] rfl)
      have HZ := hide (show w1.heap.size ≤ (wr.alloc (.cells #[.int .i64 x.1] 3)).heap.size by have := hbw.out.size; simp; omega)
      go_wp2_with (at_builtin; refine append_ints rfl _ _ rfl w1.heap.size _ q rfl HO2.out (wr.heap.size + 1) (some ⟨wr.heap.size, 0, none⟩) _ [x.1] rfl HR2.out (by simp; omega) HZ.out ?_; intro v3 w3 ho3 hg3 _; have ho3 := hide ho3; have hg3 := hide hg3)
      have hb3 : Below w1.heap.size w1 w3 := (hbw.out.alloc hbw.out.size (.cells #[.int .i64 x.1] 3)).grown hg3.out (by have := hbw.out.size; simp; omega) (fun g hg => (HO2.out.lt g hg).1)
      go_roundw
      case rel => exact ⟨k + 1, by omega, by go_num, hide (by rw [HFX.out, HFY.out]; simpa using ho3.out), hb3⟩
      case measure => simp [intOf]; omega
  · obtain rfl : k = l.length := by omega
    have hM2 := hM.out
    rw [List.take_length, ← HMP.out] at hM2
    have HM := hide hM2
    clear hM hM2
    go_wp2_with fail
    go_ret
    exact ⟨_, rfl, own_lowerI HM.out HB1.out.size, HB1.out.trans (hbr.mono HB1.out.size)⟩
end Go.Proofs.YtmjcgcnpeoemdaaGreatDoor
