/- A part of the claim: see its last text. -/
import Derived.Test.YtmjcgcnpeoemdaaGreatDoorUK04
import Derived.Test.YtmjcgcnpeoemdaaGreatDoorUK28
import Derived.Test.YtmjcgcnpeoemdaaGreatDoorUK08
import Derived.Test.YtmjcgcnpeoemdaaGreatDoorUK11
import Derived.Test.YtmjcgcnpeoemdaaGreatDoorUK09

set_option maxRecDepth 100000
set_option maxHeartbeats 16000000
namespace Go.Proofs.YtmjcgcnpeoemdaaGreatDoor
open Go Go.RowKit Go.Proofs
def SomeB (w : World) (e : Ending) (w' : World) : Prop := (∃ b, e = .returned (.bool b)) ∧ Below w.heap.size w w'
theorem few14_ref (h : MH) (m : Mod) (w : World) (d : MD w w.heap.size h m) :
    Calls Tryz.prog 13 #[.agg #[.slice h.s m.sT.length h.sc, .slice h.f m.fT.length h.fc, .slice h.r m.rT.length h.rc, .slice h.m m.mT.length h.mc, .slice h.l m.lT.length h.lc, .slice h.i m.iT.length h.ic, .int .i64 m.dT, .int .i64 m.oT, .int .i64 m.vT, .int .i64 m.aT, .slice h.u m.uT.length h.uc]] w (SomeB w) := by
 have l0 := d.sl
 have l1 := d.fl
 have l2 := d.rl
 have l3 := d.ml
 have l5 := d.il
 have l6 := d.ul
 have D := hide d; clear d
 by_cases hbad : 24 < m.sT.length ∨ 24 < m.fT.length ∨ 24 < m.rT.length ∨ 24 < m.mT.length ∨ 24 < m.lT.length ∨ 24 < m.iT.length ∨ 48 < m.uT.length
 · clear l0 l1 l2 l3 l5 l6 D
   rcases hbad with q | q | q | q | q | q | q
   all_goals
    go_enter Tryz.func13, Tryz.ntmps13
    go_wp2_with fail
    all_goals
     go_ret
     exact ⟨⟨false, rfl⟩, (Below.refl _ _).alloc (Nat.le_refl _) _⟩
 · obtain ⟨q0, q1, q2, q3, q4, q5, q6⟩ : ¬ 24 < m.sT.length ∧ ¬ 24 < m.fT.length ∧ ¬ 24 < m.rT.length ∧ ¬ 24 < m.mT.length ∧ ¬ 24 < m.lT.length ∧ ¬ 24 < m.iT.length ∧ ¬ 48 < m.uT.length := by omega
   clear hbad
   go_enter Tryz.func13, Tryz.ntmps13
   go_wp2_with fail
   clear q0 q1 q2 q3 q4 q5 q6
   go_loopw [3, 4] (fun v i wr => ∃ (k : Nat) (n : Int), k ≤ m.sT.length ∧ i = .int .i64 k ∧ v = .int .i64 n ∧ Hid (MW w w.heap.size wr h m)) (fun _ i _ => m.sT.length - (intOf i).toNat)
   case atStart => exact ⟨0, _, Nat.zero_le _, rfl, rfl, MW.start w h m⟩
   case round =>
    obtain ⟨k, n, hk, rfl, rfl, hW⟩ := hrel
    obtain ⟨a0, a1, a2, a3, a4, a5, a6, a7, a8, a9, a10⟩ := MB.cells hW.out.blk
    have hL1 := hW.out.lt
    clear a1 a2 a3 a4 a5 a6 a7 a8 a9 a10
    by_cases hlt : k < m.sT.length
    · obtain ⟨b, off, hA, hb, x0⟩ := str_at (hW.out.md D.out).dS hlt
      rw [hA] at a0
      clear hA
      have hsz : m.sT[k].size ≤ 9223372036854775807 := D.out.sf _ (List.getElem_mem _)
      go_wp2_with fail
      all_goals
       go_roundw
       case rel => exact ⟨k + 1, _, by omega, by go_num, rfl, hW⟩
       case measure => simp [intOf]; omega
    · go_wp2_with fail
      go_loopw [3, 5] (fun v i wr => ∃ (k : Nat) (n : Int), k ≤ m.fT.length ∧ i = .int .i64 k ∧ v = .int .i64 n ∧ Hid (MW w w.heap.size wr h m)) (fun _ i _ => m.fT.length - (intOf i).toNat)
      case atStart => exact ⟨0, _, Nat.zero_le _, rfl, rfl, hW⟩
      case round =>
       clear hW hL1 a0
       obtain ⟨k, n, hk, rfl, rfl, hW⟩ := hrel
       obtain ⟨a0, a1, a2, a3, a4, a5, a6, a7, a8, a9, a10⟩ := MB.cells hW.out.blk
       have hL1 := hW.out.lt
       clear a0 a2 a3 a4 a5 a6 a7 a8 a9 a10
       by_cases hlt : k < m.fT.length
       · obtain ⟨b, off, hA, hb, x0⟩ := str_at (hW.out.md D.out).dF hlt
         rw [hA] at a1
         clear hA
         have hsz : m.fT[k].size ≤ 9223372036854775807 := D.out.ff _ (List.getElem_mem _)
         go_wp2_with fail
         all_goals
          go_roundw
          case rel => exact ⟨k + 1, _, by omega, by go_num, rfl, hW⟩
          case measure => simp [intOf]; omega
       · go_wp2_with fail
         go_loopw [3, 6] (fun v i wr => ∃ (k : Nat) (n : Int), k ≤ m.rT.length ∧ i = .int .i64 k ∧ v = .int .i64 n ∧ Hid (MW w w.heap.size wr h m)) (fun _ i _ => m.rT.length - (intOf i).toNat)
         case atStart => exact ⟨0, _, Nat.zero_le _, rfl, rfl, hW⟩
         case round =>
          clear hW hL1 a1
          obtain ⟨k, n, hk, rfl, rfl, hW⟩ := hrel
          obtain ⟨a0, a1, a2, a3, a4, a5, a6, a7, a8, a9, a10⟩ := MB.cells hW.out.blk
          have hL1 := hW.out.lt
          clear a0 a1 a3 a4 a5 a6 a7 a8 a9 a10
          by_cases hlt : k < m.rT.length
          · obtain ⟨b, off, hA, hb, x0, x1, x2, hsz⟩ := (hW.out.md D.out).dR.rack hlt
            rw [hA] at a2
            clear hA
            go_wp2_with fail
            all_goals
             go_roundw
             case rel => exact ⟨k + 1, _, by omega, by go_num, rfl, hW⟩
             case measure => simp [intOf]; omega
          · go_wp2_with fail
            go_loopw [3, 7] (fun v i wr => ∃ (k : Nat) (n : Int), k ≤ m.mT.length ∧ i = .int .i64 k ∧ v = .int .i64 n ∧ Hid (MW w w.heap.size wr h m)) (fun _ i _ => m.mT.length - (intOf i).toNat)
            case atStart => exact ⟨0, _, Nat.zero_le _, rfl, rfl, hW⟩
            case round =>
             clear hW hL1 a2
             obtain ⟨k, n, hk, rfl, rfl, hW⟩ := hrel
             obtain ⟨a0, a1, a2, a3, a4, a5, a6, a7, a8, a9, a10⟩ := MB.cells hW.out.blk
             have hL1 := hW.out.lt
             clear a0 a1 a2 a4 a5 a6 a7 a8 a9 a10
             by_cases hlt : k < m.mT.length
             · obtain ⟨b, off, hA, hb, x0, x1, x2, hsz⟩ := (hW.out.md D.out).dM.mach hlt
               rw [hA] at a3
               clear hA
               go_wp2_with fail
               all_goals
                go_roundw
                case rel => exact ⟨k + 1, _, by omega, by go_num, rfl, hW⟩
                case measure => simp [intOf]; omega
             · go_wp2_with fail
               go_loopw [3, 8] (fun v i wr => ∃ (k : Nat) (n : Int), k ≤ m.iT.length ∧ i = .int .i64 k ∧ v = .int .i64 n ∧ Hid (MW w w.heap.size wr h m)) (fun _ i _ => m.iT.length - (intOf i).toNat)
               case atStart => exact ⟨0, _, Nat.zero_le _, rfl, rfl, hW⟩
               case round =>
                clear hW hL1 a3
                obtain ⟨k, n, hk, rfl, rfl, hW⟩ := hrel
                obtain ⟨a0, a1, a2, a3, a4, a5, a6, a7, a8, a9, a10⟩ := MB.cells hW.out.blk
                have hL1 := hW.out.lt
                clear a0 a1 a2 a3 a4 a6 a7 a8 a9 a10
                by_cases hlt : k < m.iT.length
                · obtain ⟨b, off, A2, c2, hA, hb, x0, x1, x2, x3, x4, x5, x6, hsz, _⟩ := (hW.out.md D.out).dI.item hlt
                  rw [hA] at a5
                  clear hA
                  have hltI : (k : Int) < (m.iT.length : Int) := by omega
                  go_wp2_with fail
                  go_quiet (fail)
                  go_wp2_with fail
                  all_goals
                   go_roundw
                   case rel => exact ⟨k + 1, _, by omega, by go_num, rfl, hide (hW.out.drewN _)⟩
                   case measure => simp [intOf]; omega
                · go_wp2_with fail
                  go_loopw [3, 9] (fun v i wr => ∃ (k : Nat) (n : Int), k ≤ m.uT.length ∧ i = .int .i64 k ∧ v = .int .i64 n ∧ Hid (MW w w.heap.size wr h m)) (fun _ i _ => m.uT.length - (intOf i).toNat)
                  case atStart => exact ⟨0, _, Nat.zero_le _, rfl, rfl, hW⟩
                  case round =>
                   clear hW hL1 a5
                   obtain ⟨k, n, hk, rfl, rfl, hW⟩ := hrel
                   obtain ⟨a0, a1, a2, a3, a4, a5, a6, a7, a8, a9, a10⟩ := MB.cells hW.out.blk
                   have hL1 := hW.out.lt
                   clear a0 a1 a2 a3 a4 a5 a6 a7 a8 a9
                   by_cases hlt : k < m.uT.length
                   · obtain ⟨b, off, A2, c2, hA, hb, x0, x1, x2, x3, x4, x5, x6, _⟩ := (hW.out.md D.out).dU.rule hlt
                     rw [hA] at a10
                     clear hA
                     go_wp2_with fail
                     all_goals
                      go_roundw
                      case rel => exact ⟨k + 1, _, by omega, by go_num, rfl, hW⟩
                      case measure => simp [intOf]; omega
                   · go_wp2_with fail
                     go_ret
                     exact ⟨⟨_, rfl⟩, hW.out.b⟩
def Few58 (m : Mod) (l : List EvM) (most : Int) (w : World) (e : Ending) (w' : World) : Prop :=
 ∃ b : Bool, e = .returned (.bool b) ∧ Below w.heap.size w w' ∧ (b = true → validM m = true ∧ (l.length : Int) ≤ most ∧ ∀ x ∈ l, x.old.length ≤ 10)
theorem few58_ref (h : MH) (m : Mod) (l : List EvM) (A : Option Addr) (c : Nat) (most : Int) (w : World) (d : MD w w.heap.size h m) (hE : Rows encEv 22 w w.heap.size A l) (hl : l.length ≤ 9223372036854775807) :
    Calls Tryz.prog 5 #[.agg #[.slice h.s m.sT.length h.sc, .slice h.f m.fT.length h.fc, .slice h.r m.rT.length h.rc, .slice h.m m.mT.length h.mc, .slice h.l m.lT.length h.lc, .slice h.i m.iT.length h.ic, .int .i64 m.dT, .int .i64 m.oT, .int .i64 m.vT, .int .i64 m.aT, .slice h.u m.uT.length h.uc], .slice A l.length c, .int .i64 most] w (Few58 m l most w) := by
 have hb := (Below.refl w.heap.size w).alloc (Nat.le_refl _) (.cells #[.slice h.s m.sT.length h.sc, .slice h.f m.fT.length h.fc, .slice h.r m.rT.length h.rc, .slice h.m m.mT.length h.mc, .slice h.l m.lT.length h.lc, .slice h.i m.iT.length h.ic, .int .i64 m.dT, .int .i64 m.oT, .int .i64 m.vT, .int .i64 m.aT, .slice h.u m.uT.length h.uc] 29)
 have HB := hide hb
 have HF := hide (few14_ref h m _ (d.grow hb))
 have HV := hide (fun W (hW : Below w.heap.size w W) => valid15_ref h m W ((d.below hW).more hW.size))
 have HM0 := hide (Blk.new w 29 #[.slice h.s m.sT.length h.sc, .slice h.f m.fT.length h.fc, .slice h.r m.rT.length h.rc, .slice h.m m.mT.length h.mc, .slice h.l m.lT.length h.lc, .slice h.i m.iT.length h.ic, .int .i64 m.dT, .int .i64 m.oT, .int .i64 m.vT, .int .i64 m.aT, .slice h.u m.uT.length h.uc])
 have HE := hide hE
 clear hb d hE
 cases hv : validM m
 · rw [hv] at HV
   clear hl hv HE
   go_enter Tryz.func5, Tryz.ntmps5
   go_wp2_with (first
    | (go_at_call 13; refine HF.out.mono ?_; rintro e w1 ⟨⟨b, rfl⟩, hb1⟩; have hm1 := HM0.out.below hb1 (by simp); obtain ⟨a0, a1, a2, a3, a4, a5, a6, a7, a8, a9, a10⟩ := MB.cells hm1; have lt1 := hm1.lt; have HB1 := hide (HB.out.trans (hb1.mono (by simp))); clear hm1 hb1; cases b)
    | (go_at_call 14; refine (HV.out _ HB1.out).mono ?_; rintro e w2 ⟨rfl, hb2⟩; have HB2 := hide (HB1.out.trans (hb2.mono HB1.out.size)); clear hb2))
   · go_ret
     exact ⟨false, rfl, HB1.out, fun h => by cases h⟩
   · go_ret
     exact ⟨false, rfl, HB2.out, fun h => by cases h⟩
 · rw [hv] at HV
   by_cases hmost : (l.length : Int) ≤ most
   · have hmd : (decide (most < (l.length : Int))) = false := by simpa using hmost
     have HH := hide (And.intro hv hmost)
     clear hv hmost
     go_enter Tryz.func5, Tryz.ntmps5
     go_wp2_with (first
      | (go_at_call 13; refine HF.out.mono ?_; rintro e w1 ⟨⟨b, rfl⟩, hb1⟩; have hm1 := HM0.out.below hb1 (by simp); obtain ⟨a0, a1, a2, a3, a4, a5, a6, a7, a8, a9, a10⟩ := MB.cells hm1; have lt1 := hm1.lt; have HB1 := hide (HB.out.trans (hb1.mono (by simp))); clear hm1 hb1; cases b)
      | (go_at_call 14; refine (HV.out _ HB1.out).mono ?_; rintro e w2 ⟨rfl, hb2⟩; have HB2 := hide (HB1.out.trans (hb2.mono HB1.out.size)); clear hb2))
     · go_ret
       exact ⟨false, rfl, HB1.out, fun h => by cases h⟩
     · clear a0 a1 a2 a3 a4 a5 a6 a7 a8 a9 a10 hmd lt1
       go_loopw [7] (fun i wr => ∃ k : Nat, k ≤ l.length ∧ i = .int .i64 k ∧ Below w.heap.size w wr ∧ Hid (∀ j (hj : j < l.length), j < k → l[j].old.length ≤ 10)) (fun i _ => l.length - (intOf i).toNat)
       case atStart => exact ⟨0, Nat.zero_le _, rfl, HB2.out, fun j hj h0 => absurd h0 (by omega)⟩
       case round =>
        obtain ⟨k, hk, rfl, hbr, hs⟩ := hrel
        have HBR := hide hbr
        by_cases hlt : k < l.length
        · obtain ⟨x, hx⟩ : ∃ x, l[k] = x := ⟨_, rfl⟩
          obtain ⟨b, off, j, hA, hb, hj1, hj2, _, hc⟩ := (HE.out.grow hbr).ev hlt hx
          have x12 := hc 12 _ rfl
          have HX := hide hx
          subst hA
          clear hc hx hbr
          by_cases h10 : x.old.length ≤ 10
          · go_wp2_with fail
            all_goals
             go_roundw
             case rel => exact ⟨k + 1, by omega, by go_num, HBR.out, fun q hq h1 => by
              rcases Nat.lt_or_ge q k with h2 | h2
              · exact hs.out q hq h2
              · obtain rfl : q = k := by omega
                rw [HX.out]; exact h10⟩
             case measure => simp [intOf]; omega
          · go_wp2_with fail
            go_ret
            exact ⟨false, rfl, HBR.out, fun h => by cases h⟩
        · obtain rfl : k = l.length := by omega
          go_wp2_with fail
          go_ret
          exact ⟨true, rfl, HBR.out, fun _ => ⟨HH.out.1, HH.out.2, fun x hx => by
           obtain ⟨i, hi, rfl⟩ := List.getElem_of_mem hx
           exact hs.out i hi hi⟩⟩
   · have hmd : (decide (most < (l.length : Int))) = true := by simpa using hmost
     clear hv hmost HE
     go_enter Tryz.func5, Tryz.ntmps5
     go_wp2_with (first
      | (go_at_call 13; refine HF.out.mono ?_; rintro e w1 ⟨⟨b, rfl⟩, hb1⟩; have hm1 := HM0.out.below hb1 (by simp); obtain ⟨a0, a1, a2, a3, a4, a5, a6, a7, a8, a9, a10⟩ := MB.cells hm1; have lt1 := hm1.lt; have HB1 := hide (HB.out.trans (hb1.mono (by simp))); clear hm1 hb1; cases b)
      | (go_at_call 14; refine (HV.out _ HB1.out).mono ?_; rintro e w2 ⟨rfl, hb2⟩; have HB2 := hide (HB1.out.trans (hb2.mono HB1.out.size)); clear hb2))
     · go_ret
       exact ⟨false, rfl, HB1.out, fun h => by cases h⟩
     · go_ret
       exact ⟨false, rfl, HB2.out, fun h => by cases h⟩
structure WithS (p : PlaceM) (A0 : Option Addr) (c0 : Nat) (w wr : World) (k : Nat) (A : Option Addr) (c : Nat) (q : PlaceM) : Prop where
 b : Below w.heap.size w wr
 bp : Blk wr w.heap.size 60 #[.slice A0 p.length c0]
 br : Blk wr (w.heap.size + 1) 60 #[.slice none 0 0]
 bx : Blk wr (w.heap.size + 1 + 1) 60 #[.slice A k c]
 op : OP (w.heap.size + 3) wr (.slice A k c) (q.take k)
theorem WithS.next {p q : PlaceM} {A0 A A4 : Option Addr} {c0 c c4 k : Nat} {w wr w1 w3 : World} (s : WithS p A0 c0 w wr k A c q) (h1 : Below wr.heap.size wr w1) (hg : w1.grownBy w3 (Value.slice A k c).ownBlock) (h3 : OP (w.heap.size + 3) w3 (.slice A4 (k + 1) c4) (q.take (k + 1))) :
    WithS p A0 c0 w (w3.setCell ⟨w.heap.size + 1 + 1, 0, none⟩ (.slice A4 (k + 1) c4)) (k + 1) A4 c4 q := by
 have hne : ∀ g, g < w.heap.size + 3 → some g ≠ (Value.slice A k c).ownBlock := fun g hgl e => by have := (s.op.lt _ e.symm).1; omega
 have b3 : ∀ {g : Nat} {T : TypeId} {cs : Array Value}, Blk wr g T cs → g < w.heap.size + 3 → Blk w3 g T cs := fun hb hgl => (hb.below h1 hb.lt).grown hg (hne _ hgl)
 have hx3 := b3 s.bx (by omega)
 refine ⟨?_, (b3 s.bp (by omega)).far (by simp <;> omega) _, (b3 s.br (by omega)).far (by simp <;> omega) _, ?_, ?_⟩
 · refine (Below.grown (s.b.trans (h1.mono s.b.size)) hg (Nat.le_trans s.b.size h1.size) fun g e => ?_).setCell (by simp <;> omega) _
   have := (s.op.lt _ e).1
   omega
 · simpa using hx3.set_ 0 (.slice A4 (k + 1) c4)
 · exact h3.keep (KT.set_ hx3 (by decide) 0 _) (KT.set_ hx3 (by decide) 0 _)
structure TwoS (p : PlaceM) (A : Option Addr) (c : Nat) (w wr : World) : Prop where
 b : Below w.heap.size w wr
 bp : Blk wr w.heap.size 60 #[.slice A p.length c]
 br : Blk wr (w.heap.size + 1) 60 #[.slice none 0 0]
theorem TwoS.start (p : PlaceM) (A : Option Addr) (c : Nat) (w : World) : TwoS p A c w ((w.alloc (.cells #[.slice A p.length c] 60)).alloc (.cells #[.slice none 0 0] 60)) :=
 ⟨((Below.refl w.heap.size w).alloc (Nat.le_refl _) _).alloc (by simp) _, (Blk.new w _ _).alloc _, by simpa using Blk.new (w.alloc (.cells #[.slice A p.length c] 60)) 60 #[.slice none 0 0]⟩
theorem TwoS.grow {p : PlaceM} {A : Option Addr} {c : Nat} {w wr w1 : World} (s : TwoS p A c w wr) (hb : Below wr.heap.size wr w1) : TwoS p A c w w1 :=
 ⟨s.b.trans (hb.mono s.b.size), s.bp.below hb s.bp.lt, s.br.below hb s.br.lt⟩
theorem TwoS.cells {p : PlaceM} {A : Option Addr} {c : Nat} {w wr : World} (s : TwoS p A c w wr) : wr.cell? ⟨w.heap.size, 0, none⟩ = some (.slice A p.length c) ∧ wr.cell? ⟨w.heap.size + 1, 0, none⟩ = some (.slice none 0 0) ∧ wr.frozen? ⟨w.heap.size + 1, 0, none⟩ = false ∧ w.heap.size + 1 < wr.heap.size ∧ w.heap.size < wr.heap.size :=
 ⟨by simpa using s.bp.cell 0, by simpa using s.br.cell 0, s.br.frozen 0, s.br.lt, s.bp.lt⟩
theorem TwoS.done {p q : PlaceM} {A A2 : Option Addr} {c c2 : Nat} {w wr : World} (s : TwoS p A c w wr) (hp : PT wr (.slice A2 q.length c2) q) : PlaceR w q (.returned (.agg #[.slice A2 q.length c2])) (wr.setCell ⟨w.heap.size + 1, 0, none⟩ (.slice A2 q.length c2)) :=
 ⟨A2, c2, rfl, hp.keep (KT.set_ s.br (by decide) 0 _) (KT.set_ s.br (by decide) 0 _), s.b.setCell (by simp) _⟩
end Go.Proofs.YtmjcgcnpeoemdaaGreatDoor
