/- The walk of exodusref24.Normal (UNDER WAY). Conditions: lengths that fit memory. -/
import Derived.Test.YtpggamapmgpjcaaGreatDoorK43
import Derived.Test.YtpggamapmgpjcaaGreatDoorK37
import Derived.Test.YtpggamapmgpjcaaGreatDoorK11

namespace Go.Proofs.YtpggamapmgpjcaaGreatDoor
open Go Go.RowKit Go.Proofs

/-- the cells of two steps, and what has grown -/
def Tw (w : World) (b o b2 o2 : Nat) (y x : StM) (W : World) : Prop := (W.cell? ⟨b, o, none⟩ = some (.int .i64 y.1) ∧ W.cell? ⟨b, o + 1, none⟩ = some (.int .i64 y.2.1) ∧ W.cell? ⟨b, o + 2, none⟩ = some (.int .i64 y.2.2.1) ∧ W.cell? ⟨b, o + 3, none⟩ = some (.int .i64 y.2.2.2)) ∧ (W.cell? ⟨b2, o2, none⟩ = some (.int .i64 x.1) ∧ W.cell? ⟨b2, o2 + 1, none⟩ = some (.int .i64 x.2.1) ∧ W.cell? ⟨b2, o2 + 2, none⟩ = some (.int .i64 x.2.2.1) ∧ W.cell? ⟨b2, o2 + 3, none⟩ = some (.int .i64 x.2.2.2)) ∧ b < W.heap.size ∧ b2 < W.heap.size ∧ Below w.heap.size w W
theorem Tw.grow {w : World} {b o b2 o2 : Nat} {y x : StM} {W W2 : World} (s : Tw w b o b2 o2 y x W) (hb : Below W.heap.size W W2) : Tw w b o b2 o2 y x W2 := by
  obtain ⟨⟨a0, a1, a2, a3⟩, ⟨c0, c1, c2, c3⟩, l1, l2, h⟩ := s
  exact ⟨⟨(hb.cell (p := ⟨b, o, none⟩) l1).trans a0, (hb.cell (p := ⟨b, o + 1, none⟩) l1).trans a1, (hb.cell (p := ⟨b, o + 2, none⟩) l1).trans a2, (hb.cell (p := ⟨b, o + 3, none⟩) l1).trans a3⟩, ⟨(hb.cell (p := ⟨b2, o2, none⟩) l2).trans c0, (hb.cell (p := ⟨b2, o2 + 1, none⟩) l2).trans c1, (hb.cell (p := ⟨b2, o2 + 2, none⟩) l2).trans c2, (hb.cell (p := ⟨b2, o2 + 3, none⟩) l2).trans c3⟩, Nat.lt_of_lt_of_le l1 hb.size, Nat.lt_of_lt_of_le l2 hb.size, h.trans (hb.mono h.size)⟩
theorem Tw.drew {w : World} {b o b2 o2 : Nat} {y x : StM} {W : World} (s : Tw w b o b2 o2 y x W) : Tw w b o b2 o2 y x W.drew := s.grow (Below.refl _ W).drew
theorem Tw.cells {w : World} {b o b2 o2 : Nat} {y x : StM} {W : World} (s : Tw w b o b2 o2 y x W) : (W.cell? ⟨b, o, none⟩ = some (.int .i64 y.1) ∧ W.cell? ⟨b, o + 1, none⟩ = some (.int .i64 y.2.1) ∧ W.cell? ⟨b, o + 2, none⟩ = some (.int .i64 y.2.2.1) ∧ W.cell? ⟨b, o + 3, none⟩ = some (.int .i64 y.2.2.2)) ∧ (W.cell? ⟨b2, o2, none⟩ = some (.int .i64 x.1) ∧ W.cell? ⟨b2, o2 + 1, none⟩ = some (.int .i64 x.2.1) ∧ W.cell? ⟨b2, o2 + 2, none⟩ = some (.int .i64 x.2.2.1) ∧ W.cell? ⟨b2, o2 + 3, none⟩ = some (.int .i64 x.2.2.2)) := ⟨s.1, s.2.1⟩
theorem ins_snoc {L : List StM} {i : Nat} (h : i < L.length) : (L.take (i + 1)).foldl (fun o x => insS x o) [] = insS L[i] ((L.take i).foldl (fun o x => insS x o) []) := by
  rw [List.take_succ_eq_append_getElem h, List.foldl_append]
  rfl
theorem RdE.takeSt {w : World} {A : Option Addr} {l : List StM} (h : RdE elSt w A l) (k : Nat) : RdE elSt w A (l.take k) := fun i hi => by
  have h2 : i < l.length := by simp at hi; omega
  obtain ⟨b, off, e, hl, hc⟩ := h i h2
  exact ⟨b, off, e, hl, fun j u hu => hc j u (by rw [← hu, List.getElem_take])⟩
theorem RdE.dropSt {w : World} {g off : Nat} {l : List StM} (h : RdE elSt w (some ⟨g, off, none⟩) l) (k : Nat) : RdE elSt w (some ⟨g, off + k * 4, none⟩) (l.drop k) := fun i hi => by
  have h2 : k + i < l.length := by simp at hi; omega
  obtain ⟨b, off2, e, hl, hc⟩ := h (k + i) h2
  injection e with e
  injection e with e1 e2 _
  subst e1 e2
  refine ⟨g, off + k * 4, rfl, hl, fun j u hu => ?_⟩
  have := hc j u (by rw [← hu, List.getElem_drop])
  rw [← this]
  congr 2
  show off + k * 4 + i * 4 + j = off + (k + i) * 4 + j
  omega
theorem readsTakeSt {w : World} {A : Option Addr} {l : List StM} (h : RdE elSt w A l) {k : Nat} (hk : k ≤ l.length) : Reads w w.heap.size 4 A k (elCells elSt (l.take k)) := by
  have := (h.takeSt k).reads
  rwa [List.length_take, Nat.min_eq_left hk] at this
theorem readsDropSt {w : World} {g off : Nat} {l : List StM} (h : RdE elSt w (some ⟨g, off, none⟩) l) (k : Nat) : Reads w w.heap.size 4 (some ⟨g, off + k * 4, none⟩) (l.length - k) (elCells elSt (l.drop k)) := by
  have := (h.dropSt k).reads
  rwa [List.length_drop] at this
theorem readsDropAny {w : World} {A : Option Addr} {l : List StM} (h : RdE elSt w A l) (k : Nat) (A' : Option Addr) (hA : A' = A.map (fun x => x.add (k * 4)) ∨ l.length ≤ k) : Reads w w.heap.size 4 A' (l.length - k) (elCells elSt (l.drop k)) := by
  by_cases hk : l.length ≤ k
  · rw [List.drop_of_length_le hk, show l.length - k = 0 by omega]
    exact ⟨rfl, fun h0 => absurd h0 (by simp)⟩
  · rcases hA with rfl | hA
    · obtain ⟨b, off, rfl, _, _⟩ := h 0 (by omega)
      have := readsDropSt h k
      rwa [← add_none] at this
    · exact absurd hA hk
theorem readsDropIf {w : World} {A : Option Addr} {l : List StM} (h : RdE elSt w A l) (k : Nat) {c : Nat} (hc : l.length ≤ c) : Reads w w.heap.size 4 (if c = k then A else A.map (fun x => x.add (k * 4))) (l.length - k) (elCells elSt (l.drop k)) := by
  refine readsDropAny h k _ ?_
  by_cases e : c = k
  · right; omega
  · left; rw [if_neg e]
theorem reads_blk {w : World} {b : Nat} {x : StM} (h : Blk w b elSt.T (elSt.f x).toArray) : Reads w w.heap.size 4 (some ⟨b, 0, none⟩) 1 (elCells elSt [x]) :=
  ⟨rfl, fun _ => ⟨_, rfl, h.lt, fun j u hu => by rw [add_none, Nat.zero_add, h.cell j]; simpa [elCells] using hu⟩⟩
set_option maxRecDepth 100000 in
set_option maxHeartbeats 8000000 in
theorem rnormal_ref (L : List StM) (A : Option Addr) (c : Nat) (w : World) (hL : L.length ≤ 100000) (hr : RdE elSt w A L) :
    Calls Tryz.prog 23 #[.slice A L.length c] w fun e w' => ∃ (A2 : Option Addr) (c2 : Nat), e = .returned (.agg #[.slice A2 (normM L).length c2]) ∧ RdE elSt w' A2 (normM L) ∧ (∀ ad, A2 = some ad → w.heap.size < ad.block) ∧ Below w.heap.size w w' := by
  have HR := hide hr
  clear hr
  go_enter Tryz.func23, Tryz.ntmps23
  go_wp2_with fail
  go_loopw [3, 4] (fun v i wr => ∃ k : Nat, k ≤ L.length ∧ i = .int .i64 k ∧ Hid (OwnE_ elSt (w.heap.size + 1) wr v ((L.take k).foldl (fun o x => insS x o) [])) ∧ Hid (Blk wr w.heap.size 35 #[.slice none 0 0]) ∧ Hid (Below w.heap.size w wr)) (fun _ i _ => L.length - (intOf i).toNat)
  case atStart =>
    have h1 : OwnE_ elSt (w.heap.size + 1) ((w.alloc (.cells #[.slice none 0 0] 35)).alloc (.cells #[] 53)) (.slice (some ⟨w.heap.size + 1, 0, none⟩) 0 0) [] := by
      have := OwnE_.empty (E := elSt) (B := w.heap.size + 1) (w.alloc (.cells #[.slice none 0 0] 35)) (by simp)
      rw [World.size_alloc] at this
      exact this
    exact ⟨0, Nat.zero_le _, rfl, hide h1, hide (Blk.alloc (Blk.new _ _ _) _), hide (((Below.refl _ w).alloc (Nat.le_refl _) _).alloc (by simp) _)⟩
  case round =>
    obtain ⟨k, hk, rfl, hO, hP, hb⟩ := hrel
    rename World => w5
    by_cases hlt : k < L.length
    · have HI := hide (ins_snoc hlt)
      obtain ⟨b2, o2, hA2, hbl2, y0, y1, y2, y3⟩ := rd_st (RdE.grow HR.out hb.out) hlt
      obtain ⟨x, hx⟩ : ∃ x, x = L[k] := ⟨_, rfl⟩
      rw [← hx] at y0 y1 y2 y3 HI
      obtain ⟨out, hout⟩ : ∃ out, out = (L.take k).foldl (fun o x => insS x o) [] := ⟨_, rfl⟩
      rw [← hout] at hO HI
      have hlo : out.length ≤ 100000 := by rw [hout]; have := norm_len (L.take k); rw [normM] at this; simp at this; omega
      obtain ⟨A3, c3, e3, hrd3⟩ := hO.out.rd
      have HX := hide hx
      have HOUT := hide hout
      have HRD := hide hrd3
      have hltI : (k : Int) < (L.length : Int) := by omega
      clear hx hout hrd3
      subst hA2 e3
      go_upto_block 2 with (fail)
      go_cut [5] from 13 to 29 (fun v wx => v = .int .i64 (posS x out : Nat) ∧ Below w5.heap.size w5 wx)
      case first =>
        go_wp2_with fail
        go_loopw [5] (fun i wr2 => ∃ q : Nat, q ≤ posS x out ∧ i = .int .i64 q ∧ Hid (Below w5.heap.size w5 wr2)) (fun i _ => out.length - (intOf i).toNat)
        case atStart => exact ⟨0, Nat.zero_le _, rfl, hide (Below.refl _ _)⟩
        case round =>
          obtain ⟨q, hq, rfl, hb2⟩ := hrel
          by_cases hlq : q < out.length
          · obtain ⟨b, o, hA, hbl, x0, x1, x2, x3⟩ := rd_st (RdE.grow HRD.out hb2.out) hlq
            have bb := hb2.out.size
            have hc2 : ∀ j (u : Value), w5.cell? ⟨b2, j, none⟩ = some u → wr.cell? ⟨b2, j, none⟩ = some u := fun j u hu => (hb2.out.cell (p := ⟨b2, j, none⟩) hbl2).trans hu
            obtain ⟨y, hy⟩ : ∃ y, y = out[q] := ⟨_, rfl⟩
            rw [← hy] at x0 x1 x2 x3
            have HTW := hide (show Tw w5 b (o + q * 4) b2 (o2 + k * 4) y x wr from ⟨⟨x0, x1, x2, x3⟩, ⟨hc2 _ _ y0, hc2 _ _ y1, hc2 _ _ y2, hc2 _ _ y3⟩, hbl, Nat.lt_of_lt_of_le hbl2 bb, hb2.out⟩)
            have HC := hide (fun W => before_ref y x W)
            have hqI : (q : Int) < (out.length : Int) := by omega
            cases hlt2 : ltS y x
            · have hqp := posS_no x out q hlq hq (by rw [← hy]; exact hlt2)
              have HQP := hide hqp
              rw [hlt2] at HC
              subst hA
              clear hc2 x0 x1 x2 x3 hy y0 y1 y2 y3 hb2 hlt2 hqp
              obtain ⟨⟨x0, x1, x2, x3⟩, ⟨y0, y1, y2, y3⟩, l1, l2, _⟩ := HTW.out
              go_wp2_with fail
              go_region_held3 (fun W => ((W.cell? ⟨b, o + q * 4, none⟩ = some (.int .i64 y.1) ∧ W.cell? ⟨b, o + q * 4 + 1, none⟩ = some (.int .i64 y.2.1) ∧ W.cell? ⟨b, o + q * 4 + 2, none⟩ = some (.int .i64 y.2.2.1) ∧ W.cell? ⟨b, o + q * 4 + 3, none⟩ = some (.int .i64 y.2.2.2)) ∧ (W.cell? ⟨b2, o2 + k * 4, none⟩ = some (.int .i64 x.1) ∧ W.cell? ⟨b2, o2 + k * 4 + 1, none⟩ = some (.int .i64 x.2.1) ∧ W.cell? ⟨b2, o2 + k * 4 + 2, none⟩ = some (.int .i64 x.2.2.1) ∧ W.cell? ⟨b2, o2 + k * 4 + 3, none⟩ = some (.int .i64 x.2.2.2))) ∧ Tw w5 b (o + q * 4) b2 (o2 + k * 4) y x W)
                ((with_reducible (first | (go_keep; done) | exact ⟨Tw.cells HTW.out.drew, HTW.out.drew⟩ | exact ⟨Tw.cells c7, c7⟩)))
                ((go_at_call 40; (with_reducible refine (HC.out _).mono ?_); rintro e w3 ⟨rfl, hg⟩; have c7 := HTW.out.drew.grow hg; clear hg))
              all_goals
                go_wp2_with fail
                go_meet
                case rel => exact ⟨by rw [← HQP.out], c7.2.2.2.2⟩
            · have HQ := hide (posS_yes x out q hlq hq (by rw [← hy]; exact hlt2))
              rw [hlt2] at HC
              subst hA
              clear hc2 x0 x1 x2 x3 hy y0 y1 y2 y3 hb2 hlt2
              obtain ⟨⟨x0, x1, x2, x3⟩, ⟨y0, y1, y2, y3⟩, l1, l2, _⟩ := HTW.out
              go_wp2_with fail
              go_region_held3 (fun W => ((W.cell? ⟨b, o + q * 4, none⟩ = some (.int .i64 y.1) ∧ W.cell? ⟨b, o + q * 4 + 1, none⟩ = some (.int .i64 y.2.1) ∧ W.cell? ⟨b, o + q * 4 + 2, none⟩ = some (.int .i64 y.2.2.1) ∧ W.cell? ⟨b, o + q * 4 + 3, none⟩ = some (.int .i64 y.2.2.2)) ∧ (W.cell? ⟨b2, o2 + k * 4, none⟩ = some (.int .i64 x.1) ∧ W.cell? ⟨b2, o2 + k * 4 + 1, none⟩ = some (.int .i64 x.2.1) ∧ W.cell? ⟨b2, o2 + k * 4 + 2, none⟩ = some (.int .i64 x.2.2.1) ∧ W.cell? ⟨b2, o2 + k * 4 + 3, none⟩ = some (.int .i64 x.2.2.2))) ∧ Tw w5 b (o + q * 4) b2 (o2 + k * 4) y x W)
                ((with_reducible (first | (go_keep; done) | exact ⟨Tw.cells HTW.out.drew, HTW.out.drew⟩ | exact ⟨Tw.cells c7, c7⟩)))
                ((go_at_call 40; (with_reducible refine (HC.out _).mono ?_); rintro e w3 ⟨rfl, hg⟩; have c7 := HTW.out.drew.grow hg; clear hg))
              all_goals
                go_wp2_with fail
                go_roundw
                case rel => exact ⟨q + 1, HQ.out, by go_num, hide c7.2.2.2.2⟩
                case measure => simp [intOf]; omega
          · have hqp : q = posS x out := by have := posS_le x out; omega
            have hqI : ¬ (q : Int) < (out.length : Int) := by omega
            have hqd : decide ((q : Int) < (out.length : Int)) = false := decide_eq_false hqI
            have HQP := hide hqp
            clear hqp
            go_wp2_with fail
            go_quiet (fail)
            go_wp2_with fail
            go_meet
            case rel => exact ⟨by rw [← HQP.out], below_drawn hb2.out _⟩
      case rest =>
        obtain ⟨rfl, hbx⟩ := hcut
        rename World => w6
        obtain ⟨pq, hpq⟩ : ∃ pq, pq = posS x out := ⟨_, rfl⟩
        have HIP := hide (insS_pos x out)
        have hple := posS_le x out
        rw [← hpq] at HIP hple ⊢
        clear hpq
        by_cases hat : out[pq]? = some x
        · obtain ⟨hpl, hpx⟩ := List.getElem?_eq_some_iff.1 hat
          obtain ⟨b, o, hA, hbl, x0, x1, x2, x3⟩ := rd_st (RdE.grow HRD.out hbx) hpl
          rw [hpx] at x0 x1 x2 x3
          have hc2 : ∀ j (u : Value), w5.cell? ⟨b2, j, none⟩ = some u → w6.cell? ⟨b2, j, none⟩ = some u := fun j u hu => (hbx.cell (p := ⟨b2, j, none⟩) hbl2).trans hu
          have z0 := hc2 _ _ y0
          have z1 := hc2 _ _ y1
          have z2 := hc2 _ _ y2
          have z3 := hc2 _ _ y3
          have HII := hide (show insS x out = out by rw [HIP.out, if_pos hat])
          have hpI : (pq : Int) < (out.length : Int) := by omega
          have hpn : ((pq : Int) == (out.length : Int)) = false := by simp; omega
          have hq := step_eq (a := x) (b := x) (q := true) (by simp)
          have HBX := hide hbx
          subst hA
          clear hat hpx hc2 y0 y1 y2 y3 hbx
          go_wp2_with fail
          go_quiet (fail)
          go_wp2_with fail
          go_roundw
          case rel => exact ⟨k + 1, by omega, by go_num, hide (by rw [HI.out, HII.out]; exact hO.out.below (below_drawn (HBX.out) _)), hide (Blk.below hP.out (below_drawn HBX.out _) hP.out.lt), hide (hb.out.trans ((below_drawn HBX.out _).mono hb.out.size))⟩
          case measure => simp [intOf]; omega
        · have hc2 : ∀ j (u : Value), w5.cell? ⟨b2, j, none⟩ = some u → w6.cell? ⟨b2, j, none⟩ = some u := fun j u hu => (hbx.cell (p := ⟨b2, j, none⟩) hbl2).trans hu
          have z0 := hc2 _ _ y0
          have z1 := hc2 _ _ y1
          have z2 := hc2 _ _ y2
          have z3 := hc2 _ _ y3
          have HY := hide (And.intro y0 (And.intro y1 (And.intro y2 y3)))
          have HII := hide (show insS x out = out.take pq ++ x :: out.drop pq by rw [HIP.out, if_neg hat, List.append_assoc]; rfl)
          have HBX := hide hbx
          clear hc2 y0 y1 y2 y3 hbx
          go_upto_region 8 with (fail)
          go_cut [44] from 30 to 45 (fun v wx => v = .bool true ∧ Below w6.heap.size w6 wx)
          case first =>
            by_cases hpl : pq < out.length
            · obtain ⟨b, o, hA, hbl, x0, x1, x2, x3⟩ := rd_st (RdE.grow HRD.out HBX.out) hpl
              obtain ⟨y, hy⟩ : ∃ y, y = out[pq] := ⟨_, rfl⟩
              rw [← hy] at x0 x1 x2 x3
              have hyx : y ≠ x := fun e => hat (by rw [List.getElem?_eq_getElem hpl, ← hy, e])
              have hpI : (pq : Int) < (out.length : Int) := by omega
              have hpn : ((pq : Int) == (out.length : Int)) = false := by simp; omega
              have hq := step_eq (a := y) (b := x) (q := false) (by simpa using hyx)
              subst hA
              clear hat hy hyx
              go_wp2_with fail
              go_quiet (fail)
              go_wp2_with fail
              go_meet
              case rel => exact ⟨rfl, below_drawn (Below.refl _ _) _⟩
            · obtain rfl : pq = out.length := by omega
              have hpn : ((out.length : Int) == (out.length : Int)) = true := by simp
              clear hat
              go_wp2_with fail
              go_quiet (fail)
              go_wp2_with fail
              go_meet
              case rel => exact ⟨rfl, below_drawn (Below.refl _ _) _⟩
          case rest =>
            obtain ⟨rfl, hbc⟩ := hcut
            rename World => w7
            have hbl7 : b2 < w7.heap.size := Nat.lt_of_lt_of_le hbl2 (Nat.le_trans HBX.out.size hbc.size)
            have hb57 : Below w5.heap.size w5 w7 := HBX.out.trans (hbc.mono HBX.out.size)
            have z0 := (hb57.cell (p := ⟨b2, o2 + k * 4, none⟩) hbl2).trans HY.out.1
            have z1 := (hb57.cell (p := ⟨b2, o2 + k * 4 + 1, none⟩) hbl2).trans HY.out.2.1
            have z2 := (hb57.cell (p := ⟨b2, o2 + k * 4 + 2, none⟩) hbl2).trans HY.out.2.2.1
            have z3 := (hb57.cell (p := ⟨b2, o2 + k * 4 + 3, none⟩) hbl2).trans HY.out.2.2.2
            have HB7 := hide hb57
            have hc1 : out.length ≤ c3 := by
              obtain ⟨_, c4, e4, h4, _⟩ := hO.out.form
              injection e4 with _ _ e4
              omega
            have HR7 := hide (HRD.out.grow hb57)
            clear hbc hb57
            go_upto_region 9 with (fail)
            have hpc : pq ≤ c3 := by omega
            have hpo : pq ≤ out.length := hple
            have hwp : (pq : Int) ≤ (out.length : Int) := by omega
            have HLT := hide (show pq = (out.take pq).length by rw [List.length_take]; omega)
            have HLD := hide (show (out.drop pq).length = out.length - pq by simp)
            have HLS := hide (show (out.take pq ++ [x]).length + (out.drop pq).length ≤ 1000000 by rw [List.length_append, ← HLT.out, HLD.out]; simp; omega)
            have HK := hide (fun (W : World) (hW : Below w7.heap.size w7 W) => readsTakeSt (RdE.grow HR7.out hW) hpo)
            have HDR := hide (fun (W : World) (hW : Below w7.heap.size w7 W) => readsDropIf (RdE.grow HR7.out hW) pq hc1)
            have hBA : Below w7.heap.size w7 (w7.alloc (.cells #[] 53)).drew := ((Below.refl _ w7).alloc (Nat.le_refl _) _).drew
            have hBB : Below w7.heap.size w7 ((w7.alloc (.cells #[] 53)).alloc (.cells (elSt.f x).toArray elSt.T)).drew := (((Below.refl _ w7).alloc (Nat.le_refl _) _).alloc (by simp) _).drew
            have hBC : Below w7.heap.size w7 ((w7.alloc (.cells (elSt.f x).toArray elSt.T)).alloc (.cells #[] 53)).drew := (((Below.refl _ w7).alloc (Nat.le_refl _) _).alloc (by simp) _).drew
            have HBA := hide hBA
            have HBB := hide hBB
            have HBC := hide hBC
            have HEA := hide (show OwnE_ elSt w7.heap.size (w7.alloc (.cells #[] 53)).drew (.slice (some ⟨w7.heap.size, 0, none⟩) 0 0) [] from OwnE_.below (OwnE_.empty (E := elSt) w7 (Nat.le_refl _)) (Below.refl _ _).drew)
            have HEB := hide (show OwnE_ elSt w7.heap.size ((w7.alloc (.cells #[] 53)).alloc (.cells (elSt.f x).toArray elSt.T)).drew (.slice (some ⟨w7.heap.size, 0, none⟩) 0 0) [] from OwnE_.below (OwnE_.empty (E := elSt) w7 (Nat.le_refl _)) (((Below.refl _ _).alloc (Nat.le_refl _) _).drew))
            have HEC := hide (show OwnE_ elSt w7.heap.size ((w7.alloc (.cells (elSt.f x).toArray elSt.T)).alloc (.cells #[] 53)).drew (.slice (some ⟨w7.heap.size + 1, 0, none⟩) 0 0) [] from OwnE_.below (by have := OwnE_.empty (E := elSt) (B := w7.heap.size) (w7.alloc (.cells (elSt.f x).toArray elSt.T)) (by simp); rwa [World.size_alloc] at this) (Below.refl _ _).drew)
            have HXB := hide (show Blk ((w7.alloc (.cells #[] 53)).alloc (.cells (elSt.f x).toArray elSt.T)).drew (w7.heap.size + 1) elSt.T (elSt.f x).toArray from new_blk _ _ _ (by simp))
            have HXC := hide (show Blk ((w7.alloc (.cells (elSt.f x).toArray elSt.T)).alloc (.cells #[] 53)).drew w7.heap.size elSt.T (elSt.f x).toArray from (Blk.new w7 _ _).alloc _)
            clear hBA hBB hBC
            go_region_law
              ((first
                | (refine step_append_el okSt rfl _ _ rfl w7.heap.size (.slice (some ⟨w7.heap.size, 0, none⟩) 0 0) [] rfl HEA.out _ A3 pq c3 (out.take pq) rfl (HK.out _ HBA.out) HLT.out.symm (by rw [← HLT.out]; simp; omega) HBA.out.size ?_
                   intro v3 w3 ho3 hg3 _
                   rw [List.nil_append] at ho3
                   have hb3 : Below w7.heap.size w7 w3 := Below.ofGrown HBA.out hg3 HBA.out.size (fun g e => (HEA.out.lt g e).1)
                   obtain ⟨A5, c5, e5, _⟩ := ho3.form
                   rw [← HLT.out] at e5
                   subst e5
                   have q0 := (hb3.cell (p := ⟨b2, o2 + k * 4, none⟩) hbl7).trans z0
                   have q1 := (hb3.cell (p := ⟨b2, o2 + k * 4 + 1, none⟩) hbl7).trans z1
                   have q2 := (hb3.cell (p := ⟨b2, o2 + k * 4 + 2, none⟩) hbl7).trans z2
                   have q3 := (hb3.cell (p := ⟨b2, o2 + k * 4 + 3, none⟩) hbl7).trans z3
                   have q4 := Nat.lt_of_lt_of_le hbl7 hb3.size
                   have HB3 := hide hb3
                   have HO3 := hide ho3
                   clear hb3 ho3 hg3
                   dsimp only)
                | (refine step_append_el okSt rfl _ _ rfl w7.heap.size (.slice (some ⟨w7.heap.size, 0, none⟩) 0 0) [] rfl HEB.out _ A3 pq c3 (out.take pq) rfl (HK.out _ HBB.out) HLT.out.symm (by rw [← HLT.out]; simp; omega) HBB.out.size ?_
                   intro v3 w3 ho3 hg3 _
                   rw [List.nil_append] at ho3
                   have hb3 : Below w7.heap.size w7 w3 := Below.ofGrown HBB.out hg3 HBB.out.size (fun g e => (HEB.out.lt g e).1)
                   obtain ⟨A5, c5, e5, _⟩ := ho3.form
                   rw [← HLT.out] at e5
                   subst e5
                   have q0 := (hb3.cell (p := ⟨b2, o2 + k * 4, none⟩) hbl7).trans z0
                   have q1 := (hb3.cell (p := ⟨b2, o2 + k * 4 + 1, none⟩) hbl7).trans z1
                   have q2 := (hb3.cell (p := ⟨b2, o2 + k * 4 + 2, none⟩) hbl7).trans z2
                   have q3 := (hb3.cell (p := ⟨b2, o2 + k * 4 + 3, none⟩) hbl7).trans z3
                   have q4 := Nat.lt_of_lt_of_le hbl7 hb3.size
                   have HB3 := hide hb3
                   have HO3 := hide ho3
                   have HXQ := hide (reads_blk (HXB.out.grown hg3 (by simp [Value.ownBlock])))
                   clear hb3 ho3 hg3
                   dsimp only)
                | (refine step_append_el okSt rfl _ _ rfl w7.heap.size (.slice (some ⟨w7.heap.size + 1, 0, none⟩) 0 0) [] rfl HEC.out _ A3 pq c3 (out.take pq) rfl (HK.out _ HBC.out) HLT.out.symm (by rw [← HLT.out]; simp; omega) HBC.out.size ?_
                   intro v3 w3 ho3 hg3 _
                   rw [List.nil_append] at ho3
                   have hb3 : Below w7.heap.size w7 w3 := Below.ofGrown HBC.out hg3 HBC.out.size (fun g e => (HEC.out.lt g e).1)
                   obtain ⟨A5, c5, e5, _⟩ := ho3.form
                   rw [← HLT.out] at e5
                   subst e5
                   have q0 := (hb3.cell (p := ⟨b2, o2 + k * 4, none⟩) hbl7).trans z0
                   have q1 := (hb3.cell (p := ⟨b2, o2 + k * 4 + 1, none⟩) hbl7).trans z1
                   have q2 := (hb3.cell (p := ⟨b2, o2 + k * 4 + 2, none⟩) hbl7).trans z2
                   have q3 := (hb3.cell (p := ⟨b2, o2 + k * 4 + 3, none⟩) hbl7).trans z3
                   have q4 := Nat.lt_of_lt_of_le hbl7 hb3.size
                   have HB3 := hide hb3
                   have HO3 := hide ho3
                   have HXQ := hide (reads_blk (HXC.out.grown hg3 (by simp [Value.ownBlock])))
                   clear hb3 ho3 hg3
                   dsimp only)
                | (refine step_append_el okSt rfl _ _ rfl w7.heap.size (.slice A5 pq c5) (out.take pq) rfl HO3.out _ _ 1 1 [x] rfl HXQ.out rfl (by rw [← HLT.out]; simp; omega) HB3.out.size ?_
                   intro v4 w4 ho4 hg4 _
                   have hb4 : Below w7.heap.size w7 w4 := Below.ofGrown HB3.out hg4 HB3.out.size (fun g e => (HO3.out.lt g e).1)
                   obtain ⟨A6, c6, e6, _⟩ := ho4.form
                   rw [List.length_append, ← HLT.out] at e6
                   subst e6
                   have HB4 := hide hb4
                   have HO4 := hide ho4
                   clear hb4 ho4 hg4
                   dsimp only)
                | (refine step_append_el okSt rfl _ _ rfl w7.heap.size (.slice A5 pq c5) (out.take pq) rfl (HO3.out.below ((Below.refl _ _).alloc (Nat.le_refl _) _)) _ _ 1 1 [x] rfl (Reads.newE2 (E := elSt) _ x (by simp)) rfl (by rw [← HLT.out]; simp; omega) (HB3.out.alloc HB3.out.size _).size ?_
                   intro v4 w4 ho4 hg4 _
                   have hb4 : Below w7.heap.size w7 w4 := Below.ofGrown (HB3.out.alloc HB3.out.size _) hg4 (HB3.out.alloc HB3.out.size _).size (fun g e => (HO3.out.lt g e).1)
                   obtain ⟨A6, c6, e6, _⟩ := ho4.form
                   rw [List.length_append, ← HLT.out] at e6
                   subst e6
                   have HB4 := hide hb4
                   have HO4 := hide ho4
                   clear hb4 ho4 hg4
                   dsimp only)
                | (refine step_append_el okSt rfl _ _ rfl w7.heap.size (.slice A6 (pq + [x].length) c6) (out.take pq ++ [x]) rfl HO4.out _ _ (out.length - pq) _ (out.drop pq) rfl (HDR.out _ HB4.out) HLD.out HLS.out HB4.out.size ?_
                   intro v5 w8 ho5 hg5 _
                   have HB5 := hide (Below.ofGrown HB4.out hg5 HB4.out.size (fun g e => (HO4.out.lt g e).1))
                   have HO5 := hide ho5
                   clear ho5 hg5
                   dsimp only)))
            all_goals
              go_wp2_with fail
              go_roundw
              case rel =>
                have hb8 : Below w5.heap.size w5 w8 := HB7.out.trans (HB5.out.mono HB7.out.size)
                have ho8 := HO5.out
                rw [List.append_assoc, List.singleton_append, ← HII.out, ← HI.out] at ho8
                exact ⟨k + 1, by omega, by go_num, hide (ho8.lower (by have := hP.out.lt; have := HB7.out.size; omega)), hide (Blk.below hP.out hb8 hP.out.lt), hide (hb.out.trans (hb8.mono hb.out.size))⟩
              case measure => simp [intOf]; omega
    · obtain rfl : k = L.length := by omega
      have hO2 := hO.out
      rw [List.take_of_length_le (Nat.le_refl _), show L.foldl (fun o x => insS x o) [] = normM L from rfl] at hO2
      obtain ⟨A3, c3, e3, hrd3⟩ := hO2.rd
      have HRD := hide hrd3
      have HLT := hide hO2.lt
      have p0 := hP.out.cell 0
      have f0 := hP.out.frozen 0
      have l0 := hP.out.lt
      simp at p0
      subst e3
      clear hO2 hrd3 hO
      go_wp2_with fail
      have hBl : Blk (w5.setCell ⟨w.heap.size, 0, none⟩ (.slice A3 (normM L).length c3)) w.heap.size 35 #[.slice A3 (normM L).length c3] := Blk.set_ hP.out 0 _
      refine bodyPost_ret (v := .agg #[.slice A3 (normM L).length c3]) (w := _) (results_cell_row (P := Tryz.prog) rfl _ _ w.heap.size 35 #[.slice A3 (normM L).length c3] (0, 0) _ rfl hBl Tryz.underlying35 rfl (by kernel_rfl)) rfl ⟨A3, c3, rfl, ?_, ?_, ?_⟩
      · exact RdE.set_ HRD.out (fun ad e => by subst e; have := (HLT.out ad.block rfl).1; omega) _ _
      · exact fun ad e => by subst e; have := (HLT.out ad.block rfl).1; omega
      · exact hb.out.trans ((But.set_ (B := w.heap.size) w5 0 _).below (Nat.le_refl _))
end Go.Proofs.YtpggamapmgpjcaaGreatDoor
