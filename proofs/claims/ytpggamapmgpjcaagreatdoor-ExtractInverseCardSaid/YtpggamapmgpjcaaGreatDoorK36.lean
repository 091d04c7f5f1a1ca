/- The walks of slices.Values, AppendSeq, Collect and SortedFunc over steps. Conditions: lengths that fit memory. The walks of plan.Normal and what it calls. Conditions: lengths that fit memory. -/
import Derived.RangeFuncNested
import Derived.RangeFuncBound
import Derived.RangeFuncCalls
import Derived.RangeFuncLeaves
import Derived.RangeFuncBox
import Derived.Shelf.Abstract
import Derived.Shelf.RegionOpen
import Derived.WalkKit
import Derived.OwnWalkIn
import Derived.TacticsInMore
import Derived.LoopNIn
import Derived.LoopIn
import Derived.Maps.AppendAt
import Derived.Test.YtpggamapmgpjcaaGreatDoorK35
import Derived.Test.YtpggamapmgpjcaaGreatDoorK34

namespace Go.Proofs.YtpggamapmgpjcaaGreatDoor
open Go Go.RowKit Go.Proofs Go.Shelf
attribute [local go_sem] Oper.semAt_some

def encSt (x : StM) : Array Value := #[.agg #[.int .i64 x.1, .int .i64 x.2.1, .int .i64 x.2.2.1, .int .i64 x.2.2.2]]
set_option maxRecDepth 100000 in
set_option maxHeartbeats 4000000 in
theorem values1_in (n : Nat) (_hn : 1 ≤ n) (l bs N : Nat) (L : List StM) (A : Option Addr) (c : Nat) (w : World) (hN : L.length ≤ N) (hL : L.length ≤ 1000000) (J Jx : List StM → World → Prop)
    (hY : ∀ pre (x : StM) W, J pre W → pre.length < N → YieldAt Fence.wide (n - 1) Tryz.prog l (encSt x) W fun e W' =>
      (e = .returned (.bool true) ∧ J (pre ++ [x]) W' ∧ Below w.heap.size W W') ∨ (e = .returned (.bool false) ∧ Jx (pre ++ [x]) W'))
    (W : World) (hW : Below w.heap.size w W) (hJ : AbidesFrom W.heap.size J) (hB : Blk w bs 33 #[.slice A L.length c]) (hr : RdE elSt w A L) (h0 : J [] W) :
    CallsIn Fence.wide n Tryz.prog 58 #[.func (.yield l) #[] #[], .pointer (some ⟨bs, 0, none⟩)] W fun e W' => (∃ v, e = .returned v) ∧
      ((∃ ys, ys = L ∧ J ys W') ∨ (∃ pre, True ∧ Jx pre W')) := by
  have hB2 := hB.below hW hB.lt
  have b0 := hB2.cell 0
  have bl := hB2.lt
  simp at b0
  have HR := hide (fun W2 (hb : Below w.heap.size w W2) => hr.grow hb)
  have HJJ := hide hJ
  have HYY := hide hY
  have H0 := hide (And.intro h0 (And.intro hW (Nat.le_refl W.heap.size)))
  clear hB hB2 hr hJ hY h0 hW
  refine callsIn_of_wp Tryz.func58 rfl trivial ?_ rfl
  simp only [Tryz.ntmps58, List.size_toArray, List.length_cons, List.length_nil, Nat.reduceAdd, Nat.reduceSub, Array.replicate_succ, Array.replicate_zero, List.push_toArray, List.append_toArray, List.nil_append, List.cons_append]
  gi_wp2
  gi_loopw [7] (fun i wr => ∃ k : Nat, k ≤ L.length ∧ i = .int .i64 k ∧ Hid (J (L.take k) wr ∧ Below w.heap.size w wr ∧ W.heap.size ≤ wr.heap.size)) (fun i _ => L.length - (intOf i).toNat)
  case atStart => exact ⟨0, Nat.zero_le _, rfl, H0⟩
  case round =>
    obtain ⟨k, hk, rfl, hS⟩ := hrel
    clear H0
    by_cases hlt : k < L.length
    · obtain ⟨q1, q2, q3⟩ := hS.out
      obtain ⟨bc, oc, hA, hbc, x0, x1, x2, x3⟩ := rd_st (HR.out wr q2) hlt
      obtain ⟨x, hx⟩ : ∃ x, x = L[k] := ⟨_, rfl⟩
      rw [← hx] at x0 x1 x2 x3
      have hb5 := (Below.refl wr.heap.size wr).alloc (Nat.le_refl _) (.cells #[.int .i64 x.1, .int .i64 x.2.1, .int .i64 x.2.2.1, .int .i64 x.2.2.2] 53)
      have hJ5 : J (L.take k) (wr.alloc (.cells #[.int .i64 x.1, .int .i64 x.2.1, .int .i64 x.2.2.1, .int .i64 x.2.2.2] 53)) := HJJ.out _ _ _ none q1 (grown_of_below hb5 none) (fun r e => by cases e)
      have HB5 := hide (And.intro (q2.trans (hb5.mono q2.size)) (show W.heap.size ≤ (wr.alloc (.cells #[.int .i64 x.1, .int .i64 x.2.1, .int .i64 x.2.2.1, .int .i64 x.2.2.2] 53)).heap.size by simp; omega))
      have HE := hide (show L.take k ++ [x] = L.take (k + 1) by rw [List.take_succ_eq_append_getElem hlt, hx])
      have HYX := hide (HYY.out (L.take k) x _ hJ5 (by rw [List.length_take]; omega))
      have hltI : (k : Int) < (L.length : Int) := by omega
      subst hA
      clear hx q1 q2 q3 hS hb5 hJ5
      obtain ⟨fn, tmps, assign, body, hy, hR⟩ := HYX.out
      dsimp only [encSt] at hy
      clear HYX
      gi_wp2
      refine hR.mono ?_
      rintro e W6 (⟨rfl, hJ6, hk6⟩ | ⟨rfl, hJx6⟩)
      · have HS6 := hide (show J (L.take (k + 1)) W6 ∧ Below w.heap.size w W6 ∧ W.heap.size ≤ W6.heap.size from ⟨by rw [← HE.out]; exact hJ6, HB5.out.1.trans hk6, Nat.le_trans HB5.out.2 hk6.size⟩)
        clear hk6 hJ6 hR hy
        gi_wp2
        go_roundw
        case rel => exact ⟨k + 1, by omega, by go_num, HS6⟩
        case measure => simp [intOf]; omega
      · have HX6 := hide hJx6
        clear hJx6 hR hy
        gi_wp2
        refine bodyPost_ret (results_none rfl _ _ _) rfl ?_
        exact ⟨⟨_, rfl⟩, .inr ⟨_, trivial, HX6.out⟩⟩
    · obtain rfl : k = L.length := by omega
      have hS := hS
      gi_wp2
      go_end0
      exact ⟨⟨_, rfl⟩, .inl ⟨L, rfl, by have := hS.out.1; rw [List.take_length] at this; exact this⟩⟩
set_option maxRecDepth 100000 in
set_option maxHeartbeats 4000000 in
theorem appendSeqSt_in (n : Nat) (hn : 6 ≤ n) (gf : Nat) (lb : Array Value) (S Sp : List StM → Prop) (N : Nat) (w : World) (hN : N ≤ 100000) (eg : ∀ args w, (callFunc gf args).run Tryz.prog w = .ok (.enter gf args) w)
    (hseq : SeqStopsK Fence.wide (n - 1) Tryz.prog gf lb encSt (Below w.heap.size) S Sp N w) :
    CallsIn Fence.wide n Tryz.prog 100 #[.slice none 0 0, .func (.func gf) #[] lb] w fun e W' => ∃ v xs, e = .returned v ∧ S xs ∧ OwnE_ elSt w.heap.size W' v xs ∧ Below w.heap.size w W' := by
  refine callsIn_of_wp_marks Tryz.func100 rfl trivial ?_ rfl
  simp only [Tryz.ntmps100, List.size_toArray, List.length_cons, List.length_nil, Nat.reduceAdd, Nat.reduceSub, Array.replicate_succ, Array.replicate_zero, List.push_toArray, List.append_toArray, List.nil_append, List.cons_append]
  gi_wp2
  have hb0 : Below w.heap.size w (w.alloc (.cells #[.slice none 0 0] 33)) := (Below.refl _ w).alloc (Nat.le_refl _) _
  refine wpIn_rangeFunc_ownH rfl (by omega) (gf := gf) (lb := lb) rfl trivial eg hseq (fun h k => h.trans k) (fun W l o o' hl h1 h2 h3 => belowK_b (w := w) (Nat.le_refl _) W l o o' (by simp at hl; omega) h1 h2 h3) hb0 (fun _ => rfl)
    (fun pre W => (∃ v, Boxed W w.heap.size 33 v ∧ W.ownsRow w.heap.size 53 4 v pre.length (elCells elSt pre) ∧ True) ∧ Below w.heap.size w W)
    (fun _ _ _ => False)
    (OwnFrom.and (Own.from (holdsRow_own w.heap.size w.heap.size 33 53 4 (fun pre => pre.length) (fun pre => elCells elSt pre) (fun _ _ => True)) _) (ownFrom_below (Nat.le_refl _) (by simp)))
    (fun _ _ _ _ _ hs _ _ => hs)
    ⟨⟨_, Boxed.new w _ _, World.ownsRow_nil _ _ _ _, trivial⟩, hb0⟩
    (fun x a' W => ∃ Bx, w.heap.size < Bx ∧ Blk W Bx 53 #[.int .i64 x.1, .int .i64 x.2.1, .int .i64 x.2.2.1, .int .i64 x.2.2.2] ∧ a' = { tmps := #[.slice none 0 0, .func (.func gf) #[] lb, .pointer (some ⟨w.heap.size, 0, none⟩), undef, .slice none 0 0, .pointer (some ⟨Bx, 0, none⟩), .func (.func gf) #[] lb, .agg #[.int .i64 x.1, .int .i64 x.2.1, .int .i64 x.2.2.1, .int .i64 x.2.2.2], undef, undef, undef, undef, undef], defers := [] })
    (fun x a' _ X Y row hs hg hr => by
      obtain ⟨Bx, h1, h2, h3⟩ := hs
      exact ⟨Bx, h1, h2.grown hg (fun e => by
        obtain ⟨_, o, ho, hc⟩ := hr Bx e.symm
        rw [Blk, ho] at h2; cases h2; cases hc), h3⟩)
    ?assign ?body ?done ?stop
  case assign =>
    rintro l pre x W K ⟨⟨v, hv, hrow, _⟩, hB1⟩ hK
    simp only [encSt]
    gi_wp2
    exact hK _ _ ((KeepsOthers.alloc _ _).from _) ((Below.refl _ W).alloc hB1.size _) ⟨⟨v, hv.alloc _, hrow.alloc _, trivial⟩, hB1.alloc hB1.size _⟩ ⟨W.heap.size, hv.lt, Blk.new W _ _, rfl⟩
  case body =>
    rintro l pre x a' W hl ⟨r, hr⟩ ⟨⟨v, hv, hrow, _⟩, hB1⟩ ⟨Bx, hBx, bX, rfl⟩ hlt
    have hv1 := hv.cell
    have x0 := bX.cell 0
    have x1 := bX.cell 1
    have x2 := bX.cell 2
    have x3 := bX.cell 3
    have xl := bX.lt
    simp at x0 x1 x2 x3
    have vl := hv.lt
    obtain ⟨i0, hi, hz0, hz1, hz2⟩ := info_parts okSt.info
    gi_wp2_with (gi_at_builtin; refine wpListIn_append_own _ rfl _ _ 33 rfl w.heap.size 53 i0 _ 4 32 Tryz.underlying33 hi hz0 hz1 hz2 rfl (by decide) _ _ _ rfl (hrow.alloc _) ⟨W.heap.size, 0, none⟩ 1 1 (elCells elSt [x]) rfl rfl (fun j u hu => by rw [add_none, Nat.zero_add, cell?_new]; simpa [elCells, elSt] using hu) (elCells_one elSt [x]) (by unfold maxLen; omega) (by omega) (by have := hB1.size; simp; omega) ?_; intro v' w1 hown' hgrow _; obtain ⟨g', cap', rfl⟩ := ownsRow_succ hown'; obtain ⟨q1, q2, q3, q4, q5⟩ := hv.appended (by decide) hrow hB1.size (Nat.le_refl _) hown' hgrow; have hc1 := q1.cell; have hf1 := q1.frozen)
    have hcs : elCells elSt pre ++ elCells elSt [x] = elCells elSt (pre ++ [x]) := (elCells_append elSt pre [x]).symm
    rw [hcs] at hown' q3
    exact ⟨q4.from _, q5, ⟨⟨_, q2, by rw [List.length_append]; exact q3, trivial⟩, hB1.trans q5⟩⟩
  case done =>
    rintro D xs W hD hS ⟨⟨v, hv, hrow, _⟩, hB1⟩ hK
    have hv1 := hv.cell
    have vl := hv.lt
    gi_wp2
    refine ⟨by simp, .inl ⟨_, _, rfl, run_takeDeferred hK, ?_⟩⟩
    exact ⟨_, results_tmp rfl _ _ _, v, xs, rfl, hS, ownsRow_putObj hrow _ hK rfl, hB1.trans (belowK_b (w := w) (Nat.le_refl _) W D _ _ (by simp at hD; omega) hK rfl rfl)⟩
  case stop =>
    rintro D c pre W _ _ h _
    exact h.elim
theorem values1_seq (n : Nat) (hn : 1 ≤ n) (bs N : Nat) (L : List StM) (A : Option Addr) (c : Nat) (w : World) (hN : L.length ≤ N) (hL : L.length ≤ 1000000) (hB : Blk w bs 33 #[.slice A L.length c]) (hr : RdE elSt w A L) :
    SeqStopsK Fence.wide n Tryz.prog 58 #[.pointer (some ⟨bs, 0, none⟩)] encSt (Below w.heap.size) (fun ys => ys = L) (fun _ => True) N w :=
  fun l J Jx W hW hJ _ hY h0 => values1_in n hn l bs N L A c w hN hL J Jx hY W hW hJ hB hr h0
theorem collect_steps (bs : Nat) (L : List StM) (A : Option Addr) (c : Nat) (w : World) (hL : L.length ≤ 100000) (hB : Blk w bs 33 #[.slice A L.length c]) (hr : RdE elSt w A L) :
    Calls Tryz.prog 56 #[.func (.func 58) #[] #[.pointer (some ⟨bs, 0, none⟩)]] w fun e W' => ∃ v, e = .returned v ∧ OwnE_ elSt w.heap.size W' v L ∧ Below w.heap.size w W' := by
  have hA : Calls Tryz.prog 100 #[.slice none 0 0, .func (.func 58) #[] #[.pointer (some ⟨bs, 0, none⟩)]] w fun e W' => ∃ v, e = .returned v ∧ OwnE_ elSt w.heap.size W' v L ∧ Below w.heap.size w W' := by
    refine ((callsIn_wide (n := 8)).1 (appendSeqSt_in 8 (by omega) 58 #[.pointer (some ⟨bs, 0, none⟩)] (fun ys => ys = L) (fun _ => True) 100000 w (by omega) (fun _ _ => by kernel_rfl) (values1_seq 7 (by omega) bs 100000 L A c w hL (by omega) hB hr))).mono ?_
    rintro e W' ⟨v, xs, rfl, rfl, ho, hb⟩
    exact ⟨v, rfl, ho, hb⟩
  have HC := hide hA
  clear hB hr hA
  go_enter Tryz.func56, Tryz.ntmps56
  go_wp2_with (go_at_call 100; refine HC.out.mono ?_; rintro e w1 ⟨v, rfl, ho, hb⟩)
  go_ret
  exact ⟨v, rfl, ho, hb⟩
set_option maxRecDepth 100000 in
set_option maxHeartbeats 2000000 in
theorem sortedF_steps (bs : Nat) (L : List StM) (A : Option Addr) (c : Nat) (w : World) (hL : L.length ≤ 100000) (hB : Blk w bs 33 #[.slice A L.length c]) (hr : RdE elSt w A L) :
    Calls Tryz.prog 34 #[.func (.func 58) #[] #[.pointer (some ⟨bs, 0, none⟩)], .func (.func 28) #[] #[]] w fun e W' => ∃ (A2 : Option Addr) (c2 : Nat) (s : List StM), e = .returned (.slice A2 L.length c2) ∧ s.Perm L ∧ Asd s ∧ OwnE_ elSt w.heap.size W' (.slice A2 L.length c2) s ∧ Below w.heap.size w W' := by
  have HC := hide (collect_steps bs L A c w hL hB hr)
  clear hB hr
  go_enter Tryz.func34, Tryz.ntmps34
  go_wp2_with (first
    | (go_at_call 56; refine HC.out.mono ?_; rintro e w1 ⟨v, rfl, ho, hb⟩
       obtain ⟨A2, c2, rfl, _⟩ := ho.form
       have HS := hide (sort_steps w.heap.size w1 A2 c2 L ho (by omega) hb.size)
       have HB := hide hb
       clear ho hb)
    | (go_at_call 57; refine HS.out.mono ?_; rintro e w2 ⟨rfl, s, hp, ha, ho2, hb2⟩; have HR := hide (And.intro hp (And.intro ha (And.intro ho2 hb2))); clear hp ha ho2 hb2))
  go_ret
  obtain ⟨hp, ha, ho2, hb2⟩ := HR.out
  exact ⟨A2, c2, s, rfl, hp, ha, ho2, HB.out.trans hb2⟩
end Go.Proofs.YtpggamapmgpjcaaGreatDoor

namespace Go.Proofs.YtpggamapmgpjcaaGreatDoor
open Go Go.RowKit Go.Proofs

theorem RowF.rd {w : World} {g : Nat} {cs : Array Value} {s : List StM} (h : RowF cs (fun j => s[j]?) 0 s.length) (hB : Blk w g 53 cs) : RdE elSt w (some ⟨g, 0, none⟩) s := fun k hk => by
  refine ⟨g, 0, rfl, Blk.lt hB, fun j u hu => ?_⟩
  obtain ⟨a0, a1, a2, a3⟩ := h.at_ hB (Nat.zero_le _) hk
  rw [Nat.zero_add]
  match j, hu with
  | 0, hu => exact a0.trans hu
  | 1, hu => exact a1.trans hu
  | 2, hu => exact a2.trans hu
  | 3, hu => exact a3.trans hu
  | j + 4, hu => exact absurd hu (by simp [elSt])
theorem RdE.set_ {α : Type} {E : El α} {w : World} {A : Option Addr} {l : List α} {g : Nat} (h : RdE E w A l) (hA : ∀ ad, A = some ad → ad.block ≠ g) (i : Nat) (u : Value) : RdE E (w.setCell ⟨g, i, none⟩ u) A l := fun k hk => by
  obtain ⟨b, off, e, hl, hc⟩ := h k hk
  have hB : But g w.heap.size w (w.setCell ⟨g, i, none⟩ u) := But.set_ _ _ _
  exact ⟨b, off, e, Nat.lt_of_lt_of_le hl hB.size, fun j x hx => (hB.cell (p := ⟨b, off + k * E.sz + j, none⟩) hl (hA ⟨b, off, none⟩ e)).trans (hc j x hx)⟩
theorem RowF.ofRd {w : World} {g : Nat} {cs : Array Value} {s : List StM} (h : RdE elSt w (some ⟨g, 0, none⟩) s) (hB : Blk w g 53 cs) : RowF cs (fun j => s[j]?) 0 s.length := fun j _ hj => by
  obtain ⟨b, off, e, _, a0, a1, a2, a3⟩ := rd_st h hj
  injection e with e
  injection e with e1 e2 _
  subst e1 e2
  rw [Nat.zero_add, Blk.cell hB] at a0 a1 a2 a3
  exact ⟨s[j], List.getElem?_eq_getElem hj, a0, a1, a2, a3⟩
set_option maxRecDepth 100000 in
set_option maxHeartbeats 2000000 in
theorem compact_none (w : World) : Calls Tryz.prog 33 #[.slice none 0 0] w fun e w' => e = .returned (.slice none 0 0) ∧ w = w' := by
  go_enter Tryz.func33, Tryz.ntmps33
  go_wp2_with fail
  go_ret
  exact ⟨rfl, rfl⟩
theorem compact_own (B : Nat) (A : Option Addr) (c : Nat) (s : List StM) (w : World) (hl : s.length ≤ 100000) (h : OwnE_ elSt B w (.slice A s.length c) s) :
    Calls Tryz.prog 33 #[.slice A s.length c] w fun e w' => e = .returned (.slice A (compL s).length c) ∧ (compL s).length ≤ c ∧ c ≤ maxLen ∧ RdE elSt w' A (compL s) ∧ (∀ ad, A = some ad → B ≤ ad.block) ∧ Below B w w' := by
  rcases h.2 with ⟨e, h0⟩ | ⟨g, cap, cur, e, hg, hh, hc, hm, hsz, _⟩
  · have : s = [] := List.eq_nil_of_length_eq_zero h0
    subst this
    cases e
    exact (compact_none w).mono fun e w' ⟨he, hw⟩ => ⟨he, Nat.le_refl _, by decide, RdE.nil_, by simp, by rw [← hw]; exact Below.refl _ _⟩
  · cases e
    obtain ⟨A2, c2, e2, hr⟩ := h.rd
    cases e2
    have hlen : (compL s).length ≤ s.length := by
      cases s with
      | nil => exact Nat.le_refl _
      | cons x l => show (compG x l).length ≤ _; rw [compG_tail]; have := tailG_len l x; simp; omega
    refine (compact_steps g c s cur w hl hc hm hh hsz (RowF.ofRd hr hh)).mono ?_
    rintro e w' ⟨he, ⟨cs', k1, k2, k3⟩, hb⟩
    exact ⟨he, by omega, hm, k3.rd k1, (fun ad e => by injection e with e; rw [← e]; exact hg), ⟨hb.os, hb.tape, hb.output, hb.size, fun k hk => hb.block k (by have := Blk.lt hh; omega) (by omega)⟩⟩
set_option maxRecDepth 100000 in
set_option maxHeartbeats 2000000 in
theorem values_steps (A : Option Addr) (n c : Nat) (w : World) : Calls Tryz.prog 35 #[.slice A n c] w fun e w' => e = .returned (.func (.func 58) #[] #[.pointer (some ⟨w.heap.size, 0, none⟩)]) ∧ w' = w.alloc (.cells #[.slice A n c] 33) := by
  go_enter Tryz.func35, Tryz.ntmps35
  go_wp2_with fail
  go_ret
  exact ⟨rfl, rfl⟩
set_option maxRecDepth 100000 in
set_option maxHeartbeats 2000000 in
theorem normal_prog (L : List StM) (A : Option Addr) (c : Nat) (w : World) (hL : L.length ≤ 100000) (hr : RdE elSt w A L) :
    Calls Tryz.prog 18 #[.slice A L.length c] w fun e w' => ∃ (A2 : Option Addr) (c2 : Nat), e = .returned (.agg #[.slice A2 (normM L).length c2]) ∧ (normM L).length ≤ c2 ∧ c2 ≤ maxLen ∧ RdE elSt w' A2 (normM L) ∧ (∀ ad, A2 = some ad → w.heap.size < ad.block) ∧ Below w.heap.size w w' := by
  have HR := hide hr
  have hv := values_steps A L.length c (w.alloc (.cells #[.slice none 0 0] 35))
  rw [World.size_alloc] at hv
  have HV := hide hv
  clear hr hv
  have hb2 : Below w.heap.size w ((w.alloc (.cells #[.slice none 0 0] 35)).alloc (.cells #[.slice A L.length c] 33)) := ((Below.refl _ w).alloc (Nat.le_refl _) _).alloc (by simp) _
  have hP2 : Blk ((w.alloc (.cells #[.slice none 0 0] 35)).alloc (.cells #[.slice A L.length c] 33)) w.heap.size 35 #[.slice none 0 0] := Blk.alloc (Blk.new _ _ _) _
  have hBs : Blk ((w.alloc (.cells #[.slice none 0 0] 35)).alloc (.cells #[.slice A L.length c] 33)) (w.heap.size + 1) 33 #[.slice A L.length c] := by have := Blk.new (w.alloc (.cells #[.slice none 0 0] 35)) 33 #[.slice A L.length c]; rw [World.size_alloc] at this; exact this
  have HS := hide (sortedF_steps _ L A c _ hL hBs (RdE.grow HR.out hb2))
  have HB2 := hide hb2
  have HP2 := hide hP2
  clear hb2 hP2 hBs
  go_enter Tryz.func18, Tryz.ntmps18
  go_wp2_with (first
    | (go_at_call 35; refine HV.out.mono ?_; rintro e w1 ⟨rfl, rfl⟩)
    | (go_at_call 34; refine HS.out.mono ?_; rintro e w2 ⟨A2, c2, s, rfl, hp, ha, ho, hb3⟩
       have hlen := hp.length_eq
       rw [← hlen] at ho
       have hC := compact_own _ A2 c2 s w2 (by omega) ho
       rw [hlen, show compL s = normM L from comp_norm ha fun y => hp.mem_iff] at hC
       have HC := hide hC
       clear hC hlen
       have HB3 := hide (HB2.out.trans (hb3.mono HB2.out.size))
       have HP3 := hide (Blk.below HP2.out hb3 HP2.out.lt)
       clear hp ha ho hb3)
    | (go_at_call 33; refine HC.out.mono ?_; rintro e w3 ⟨rfl, hc1, hc2, hrd, hgA, hb4⟩
       have HB4 := hide (HB3.out.trans (hb4.mono HB2.out.size))
       have hP4 := Blk.below HP3.out hb4 HP2.out.lt
       have x0 := hP4.cell 0
       have f0 := hP4.frozen 0
       have l0 := hP4.lt
       simp at x0
       have HRD := hide hrd
       have HGA := hide hgA
       have HPP := hide hP4
       clear hrd hb4 hP4 hgA))
  have hBl : Blk (w3.setCell ⟨w.heap.size, 0, none⟩ (.slice A2 (normM L).length c2)) w.heap.size 35 #[.slice A2 (normM L).length c2] := Blk.set_ HPP.out 0 _
  refine bodyPost_ret (v := .agg #[.slice A2 (normM L).length c2]) (w := _) (results_cell_row (P := Tryz.prog) rfl _ _ w.heap.size 35 #[.slice A2 (normM L).length c2] (0, 0) _ rfl hBl Tryz.underlying35 rfl (by kernel_rfl)) rfl ⟨A2, c2, rfl, hc1, hc2, ?_, (fun ad e => by have := HGA.out ad e; simp at this; omega), ?_⟩
  · exact RdE.set_ HRD.out (fun ad e => by have := HGA.out ad e; simp at this; omega) _ _
  · exact HB4.out.trans ((But.set_ (B := w.heap.size) w3 0 _).below (Nat.le_refl _))
end Go.Proofs.YtpggamapmgpjcaaGreatDoor
