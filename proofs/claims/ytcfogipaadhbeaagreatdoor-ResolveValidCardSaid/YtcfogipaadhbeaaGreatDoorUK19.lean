/- A part of the claim: see its last text. -/
import Derived.RangeFuncNested
import Derived.RangeFuncBound
import Derived.RangeFuncCalls
import Derived.RangeFuncLeaves
import Derived.RangeFuncBox
import Derived.Shelf.Abstract
import Derived.Shelf.RegionOpen
import Derived.WalkKit
import Derived.OwnWalkIn
import Derived.TacticsInMore
import Derived.LoopNIn
import Derived.LoopIn
import Derived.Maps.AppendAt
import Derived.Sort.OwnSorted
import Derived.Sort.OwnSortedInts
import Derived.Test.YtcfogipaadhbeaaGreatDoorShelf
import Derived.Test.YtcfogipaadhbeaaGreatDoorUK02
import Derived.Test.YtcfogipaadhbeaaGreatDoorUK04
import Derived.Test.YtcfogipaadhbeaaGreatDoorUK10
import Derived.Test.YtcfogipaadhbeaaGreatDoorUK03
import Derived.Lib.SliceRun
import Derived.Deep.QuietTactic
import Derived.BigQuiet
import Derived.Test.YtcfogipaadhbeaaGreatDoorUK08
import Derived.Deep.Slices

set_option maxRecDepth 100000
set_option maxHeartbeats 16000000
namespace Go.Proofs.YtcfogipaadhbeaaGreatDoor
open Go Go.RowKit Go.Proofs Go.Shelf
attribute [local go_sem] Oper.semAt_some
def encS19 (x : ByteArray) : Array Value := #[.string x]
theorem infoS19 : (Tryz.prog.info? 9).map (fun i => (i.zero, i.size, i.bytes)) = some (some (.string ⟨#[]⟩), 1, 16) := by kernel_rfl
theorem oneS19 (l : List ByteArray) : ∀ u ∈ l.map (fun x => Value.string x), u.oneCell' = true := by
 intro u hu
 obtain ⟨x, _, rfl⟩ := List.mem_map.1 hu
 rfl
theorem valuesS_in (n : Nat) (_hn : 1 ≤ n) (l bs N : Nat) (L : List ByteArray) (A : Option Addr) (c : Nat) (w : World) (hN : L.length ≤ N) (hL : L.length ≤ 1000000) (J Jx : List ByteArray → World → Prop)
    (hY : ∀ pre (x : ByteArray) W, J pre W → pre.length < N → YieldAt Fence.wide (n - 1) Tryz.prog l (encS19 x) W fun e W' =>
      (e = .returned (.bool true) ∧ J (pre ++ [x]) W' ∧ Below w.heap.size W W') ∨ (e = .returned (.bool false) ∧ Jx (pre ++ [x]) W'))
    (W : World) (hW : Below w.heap.size w W) (hB : Blk w bs 25 #[.slice A L.length c]) (hr : Strs w w.heap.size A L) (h0 : J [] W) :
    CallsIn Fence.wide n Tryz.prog 105 #[.func (.yield l) #[] #[], .pointer (some ⟨bs, 0, none⟩)] W fun e W' => (∃ v, e = .returned v) ∧
     ((∃ ys, ys = L ∧ J ys W') ∨ (∃ pre, True ∧ Jx pre W')) := by
 have hB2 := hB.below hW hB.lt
 have b0 := hB2.cell 0
 have bl := hB2.lt
 simp at b0
 have HR := hide (fun W2 (hb : Below w.heap.size w W2) => hr.grow hb)
 have HYY := hide hY
 have H0 := hide (And.intro h0 (And.intro hW (Nat.le_refl W.heap.size)))
 clear hB hB2 hr hY h0 hW
 refine callsIn_of_wp Tryz.func105 rfl trivial ?_ rfl
 simp only [Tryz.ntmps105, List.size_toArray, List.length_cons, List.length_nil, Nat.reduceAdd, Nat.reduceSub, Array.replicate_succ, Array.replicate_zero, List.push_toArray, List.append_toArray, List.nil_append, List.cons_append]
 gi_wp2
 gi_loopw [7] (fun i wr => ∃ k : Nat, k ≤ L.length ∧ i = .int .i64 k ∧ Hid (J (L.take k) wr ∧ Below w.heap.size w wr ∧ W.heap.size ≤ wr.heap.size)) (fun i _ => L.length - (intOf i).toNat)
 case atStart => exact ⟨0, Nat.zero_le _, rfl, H0⟩
 case round =>
  obtain ⟨k, hk, rfl, hS⟩ := hrel
  clear H0
  by_cases hlt : k < L.length
  · obtain ⟨q1, q2, q3⟩ := hS.out
    obtain ⟨bc, oc, hA, hbc, x0⟩ := str_at (HR.out wr q2) hlt
    obtain ⟨x, hx⟩ : ∃ x, x = L[k] := ⟨_, rfl⟩
    rw [← hx] at x0
    have HB5 := hide (And.intro q2 q3)
    have HE := hide (show L.take k ++ [x] = L.take (k + 1) by rw [List.take_succ_eq_append_getElem hlt, hx])
    have HYX := hide (HYY.out (L.take k) x _ q1 (by rw [List.length_take]; omega))
    have hltI : (k : Int) < (L.length : Int) := by omega
    subst hA
    clear hx q1 q2 q3 hS
    obtain ⟨fn, tmps, assign, body, hy, hR⟩ := HYX.out
    dsimp only [encS19] at hy
    clear HYX
    gi_wp2
    refine hR.mono ?_
    rintro e W6 (⟨rfl, hJ6, hk6⟩ | ⟨rfl, hJx6⟩)
    · have HS6 := hide (show J (L.take (k + 1)) W6 ∧ Below w.heap.size w W6 ∧ W.heap.size ≤ W6.heap.size from ⟨by rw [← HE.out]; exact hJ6, HB5.out.1.trans hk6, Nat.le_trans HB5.out.2 hk6.size⟩)
      clear hk6 hJ6 hR hy
      gi_wp2
      go_roundw
      case rel => exact ⟨k + 1, by omega, by go_num, HS6⟩
      case measure => simp [intOf]; omega
    · have HX6 := hide hJx6
      clear hJx6 hR hy
      gi_wp2
      refine bodyPost_ret (results_none rfl _ _ _) rfl ?_
      exact ⟨⟨_, rfl⟩, .inr ⟨_, trivial, HX6.out⟩⟩
  · obtain rfl : k = L.length := by omega
    have hS := hS
    gi_wp2
    go_end0
    exact ⟨⟨_, rfl⟩, .inl ⟨L, rfl, by have := hS.out.1; rw [List.take_length] at this; exact this⟩⟩
theorem appendSeqS_in (n : Nat) (hn : 6 ≤ n) (gf : Nat) (lb : Array Value) (S Sp : List ByteArray → Prop) (N : Nat) (w : World) (hN : N ≤ 100000) (eg : ∀ args w, (callFunc gf args).run Tryz.prog w = .ok (.enter gf args) w)
    (hseq : SeqStopsK Fence.wide (n - 1) Tryz.prog gf lb encS19 (Below w.heap.size) S Sp N w) :
    CallsIn Fence.wide n Tryz.prog 162 #[.slice none 0 0, .func (.func gf) #[] lb] w fun e W' => ∃ v xs, e = .returned v ∧ S xs ∧ OwnS w.heap.size W' v xs ∧ Below w.heap.size w W' := by
 refine callsIn_of_wp_marks Tryz.func162 rfl trivial ?_ rfl
 simp only [Tryz.ntmps162, List.size_toArray, List.length_cons, List.length_nil, Nat.reduceAdd, Nat.reduceSub, Array.replicate_succ, Array.replicate_zero, List.push_toArray, List.append_toArray, List.nil_append, List.cons_append]
 gi_wp2
 have hb0 : Below w.heap.size w (w.alloc (.cells #[.slice none 0 0] 25)) := (Below.refl _ w).alloc (Nat.le_refl _) _
 refine wpIn_rangeFunc_ownH rfl (by omega) (gf := gf) (lb := lb) rfl trivial eg hseq (fun h k => h.trans k) (fun W l o o' hl h1 h2 h3 => belowK_b (w := w) (Nat.le_refl _) W l o o' (by simp at hl; omega) h1 h2 h3) hb0 (fun _ => rfl)
  (fun pre W => (∃ v, Boxed W w.heap.size 25 v ∧ W.ownsRow w.heap.size 9 1 v pre.length (pre.map (fun x => Value.string x)) ∧ True) ∧ Below w.heap.size w W)
  (fun _ _ _ => False)
  (OwnFrom.and (Own.from (holdsRow_own w.heap.size w.heap.size 25 9 1 (fun pre => pre.length) (fun pre : List ByteArray => pre.map (fun x => Value.string x)) (fun _ _ => True)) _) (ownFrom_below (Nat.le_refl _) (by simp)))
  (fun _ _ _ _ _ hs _ _ => hs)
  ⟨⟨_, Boxed.new w _ _, World.ownsRow_nil _ _ _ _, trivial⟩, hb0⟩
  (fun x a' _ => a' = { tmps := #[.slice none 0 0, .func (.func gf) #[] lb, .pointer (some ⟨w.heap.size, 0, none⟩), undef, .slice none 0 0, .string x, .func (.func gf) #[] lb, .string x, undef, undef, undef, undef, undef], defers := [] })
  (fun _ _ _ _ _ _ hs _ _ => hs)
  ?assign ?body ?done ?stop
 case assign =>
  rintro l pre x W K ⟨⟨v, hv, hrow, _⟩, hB1⟩ hK
  simp only [encS19]
  gi_wp2
  exact hK _ _ ((KeepsOthers.refl _).from _) (Below.refl _ W) ⟨⟨v, hv, hrow, trivial⟩, hB1⟩ rfl
 case body =>
  rintro l pre x a' W hl ⟨r, hr⟩ ⟨⟨v, hv, hrow, _⟩, hB1⟩ rfl hlt
  have hv1 := hv.cell
  have vl := hv.lt
  obtain ⟨i0, hi, hz0, hz1, hz2⟩ := info_parts infoS19
  gi_wp2_with (gi_at_builtin; refine wpListIn_append_own _ rfl _ _ 25 rfl w.heap.size 9 i0 _ 1 16 Tryz.underlying25 hi hz0 hz1 hz2 rfl (by decide) _ _ _ rfl (hrow.alloc _) ⟨W.heap.size, 0, none⟩ 1 1 ([x].map (fun x => Value.string x)) rfl rfl (fun j u hu => by rw [add_none, Nat.zero_add, cell?_new]; simpa using hu) (oneS19 [x]) (by unfold maxLen; omega) (by omega) (by have := hB1.size; simp; omega) ?_; intro v' w1 hown' hgrow _; obtain ⟨g', cap', rfl⟩ := ownsRow_succ hown'; obtain ⟨q1, q2, q3, q4, q5⟩ := hv.appended (by decide) hrow hB1.size (Nat.le_refl _) hown' hgrow; have hc1 := q1.cell; have hf1 := q1.frozen)
  have hcs : pre.map (fun x => Value.string x) ++ [x].map (fun x => Value.string x) = (pre ++ [x]).map (fun x => Value.string x) := (List.map_append ..).symm
  rw [hcs] at hown' q3
  exact ⟨q4.from _, q5, ⟨⟨_, q2, by rw [List.length_append]; exact q3, trivial⟩, hB1.trans q5⟩⟩
 case done =>
  rintro D xs W hD hS ⟨⟨v, hv, hrow, _⟩, hB1⟩ hK
  have hv1 := hv.cell
  have vl := hv.lt
  gi_wp2
  refine ⟨by simp, .inl ⟨_, _, rfl, run_takeDeferred hK, ?_⟩⟩
  exact ⟨_, results_tmp rfl _ _ _, v, xs, rfl, hS, ownsRow_putObj hrow _ hK rfl, hB1.trans (belowK_b (w := w) (Nat.le_refl _) W D _ _ (by simp at hD; omega) hK rfl rfl)⟩
 case stop =>
  rintro D c pre W _ _ h _
  exact h.elim
theorem valuesS_seq (n : Nat) (hn : 1 ≤ n) (bs N : Nat) (L : List ByteArray) (A : Option Addr) (c : Nat) (w : World) (hN : L.length ≤ N) (hL : L.length ≤ 1000000) (hB : Blk w bs 25 #[.slice A L.length c]) (hr : Strs w w.heap.size A L) :
    SeqStopsK Fence.wide n Tryz.prog 105 #[.pointer (some ⟨bs, 0, none⟩)] encS19 (Below w.heap.size) (fun ys => ys = L) (fun _ => True) N w :=
 fun l J Jx W hW _ _ hY h0 => valuesS_in n hn l bs N L A c w hN hL J Jx hY W hW hB hr h0
theorem collectS (bs : Nat) (L : List ByteArray) (A : Option Addr) (c : Nat) (w : World) (hL : L.length ≤ 100000) (hB : Blk w bs 25 #[.slice A L.length c]) (hr : Strs w w.heap.size A L) :
    Calls Tryz.prog 103 #[.func (.func 105) #[] #[.pointer (some ⟨bs, 0, none⟩)]] w fun e W' => ∃ v, e = .returned v ∧ OwnS w.heap.size W' v L ∧ Below w.heap.size w W' := by
 have hA : Calls Tryz.prog 162 #[.slice none 0 0, .func (.func 105) #[] #[.pointer (some ⟨bs, 0, none⟩)]] w fun e W' => ∃ v, e = .returned v ∧ OwnS w.heap.size W' v L ∧ Below w.heap.size w W' := by
  refine ((callsIn_wide (n := 8)).1 (appendSeqS_in 8 (by omega) 105 #[.pointer (some ⟨bs, 0, none⟩)] (fun ys => ys = L) (fun _ => True) 100000 w (by omega) (fun _ _ => by kernel_rfl) (valuesS_seq 7 (by omega) bs 100000 L A c w hL (by omega) hB hr))).mono ?_
  rintro e W' ⟨v, xs, rfl, rfl, ho, hb⟩
  exact ⟨v, rfl, ho, hb⟩
 have HC := hide hA
 clear hB hr hA
 go_enter Tryz.func103, Tryz.ntmps103
 go_wp2_with (go_at_call 162; refine HC.out.mono ?_; rintro e w1 ⟨v, rfl, ho, hb⟩)
 go_ret
 exact ⟨v, rfl, ho, hb⟩
theorem valuesS_prog (A : Option Addr) (n c : Nat) (w : World) : Calls Tryz.prog 64 #[.slice A n c] w fun e w' => e = .returned (.func (.func 105) #[] #[.pointer (some ⟨w.heap.size, 0, none⟩)]) ∧ w' = w.alloc (.cells #[.slice A n c] 25) := by
 go_enter Tryz.func64, Tryz.ntmps64
 go_wp2
 go_ret
 exact ⟨rfl, rfl⟩
def bytesL (l : List ByteArray) : List (List UInt8) := l.map fun s => s.data.toList
theorem bytesL_enc (l : List ByteArray) : (bytesL l).map encStr = l.map Value.string := by
 unfold bytesL
 rw [List.map_map]
 rfl
theorem enc_bytes (l : List (List UInt8)) : l.map encStr = (l.map fun s => (⟨s.toArray⟩ : ByteArray)).map Value.string := by
 rw [List.map_map]
 rfl
def sortS (l : List ByteArray) : List ByteArray := ((bytesL l).mergeSort fun x y => decide (x ≤ y)).map fun s => ⟨s.toArray⟩
theorem sortS_perm (l : List ByteArray) : (sortS l).Perm l := by
 have h := (List.mergeSort_perm (bytesL l) (fun x y => decide (x ≤ y))).map (fun s => (⟨s.toArray⟩ : ByteArray))
 refine h.trans ?_
 unfold bytesL
 rw [List.map_map]
 have : ((fun s : List UInt8 => (⟨s.toArray⟩ : ByteArray)) ∘ fun s : ByteArray => s.data.toList) = id := by funext s; rfl
 rw [this, List.map_id]
theorem sortS_sorted (l : List ByteArray) : (sortS l).Pairwise fun a b => a.data.toList ≤ b.data.toList := by
 unfold sortS
 rw [List.pairwise_map]
 have := List.pairwise_mergeSort (le := fun x y : List UInt8 => decide (x ≤ y)) (fun a b c h1 h2 => by simp only [decide_eq_true_eq] at *; exact List.le_trans h1 h2) (fun a b => by simp only [Bool.or_eq_true, decide_eq_true_eq]; exact List.le_total a b) (bytesL l)
 exact this.imp fun h => by simpa using h
theorem sortedS (bs : Nat) (L : List ByteArray) (A : Option Addr) (c : Nat) (w : World) (hL : L.length ≤ 100000) (hB : Blk w bs 25 #[.slice A L.length c]) (hr : Strs w w.heap.size A L) :
    Calls Tryz.prog 63 #[.func (.func 105) #[] #[.pointer (some ⟨bs, 0, none⟩)]] w fun e W' => ∃ v, e = .returned v ∧ OwnS w.heap.size W' v (sortS L) ∧ Below w.heap.size w W' := by
 have HC := hide (collectS bs L A c w hL hB hr)
 clear hB hr
 have HS : Hid (∀ (v : Value) (w1 : World), OwnS w.heap.size w1 v L → w.heap.size ≤ w1.heap.size → Calls Tryz.prog 104 #[v] w1 fun e w2 => e = .returned (.tuple #[]) ∧ OwnS w.heap.size w2 v (sortS L) ∧ Below w.heap.size w1 w2) := by
  refine hide fun v w1 ho hs => ?_
  rcases ho.2 with ⟨rfl, h0⟩ | ⟨g, cap, cur, rfl, hg, hh, h1, h2, h3, h4⟩
  · have : L = [] := List.eq_nil_of_length_eq_zero h0
    subst this
    refine (Tryz.slices_Sort_string_none none 0 w1).mono ?_
    rintro e w2 ⟨rfl, rfl⟩
    exact ⟨rfl, by rw [show sortS [] = [] by simp [sortS, bytesL]]; exact OwnS.nil_ _ _, Below.refl _ _⟩
  · have hlb : (bytesL L).length = L.length := by simp [bytesL]
    have hH : Sort.Holds encStr w1 g 0 (bytesL L).toArray := holds_of_block hh (by rw [hlb, bytesL_enc]; simpa using h4)
    have := Tryz.slices_Sort_string g 0 cap (bytesL L) w1 hH (Blk.lt hh) (by rw [hlb]; omega)
    rw [hlb] at this
    refine this.mono ?_
    rintro e w2 ⟨rfl, n, os, rfl⟩
    refine ⟨rfl, ?_, (Below.refl _ _).grown (grownBy_sorted _) hs (fun k e => by cases e; exact hg)⟩
    have h5 := ownsRow_sorted (w := w1) (n := n) (os := os) (ss := bytesL L) (ts := (bytesL L).mergeSort fun x y => decide (x ≤ y)) (by simp) hg hh (by rw [hlb]; exact h1) h2 h3
    have hls : (sortS L).length = L.length := (sortS_perm L).length_eq
    unfold OwnS
    rw [hls, ← hlb]
    unfold sortS
    rw [← enc_bytes]
    exact h5
 go_enter Tryz.func63, Tryz.ntmps63
 go_wp2_with (first
  | (go_at_call 103; refine HC.out.mono ?_; rintro e w1 ⟨v, rfl, ho, hb⟩
     have HS1 := hide (HS.out v w1 ho hb.size)
     have HB := hide hb
     clear ho hb)
  | (go_at_call 104; refine HS1.out.mono ?_; rintro e w2 ⟨rfl, ho2, hb2⟩; have HR := hide (And.intro ho2 hb2); clear ho2 hb2))
 go_ret
 obtain ⟨ho2, hb2⟩ := HR.out
 exact ⟨_, rfl, ho2, HB.out.trans hb2⟩
end Go.Proofs.YtcfogipaadhbeaaGreatDoor

namespace Go.Proofs.YtcfogipaadhbeaaGreatDoor
open Go Go.RowKit Go.Proofs
theorem run_clear_s {P : Program} (w : World) (t e ty : TypeId) (z : Value) (ht : P.underlying t = some (.slice e)) (hv : ∀ w, (zeroValue e).run P w = .ok z w) (h1 : ∀ v ∈ z.cells, v.oneCell' = true) (hz : 0 < z.cells.size) (b o n c : Nat) (hn : 0 < n)
    (hc : ∀ j, j < n * z.cells.size → (w.cell? ⟨b, o + j, none⟩).isSome = true) (hf : ∀ j, j < n * z.cells.size → w.frozen? ⟨b, o + j, none⟩ = false) :
    ∃ vs : List Value, (Builtin.clear_ #[t] ty #[.slice (some ⟨b, o, none⟩) n c]).run P w = .ok (.tuple #[]) (w.setCells b o vs) := by
 refine ⟨(Builtin.zeroCells z.cells n).toList, ?_⟩
 have hlen : (Builtin.zeroCells z.cells n).toList.length = n * z.cells.size := by simp [Builtin.zeroCells]
 have hst := Go.run_storeCells_cells (P := P) b o (Builtin.zeroCells z.cells n).toList 0 w (by rw [hlen]; simpa using hc) (by rw [hlen]; simpa using hf) (by
  intro v hv'
  simp only [Builtin.zeroCells, Array.toList_map, List.mem_map] at hv'
  obtain ⟨i, _, rfl⟩ := hv'
  have hi : i % z.cells.size < z.cells.size := Nat.mod_lt _ hz
  rw [getElem!_pos z.cells _ hi]
  exact h1 _ (Array.getElem_mem hi))
 simp only [Nat.add_zero] at hst
 obtain ⟨m, rfl⟩ : ∃ m, n = m + 1 := ⟨n - 1, by omega⟩
 simp [Builtin.clear_, run_underlying ht, hv, hst]
theorem zero_str19 (w : World) : (zeroValue 9).run Tryz.prog w = .ok (.string ⟨#[]⟩) w := by kernel_rfl
theorem below_setCells {B g : Nat} (hg : B ≤ g) : ∀ (vs : List Value) (o : Nat) (w : World), Below B w (w.setCells g o vs)
 | [], _, w => Below.refl B w
 | v :: vs, o, w => ((Below.refl B w).setCell (p := ⟨g, o, none⟩) hg v).trans (below_setCells hg vs (o + 1) _)
theorem wrap_sub19 {k : Nat} (h : k ≤ 1000000000) : IntKind.i64.wrap ((k : Int) + 1 - 1) = (k : Int) := by rw [IntKind.wrap_i64]; omega
def StrN (cs : Array Value) (n : Nat) : Prop := ∀ j, j < n → ∃ s, cs[j]? = some (.string s)
theorem sorted_nodup {L : List ByteArray} (hs : L.Pairwise fun a b => a.data.toList ≤ b.data.toList) (h : ∀ j (hj : j + 1 < L.length), L[j + 1] ≠ L[j]) : L.Nodup := by
 rw [List.Nodup, List.pairwise_iff_getElem]
 intro i j hi hj hij e
 have hn := h i (by omega)
 by_cases e2 : j = i + 1
 · subst e2; exact hn e.symm
 · rw [List.pairwise_iff_getElem] at hs
   have h1 := hs i (i + 1) hi (by omega) (by omega)
   have h2 := hs (i + 1) j (by omega) hj (by omega)
   rw [← e] at h2
   have h3 := List.le_antisymm h1 h2
   refine hn ?_
   have : ∀ a b : ByteArray, a.data.toList = b.data.toList → a = b := fun a b h => by
    obtain ⟨⟨a⟩⟩ := a; obtain ⟨⟨b⟩⟩ := b
    simp at h; rw [h]
   exact (this _ _ h3).symm
theorem dup_not {L : List ByteArray} {j : Nat} (hj : j + 1 < L.length) (h : L[j + 1] = L[j]) : ¬ L.Nodup := fun hn => by
 rw [List.Nodup, List.pairwise_iff_getElem] at hn
 exact hn j (j + 1) (by omega) hj (by omega) h.symm
def CompR (B : Nat) (w : World) (L : List ByteArray) (e : Ending) (w' : World) : Prop := ∃ A n c, e = .returned (.slice A n c) ∧ n ≤ L.length ∧ (n < L.length ↔ ¬ L.Nodup) ∧ Below B w w'
theorem StrN.set_ {cs : Array Value} {n : Nat} (h : StrN cs n) (i : Nat) (s : ByteArray) : StrN (cs.setIfInBounds i (.string s)) n := fun j hj => by
 obtain ⟨t, ht⟩ := h j hj
 by_cases e : i = j
 · subst e
   have : i < cs.size := (Array.getElem?_eq_some_iff.1 ht).1
   exact ⟨s, by simp [this]⟩
 · exact ⟨t, by rw [Array.getElem?_setIfInBounds_ne e]; exact ht⟩
theorem compact19 (B : Nat) (v : Value) (L : List ByteArray) (w : World) (ho : OwnS B w v L) (_hB0 : B ≤ w.heap.size) (hl : L.length ≤ 1000) (hs : L.Pairwise fun a b => a.data.toList ≤ b.data.toList) :
    Calls Tryz.prog 65 #[v] w (CompR B w L) := by
 by_cases h2 : L.length < 2
 · have HN := hide (show L.Nodup from by
     match L, h2 with
     | [], _ => exact List.nodup_nil
     | [x], _ => simp)
   obtain ⟨A, c, rfl, _⟩ := ho.formD
   obtain ⟨n, hn⟩ : ∃ n, n = L.length := ⟨_, rfl⟩
   have HL := hide hn
   rw [← hn] at h2 ⊢
   have h2I : (n : Int) < 2 := by omega
   clear ho hn hl hs _hB0
   go_enter Tryz.func65, Tryz.ntmps65
   go_wp2_with fail
   go_ret
   exact ⟨A, n, c, rfl, by rw [HL.out]; exact Nat.le_refl _, ⟨fun h => absurd h (by rw [HL.out]; exact Nat.lt_irrefl _), fun h => absurd HN.out h⟩, Below.refl _ _⟩
 · rcases ho.2 with ⟨rfl, h0⟩ | ⟨g, c, cs, rfl, hg, hh, hlc, hcm, hcs, ht⟩
   · omega
   have hB : Blk w g 9 cs := hh
   have hr : ∀ j (hj : j < L.length), cs[j]? = some (.string L[j]) := fun j hj => by
    have : (cs.toList.take (L.length * 1))[j]? = (L.map Value.string)[j]? := by rw [ht]
    rw [List.getElem?_take_of_lt (by omega), Array.getElem?_toList] at this
    rw [this]; simp [hj]
   have HR := hide hr
   have HCS := hide hcs
   have HS := hide hs
   have HG := hide hg
   have h2I : ¬ (L.length : Int) < 2 := by omega
   have hcm2 : c ≤ 9223372036854775807 := hcm
   clear hr ht hh ho hs _hB0 hg hcs hcm
   go_enter Tryz.func65, Tryz.ntmps65
   go_wp2_with fail
   go_loopw [3] (fun i wr => ∃ k : Nat, i = .int .i64 ((k : Int) + 1) ∧ k + 1 ≤ L.length ∧ Hid (∀ j (_ : j + 1 < L.length), j < k → L[j + 1] ≠ L[j]) ∧ Hid (Blk wr g 9 cs) ∧ Hid (Below B w wr)) (fun i _ => L.length - (intOf i).toNat)
   case atStart => exact ⟨0, by go_num, by omega, hide (fun j _ h => absurd h (by omega)), hide hB, hide (Below.refl _ _)⟩
   case round =>
    clear hB
    obtain ⟨k, rfl, hk, hN, hB, hb⟩ := hrel
    by_cases hlt : k + 1 < L.length
    · have hltI : (k : Int) + 1 < (L.length : Int) := by omega
      have hkI : (k : Int) < (L.length : Int) := by omega
      have a0 := (Blk.cell hB.out (k + 1)).trans (HR.out (k + 1) hlt)
      have b0 := (Blk.cell hB.out k).trans (HR.out k (by omega))
      obtain ⟨x, hx⟩ : ∃ x, x = L[k + 1] := ⟨_, rfl⟩
      obtain ⟨y, hy⟩ : ∃ y, y = L[k] := ⟨_, rfl⟩
      rw [← hx] at a0
      rw [← hy] at b0
      by_cases hxy : x = y
      · have HD := hide (dup_not hlt (by rw [← hx, ← hy]; exact hxy))
        have hq := toList_beq_true hxy
        clear hx hy hxy
        go_wp2_with fail
        have hwk := wrap_sub19 (k := k) (by omega)
        go_quiet (fail)
        clear hwk
        have HB2 := hide (show Blk (wr.drewN nq) g 9 cs from hB.out)
        have hb2 := hide (below_drawn hb.out nq)
        clear hB hb a0 b0
        have hkl : (k : Int) + 1 ≤ (L.length : Int) := by omega
        have hlcI : (L.length : Int) ≤ (c : Int) := by omega
        go_wp2_with fail
        go_loopw [3, 5] (fun vk vq wr2 => ∃ (p q : Nat) (cs1 : Array Value), vk = .int .i64 p ∧ vq = .int .i64 ((q : Int) + 1) ∧ k + 1 + q + 1 ≤ L.length ∧ p ≤ k + 1 + q ∧ Hid (Blk wr2 g 9 cs1) ∧ Hid (cs1.size = c * 1) ∧ Hid (StrN cs1 L.length) ∧ Hid (Below B w wr2)) (fun _ vq _ => L.length - (intOf vq).toNat)
        case atStart => exact ⟨k + 1, 0, cs, by go_num, by go_num, by omega, by omega, HB2, HCS, hide (fun j hj => ⟨_, HR.out j hj⟩), hb2⟩
        case round =>
         clear HB2 hb2 hN hlt hltI hkI
         obtain ⟨p, q, cs1, rfl, rfl, hq1, hLp, hB, hsz, h1, hb⟩ := hrel
         rename World => w5
         by_cases hlt2 : k + 1 + q + 1 < L.length
         · obtain ⟨x, hx⟩ := h1.out (k + 1 + q + 1) hlt2
           obtain ⟨y, hy⟩ := h1.out (k + 1 + q) (by omega)
           have a0 : w5.cell? ⟨g, k + 1 + (q + 1), none⟩ = some (.string x) := (Blk.cell hB.out _).trans hx
           have b0 : w5.cell? ⟨g, k + 1 + q, none⟩ = some (.string y) := (Blk.cell hB.out _).trans hy
           have hqI : (q : Int) + 1 < ((L.length - (k + 1) : Nat) : Int) := by omega
           have hqJ : (q : Int) < ((L.length - (k + 1) : Nat) : Int) := by omega
           have hpL : (p : Int) < (L.length : Int) := by omega
           clear hx hy
           by_cases hxy : x = y
           · have hq2 := toList_beq_true hxy
             clear hxy
             go_wp2_with fail
             have hwk := wrap_sub19 (k := q) (by omega)
             go_quiet (fail)
             clear hwk
             go_wp2_with fail
             go_roundw
             case rel => exact ⟨p, q + 1, cs1, rfl, by go_num, by omega, by omega, hide (show Blk (w5.drewN _) g 9 cs1 from hB.out), hsz, h1, hide (below_drawn hb.out _)⟩
             case measure => simp [intOf]; omega
           · have hq2 := toList_beq_false hxy
             clear hxy
             go_wp2_with fail
             have hwk := wrap_sub19 (k := q) (by omega)
             go_quiet (fail)
             clear hwk
             have a1 : (w5.drewN nq).cell? ⟨g, k + 1 + (q + 1), none⟩ = some (.string x) := a0
             obtain ⟨z, hz⟩ := h1.out p (by omega)
             have t0 : (w5.drewN nq).cell? ⟨g, p, none⟩ = some (.string z) := (Blk.cell hB.out _).trans hz
             have f0 := Blk.frozen (show Blk (w5.drewN nq) g 9 cs1 from hB.out) p
             have HB3 := hide (show Blk (w5.drewN nq) g 9 cs1 from hB.out)
             have hb3 := hide (below_drawn hb.out nq)
             have hgl : g < (w5.drewN nq).heap.size := HB3.out.lt
             clear hz a0 b0
             go_wp2_with fail
             go_roundw
             case rel => exact ⟨p + 1, q + 1, _, by go_num, by go_num, by omega, by omega, hide (HB3.out.set_ p (.string x)), hide (by rw [Array.size_setIfInBounds]; exact hsz.out), hide (h1.out.set_ p x), hide (hb3.out.setCell (p := ⟨g, p, none⟩) HG.out _)⟩
             case measure => simp [intOf]; omega
         · have hqI : ¬ (q : Int) + 1 < ((L.length - (k + 1) : Nat) : Int) := by omega
           have hszo := hsz.out
           obtain ⟨vs, hclr⟩ := run_clear_s (P := Tryz.prog) w5 25 9 0 (.string ⟨#[]⟩) Tryz.underlying25 zero_str19 (by intro v hv; simp [Value.cells] at hv; rw [hv]; rfl) (by decide) g p (L.length - p) (c - p) (by omega) (fun j hj => by rw [Blk.cell hB.out]; rw [Array.getElem?_eq_getElem (by have : (Value.string ⟨#[]⟩).cells.size = 1 := rfl; rw [this] at hj; omega)]; rfl) (fun j _ => Blk.frozen hB.out _)
           have HCL := hide hclr
           clear hclr hszo
           have hLI : (p : Int) ≤ (L.length : Int) := by omega
           go_wp2_with (rw [HCL.out]; simp only [Result.andThen_ok, Oper.upon_value])
           go_ret
           exact ⟨_, p, _, rfl, by omega, ⟨fun _ => HD.out, fun _ => by omega⟩, hb.out.trans (below_setCells HG.out _ _ _)⟩
      · have HNE := hide (fun j (hj : j + 1 < L.length) (hjk : j < k + 1) => show L[j + 1] ≠ L[j] from by
          by_cases e : j = k
          · subst e; rw [← hx, ← hy]; exact hxy
          · exact hN.out j hj (by omega))
        have hq := toList_beq_false hxy
        clear hx hy hxy
        go_wp2_with fail
        have hwk := wrap_sub19 (k := k) (by omega)
        go_quiet (fail)
        clear hwk
        go_wp2_with fail
        go_roundw
        case rel => exact ⟨k + 1, by go_num, by omega, HNE, hide (show Blk (wr.drewN _) g 9 cs from hB.out), hide (below_drawn hb.out _)⟩
        case measure => simp [intOf]; omega
    · have he : L.length = k + 1 := by omega
      have hltI : ¬ (k : Int) + 1 < (L.length : Int) := by omega
      have HN := hide (sorted_nodup HS.out fun j hj => hN.out j hj (by omega))
      go_wp2_with fail
      go_ret
      exact ⟨_, k + 1, c, rfl, by omega, ⟨fun h => absurd h (by omega), fun h => absurd HN.out h⟩, hb.out⟩
end Go.Proofs.YtcfogipaadhbeaaGreatDoor

namespace Go.Proofs.YtcfogipaadhbeaaGreatDoor
open Go Go.RowKit Go.Proofs
end Go.Proofs.YtcfogipaadhbeaaGreatDoor

namespace Go.Proofs.YtcfogipaadhbeaaGreatDoor
open Go Go.RowKit Go.Proofs
theorem strs_tail {w : World} {B : Nat} {A : Option Addr} {l : List ByteArray} (h : Strs w B A l) {c : Nat} (hc : l.length ≤ c) : Strs w B (if c = 1 then A else A.map (fun x => x.add 1)) (l.drop 1) := by
 refine ⟨by simp, fun h0 => ?_⟩
 have h1 : 1 < l.length := by simp at h0; omega
 have hne : l ≠ [] := by intro e; rw [e] at h1; simp at h1
 obtain ⟨ad, e, hb, hcell⟩ := h.2 (by omega)
 subst e
 rw [if_neg (by omega)]
 refine ⟨ad.add 1, rfl, by rw [block_of_add]; exact hb, fun j u hu => ?_⟩
 rw [Go.Deep.add_add]
 refine hcell (1 + j) u ?_
 rw [← hu, List.getElem?_map, List.getElem?_map, List.getElem?_drop]
end Go.Proofs.YtcfogipaadhbeaaGreatDoor
