/- A part of the claim: see its last text. -/
import Derived.Test.YtcfogipaadhbeaaGreatDoorUK10
import Derived.RangeFuncNested
import Derived.RangeFuncBound
import Derived.RangeFuncCalls
import Derived.RangeFuncLeaves
import Derived.RangeFuncBox
import Derived.Shelf.Abstract
import Derived.Shelf.RegionOpen
import Derived.WalkKit
import Derived.OwnWalkIn
import Derived.TacticsInMore
import Derived.LoopNIn
import Derived.LoopIn
import Derived.Maps.AppendAt
import Derived.Sort.OwnSorted
import Derived.Sort.OwnSortedInts
import Derived.Test.YtcfogipaadhbeaaGreatDoorShelf
import Derived.Test.YtcfogipaadhbeaaGreatDoorUK02
import Derived.Test.YtcfogipaadhbeaaGreatDoorUK04
import Derived.Test.YtcfogipaadhbeaaGreatDoorUK06

set_option maxRecDepth 100000
set_option maxHeartbeats 16000000
namespace Go.Proofs.YtcfogipaadhbeaaGreatDoor
open Go Go.RowKit Go.Proofs
/-! what the names are known as -/
theorem thGet_find (l : List Decl) {nm : ByteArray} (hn : nm ≠ ⟨#[]⟩) {n : Nat} (h : n ≤ l.length) : thGet (thgs l n) nm = findD (l.take n) nm := by
 unfold thGet
 rw [thgs_find l hn n h]
 cases findD (l.take n) nm <;> rfl
theorem thNum_numN (l : List Decl) {nm : ByteArray} (hn : nm ≠ ⟨#[]⟩) : thNum (thgs l l.length) nm = numN l nm := by
 unfold thNum numN
 rw [thGet_find l hn (Nat.le_refl _), List.take_length]
 rfl
theorem findD_any (l : List Decl) (nm : ByteArray) : (findD l nm).isSome = l.any (nmB nm) := by
 unfold findD
 cases hi : l.findIdx? (nmB nm) with
 | none =>
   have := List.findIdx?_eq_none_iff.1 hi
   rw [List.any_eq_false.2 (fun x hx => by simpa using this x hx)]; rfl
 | some i =>
   obtain ⟨h1, h2, _⟩ := List.findIdx?_eq_some_iff_getElem.1 hi
   rw [List.any_eq_true.2 ⟨_, List.getElem_mem h1, h2⟩]
   simp only [List.getElem?_eq_getElem h1]; rfl
theorem used_any (l : List Decl) {nm : ByteArray} (hn : nm ≠ ⟨#[]⟩) {n : Nat} (h : n ≤ l.length) : (getA (thL (thgs l n)) nm).isSome = (l.take n).any (nmB nm) := by
 rw [thL_get, Option.isSome_map, thGet_find l hn h, findD_any]
theorem thgs_some (l : List Decl) {n : Nat} (h : n < l.length) (hn : l[n].name ≠ ⟨#[]⟩) : thL (thgs l (n + 1)) = thL (thgs l n) ++ [(l[n].name, thV (l[n].kind, (cntS (l.take (n + 1)) (sectI l[n].kind) : Int)))] := by
 rw [thgs, List.getElem?_eq_getElem h]
 simp only [if_neg hn]
 unfold thL
 rw [List.map_append]; rfl
theorem thgs_skip (l : List Decl) {n : Nat} (h : n < l.length) (hn : l[n].name = ⟨#[]⟩) : thgs l (n + 1) = thgs l n := by
 rw [thgs, List.getElem?_eq_getElem h]
 simp only [if_pos hn, List.append_nil]
/-! the first pass's errors -/
def kdB (k : Int) (d : Decl) : Bool := decide (d.kind = k)
theorem clash_any (d : Decl) (pre : List Decl) : pre.any (clashB d) = ((decide (d.name ≠ ⟨#[]⟩) && pre.any (nmB d.name)) || ((decide (d.kind = 8) || decide (d.kind = 9)) && pre.any (kdB d.kind))) := by
 induction pre with
 | nil => simp
 | cons e pre ih =>
   simp only [List.any_cons, ih, clashB, nmB, kdB]
   generalize decide (d.name ≠ ⟨#[]⟩) = a
   generalize decide (e.name = d.name) = b
   generalize (decide (d.kind = 8) || decide (d.kind = 9)) = c
   generalize decide (e.kind = d.kind) = f
   generalize pre.any _ = g
   generalize pre.any _ = i
   revert a b c f g i
   decide
theorem collect_bad {l : List Decl} {k : Nat} (hk : k < l.length) (h0 : ∀ j (_ : j < l.length), j < k → firstE (l.take j) l[j] = 0) {e : Int} (he : firstE (l.take k) l[k] = e) (hne : e ≠ 0) : collectR l = some (k, e) := by
 subst he
 unfold collectR
 have hf : (fun i => match l[i]? with | some d => firstE (l.take i) d | none => 0) k = firstE (l.take k) l[k] := by
  simp only [List.getElem?_eq_getElem hk]
 rw [← hf] at hne ⊢
 refine firstBad_at hk hne fun j hj => ?_
 have hjl : j < l.length := by omega
 simp only [List.getElem?_eq_getElem hjl]
 exact h0 j hjl hj
theorem collect_good {l : List Decl} (h0 : ∀ j (_ : j < l.length), j < l.length → firstE (l.take j) l[j] = 0) : collectR l = none := by
 unfold collectR
 rw [firstBad_none]
 intro j hj
 simp only [List.getElem?_eq_getElem hj]
 exact h0 j hj hj
theorem first_bad {pre : List Decl} {d : Decl} (h : validD d = false) : firstE pre d = 1 := by unfold firstE; rw [if_pos h]
theorem first_name {pre : List Decl} {d : Decl} (h : validD d = true) (hn : d.name ≠ ⟨#[]⟩) (hu : pre.any (nmB d.name) = true) : firstE pre d = 5 := by
 unfold firstE; rw [if_neg (by simp [h]), clash_any, hu]; simp [hn]
theorem first_once {pre : List Decl} {d : Decl} (h : validD d = true) (hs : d.kind = 8 ∨ d.kind = 9) (hu : pre.any (kdB d.kind) = true) : firstE pre d = 5 := by
 unfold firstE; rw [if_neg (by simp [h]), clash_any, hu]
 rcases hs with e | e <;> simp [e]
theorem first_fine {pre : List Decl} {d : Decl} (h : validD d = true) (h1 : d.name = ⟨#[]⟩ ∨ pre.any (nmB d.name) = false) (h2 : (d.kind ≠ 8 ∧ d.kind ≠ 9) ∨ pre.any (kdB d.kind) = false) : firstE pre d = 0 := by
 unfold firstE; rw [if_neg (by simp [h]), clash_any]
 have a : (decide (d.name ≠ ⟨#[]⟩) && pre.any (nmB d.name)) = false := by rcases h1 with e | e <;> simp [e]
 have b : ((decide (d.kind = 8) || decide (d.kind = 9)) && pre.any (kdB d.kind)) = false := by rcases h2 with e | e <;> simp [e]
 rw [a, b]; rfl
theorem any_succ {l : List Decl} {k : Nat} (h : k < l.length) (p : Decl → Bool) : (l.take (k + 1)).any p = ((l.take k).any p || p l[k]) := by
 rw [List.take_succ_eq_append_getElem h, List.any_append]; simp
theorem vd_fits {d : Decl} (h : validD d = true) : ∃ f, form? d.kind = some f ∧ fits f d = true := by
 unfold validD shaped at h
 simp only [Bool.and_eq_true] at h
 have h1 := h.1.1.1
 cases hf : form? d.kind with
 | none => rw [hf] at h1; cases h1
 | some f => rw [hf] at h1; exact ⟨f, rfl, h1⟩
theorem vd_kind {d : Decl} (h : validD d = true) : 0 ≤ d.kind ∧ d.kind ≤ 16 := by
 obtain ⟨f, hf, _⟩ := vd_fits h
 constructor
 · rcases Int.lt_or_le d.kind 0 with h0 | h0
   · unfold form? at hf
     repeat rw [if_neg (by omega)] at hf
     cases hf
   · exact h0
 · rcases Int.lt_or_le 16 d.kind with h0 | h0
   · unfold form? at hf
     repeat rw [if_neg (by omega)] at hf
     cases hf
   · exact h0
def refsLo (k : Int) : Nat := match form? k with | some f => f.least | none => 0
def refsHi (k : Int) : Nat := match form? k with | some f => f.most | none => 0
def numsN (k : Int) : Nat := match form? k with | some f => f.numbers | none => 0
theorem vd_counts {d : Decl} (h : validD d = true) : refsLo d.kind ≤ d.refs.length ∧ d.refs.length ≤ refsHi d.kind ∧ d.nums.length = numsN d.kind := by
 obtain ⟨f, hf, h1⟩ := vd_fits h
 unfold refsLo refsHi numsN
 rw [hf]
 simp only [fits, Bool.and_eq_true, decide_eq_true_eq] at h1
 exact ⟨h1.1.1.1.1.2, h1.1.1.1.2, h1.1.1.2⟩
theorem vd_refs17 {d : Decl} (h : validD d = true) : d.refs.length ≤ 17 := by
 obtain ⟨_, h2, _⟩ := vd_counts h
 obtain ⟨k0, k1⟩ := vd_kind h
 have : refsHi d.kind ≤ 17 := by
  obtain ⟨n, hn⟩ : ∃ n : Nat, d.kind = n := ⟨d.kind.toNat, by omega⟩
  rw [hn]
  have hn2 : n < 17 := by omega
  clear hn h2 k0 k1
  revert n
  decide
 omega
theorem vd_ref {d : Decl} (h : validD d = true) {s : ByteArray} (hs : s ∈ d.refs) : s ≠ ⟨#[]⟩ := by
 unfold validD at h
 simp only [Bool.and_eq_true] at h
 have := List.all_eq_true.1 h.1.2 s hs
 rintro rfl
 exact absurd this (by decide)
theorem vd_name {d : Decl} (h : validD d = true) : d.name.size ≤ 31 := by
 unfold validD at h
 simp only [Bool.and_eq_true, Bool.or_eq_true, decide_eq_true_eq] at h
 rcases h.1.1.2 with e | e
 · rw [e]; decide
 · unfold isName at e
   simp only [Bool.and_eq_true, decide_eq_true_eq] at e
   exact e.1.1.1.2
end Go.Proofs.YtcfogipaadhbeaaGreatDoor

namespace Go.Proofs.YtcfogipaadhbeaaGreatDoor
open Go Go.RowKit Go.Proofs Go.Shelf
attribute [local go_sem] Oper.semAt_some
def encI19 (x : Int) : Array Value := #[.int .i64 x]
theorem infoI19 : (Tryz.prog.info? 3).map (fun i => (i.zero, i.size, i.bytes)) = some (some (.int .i64 0), 1, 8) := by kernel_rfl
theorem oneI19 (l : List Int) : ∀ u ∈ l.map (fun x => Value.int .i64 x), u.oneCell' = true := by
 intro u hu
 obtain ⟨x, _, rfl⟩ := List.mem_map.1 hu
 rfl
theorem valuesI_in (n : Nat) (_hn : 1 ≤ n) (l bs N : Nat) (L : List Int) (A : Option Addr) (c : Nat) (w : World) (hN : L.length ≤ N) (hL : L.length ≤ 1000000) (J Jx : List Int → World → Prop)
    (hY : ∀ pre (x : Int) W, J pre W → pre.length < N → YieldAt Fence.wide (n - 1) Tryz.prog l (encI19 x) W fun e W' =>
      (e = .returned (.bool true) ∧ J (pre ++ [x]) W' ∧ Below w.heap.size W W') ∨ (e = .returned (.bool false) ∧ Jx (pre ++ [x]) W'))
    (W : World) (hW : Below w.heap.size w W) (hB : Blk w bs 41 #[.slice A L.length c]) (hr : Ints w w.heap.size A L) (h0 : J [] W) :
    CallsIn Fence.wide n Tryz.prog 108 #[.func (.yield l) #[] #[], .pointer (some ⟨bs, 0, none⟩)] W fun e W' => (∃ v, e = .returned v) ∧
     ((∃ ys, ys = L ∧ J ys W') ∨ (∃ pre, True ∧ Jx pre W')) := by
 have hB2 := hB.below hW hB.lt
 have b0 := hB2.cell 0
 have bl := hB2.lt
 simp at b0
 have HR := hide (fun W2 (hb : Below w.heap.size w W2) => hr.grow hb)
 have HYY := hide hY
 have H0 := hide (And.intro h0 (And.intro hW (Nat.le_refl W.heap.size)))
 clear hB hB2 hr hY h0 hW
 refine callsIn_of_wp Tryz.func108 rfl trivial ?_ rfl
 simp only [Tryz.ntmps108, List.size_toArray, List.length_cons, List.length_nil, Nat.reduceAdd, Nat.reduceSub, Array.replicate_succ, Array.replicate_zero, List.push_toArray, List.append_toArray, List.nil_append, List.cons_append]
 gi_wp2
 gi_loopw [7] (fun i wr => ∃ k : Nat, k ≤ L.length ∧ i = .int .i64 k ∧ Hid (J (L.take k) wr ∧ Below w.heap.size w wr ∧ W.heap.size ≤ wr.heap.size)) (fun i _ => L.length - (intOf i).toNat)
 case atStart => exact ⟨0, Nat.zero_le _, rfl, H0⟩
 case round =>
  obtain ⟨k, hk, rfl, hS⟩ := hrel
  clear H0
  by_cases hlt : k < L.length
  · obtain ⟨q1, q2, q3⟩ := hS.out
    obtain ⟨bc, oc, hA, hbc, x0⟩ := int_at (HR.out wr q2) hlt
    obtain ⟨x, hx⟩ : ∃ x, x = L[k] := ⟨_, rfl⟩
    rw [← hx] at x0
    have HB5 := hide (And.intro q2 q3)
    have HE := hide (show L.take k ++ [x] = L.take (k + 1) by rw [List.take_succ_eq_append_getElem hlt, hx])
    have HYX := hide (HYY.out (L.take k) x _ q1 (by rw [List.length_take]; omega))
    have hltI : (k : Int) < (L.length : Int) := by omega
    subst hA
    clear hx q1 q2 q3 hS
    obtain ⟨fn, tmps, assign, body, hy, hR⟩ := HYX.out
    dsimp only [encI19] at hy
    clear HYX
    gi_wp2
    refine hR.mono ?_
    rintro e W6 (⟨rfl, hJ6, hk6⟩ | ⟨rfl, hJx6⟩)
    · have HS6 := hide (show J (L.take (k + 1)) W6 ∧ Below w.heap.size w W6 ∧ W.heap.size ≤ W6.heap.size from ⟨by rw [← HE.out]; exact hJ6, HB5.out.1.trans hk6, Nat.le_trans HB5.out.2 hk6.size⟩)
      clear hk6 hJ6 hR hy
      gi_wp2
      go_roundw
      case rel => exact ⟨k + 1, by omega, by go_num, HS6⟩
      case measure => simp [intOf]; omega
    · have HX6 := hide hJx6
      clear hJx6 hR hy
      gi_wp2
      refine bodyPost_ret (results_none rfl _ _ _) rfl ?_
      exact ⟨⟨_, rfl⟩, .inr ⟨_, trivial, HX6.out⟩⟩
  · obtain rfl : k = L.length := by omega
    have hS := hS
    gi_wp2
    go_end0
    exact ⟨⟨_, rfl⟩, .inl ⟨L, rfl, by have := hS.out.1; rw [List.take_length] at this; exact this⟩⟩
theorem appendSeqI_in (n : Nat) (hn : 6 ≤ n) (gf : Nat) (lb : Array Value) (S Sp : List Int → Prop) (N : Nat) (w : World) (hN : N ≤ 100000) (eg : ∀ args w, (callFunc gf args).run Tryz.prog w = .ok (.enter gf args) w)
    (hseq : SeqStopsK Fence.wide (n - 1) Tryz.prog gf lb encI19 (Below w.heap.size) S Sp N w) :
    CallsIn Fence.wide n Tryz.prog 165 #[.slice none 0 0, .func (.func gf) #[] lb] w fun e W' => ∃ v xs, e = .returned v ∧ S xs ∧ OwnI w.heap.size W' v xs ∧ Below w.heap.size w W' := by
 refine callsIn_of_wp_marks Tryz.func165 rfl trivial ?_ rfl
 simp only [Tryz.ntmps165, List.size_toArray, List.length_cons, List.length_nil, Nat.reduceAdd, Nat.reduceSub, Array.replicate_succ, Array.replicate_zero, List.push_toArray, List.append_toArray, List.nil_append, List.cons_append]
 gi_wp2
 have hb0 : Below w.heap.size w (w.alloc (.cells #[.slice none 0 0] 41)) := (Below.refl _ w).alloc (Nat.le_refl _) _
 refine wpIn_rangeFunc_ownH rfl (by omega) (gf := gf) (lb := lb) rfl trivial eg hseq (fun h k => h.trans k) (fun W l o o' hl h1 h2 h3 => belowK_b (w := w) (Nat.le_refl _) W l o o' (by simp at hl; omega) h1 h2 h3) hb0 (fun _ => rfl)
  (fun pre W => (∃ v, Boxed W w.heap.size 41 v ∧ W.ownsRow w.heap.size 3 1 v pre.length (pre.map (fun x => Value.int .i64 x)) ∧ True) ∧ Below w.heap.size w W)
  (fun _ _ _ => False)
  (OwnFrom.and (Own.from (holdsRow_own w.heap.size w.heap.size 41 3 1 (fun pre => pre.length) (fun pre : List Int => pre.map (fun x => Value.int .i64 x)) (fun _ _ => True)) _) (ownFrom_below (Nat.le_refl _) (by simp)))
  (fun _ _ _ _ _ hs _ _ => hs)
  ⟨⟨_, Boxed.new w _ _, World.ownsRow_nil _ _ _ _, trivial⟩, hb0⟩
  (fun x a' _ => a' = { tmps := #[.slice none 0 0, .func (.func gf) #[] lb, .pointer (some ⟨w.heap.size, 0, none⟩), undef, .slice none 0 0, .int .i64 x, .func (.func gf) #[] lb, .int .i64 x, undef, undef, undef, undef, undef], defers := [] })
  (fun _ _ _ _ _ _ hs _ _ => hs)
  ?assign ?body ?done ?stop
 case assign =>
  rintro l pre x W K ⟨⟨v, hv, hrow, _⟩, hB1⟩ hK
  simp only [encI19]
  gi_wp2
  exact hK _ _ ((KeepsOthers.refl _).from _) (Below.refl _ W) ⟨⟨v, hv, hrow, trivial⟩, hB1⟩ rfl
 case body =>
  rintro l pre x a' W hl ⟨r, hr⟩ ⟨⟨v, hv, hrow, _⟩, hB1⟩ rfl hlt
  have hv1 := hv.cell
  have vl := hv.lt
  obtain ⟨i0, hi, hz0, hz1, hz2⟩ := info_parts infoI19
  gi_wp2_with (gi_at_builtin; refine wpListIn_append_own _ rfl _ _ 41 rfl w.heap.size 3 i0 _ 1 8 Tryz.underlying41 hi hz0 hz1 hz2 rfl (by decide) _ _ _ rfl (hrow.alloc _) ⟨W.heap.size, 0, none⟩ 1 1 ([x].map (fun x => Value.int .i64 x)) rfl rfl (fun j u hu => by rw [add_none, Nat.zero_add, cell?_new]; simpa using hu) (oneI19 [x]) (by unfold maxLen; omega) (by omega) (by have := hB1.size; simp; omega) ?_; intro v' w1 hown' hgrow _; obtain ⟨g', cap', rfl⟩ := ownsRow_succ hown'; obtain ⟨q1, q2, q3, q4, q5⟩ := hv.appended (by decide) hrow hB1.size (Nat.le_refl _) hown' hgrow; have hc1 := q1.cell; have hf1 := q1.frozen)
  have hcs : pre.map (fun x => Value.int .i64 x) ++ [x].map (fun x => Value.int .i64 x) = (pre ++ [x]).map (fun x => Value.int .i64 x) := (List.map_append ..).symm
  rw [hcs] at hown' q3
  exact ⟨q4.from _, q5, ⟨⟨_, q2, by rw [List.length_append]; exact q3, trivial⟩, hB1.trans q5⟩⟩
 case done =>
  rintro D xs W hD hS ⟨⟨v, hv, hrow, _⟩, hB1⟩ hK
  have hv1 := hv.cell
  have vl := hv.lt
  gi_wp2
  refine ⟨by simp, .inl ⟨_, _, rfl, run_takeDeferred hK, ?_⟩⟩
  exact ⟨_, results_tmp rfl _ _ _, v, xs, rfl, hS, ownsRow_putObj hrow _ hK rfl, hB1.trans (belowK_b (w := w) (Nat.le_refl _) W D _ _ (by simp at hD; omega) hK rfl rfl)⟩
 case stop =>
  rintro D c pre W _ _ h _
  exact h.elim
theorem valuesI_seq (n : Nat) (hn : 1 ≤ n) (bs N : Nat) (L : List Int) (A : Option Addr) (c : Nat) (w : World) (hN : L.length ≤ N) (hL : L.length ≤ 1000000) (hB : Blk w bs 41 #[.slice A L.length c]) (hr : Ints w w.heap.size A L) :
    SeqStopsK Fence.wide n Tryz.prog 108 #[.pointer (some ⟨bs, 0, none⟩)] encI19 (Below w.heap.size) (fun ys => ys = L) (fun _ => True) N w :=
 fun l J Jx W hW _ _ hY h0 => valuesI_in n hn l bs N L A c w hN hL J Jx hY W hW hB hr h0
theorem collectI (bs : Nat) (L : List Int) (A : Option Addr) (c : Nat) (w : World) (hL : L.length ≤ 100000) (hB : Blk w bs 41 #[.slice A L.length c]) (hr : Ints w w.heap.size A L) :
    Calls Tryz.prog 106 #[.func (.func 108) #[] #[.pointer (some ⟨bs, 0, none⟩)]] w fun e W' => ∃ v, e = .returned v ∧ OwnI w.heap.size W' v L ∧ Below w.heap.size w W' := by
 have hA : Calls Tryz.prog 165 #[.slice none 0 0, .func (.func 108) #[] #[.pointer (some ⟨bs, 0, none⟩)]] w fun e W' => ∃ v, e = .returned v ∧ OwnI w.heap.size W' v L ∧ Below w.heap.size w W' := by
  refine ((callsIn_wide (n := 8)).1 (appendSeqI_in 8 (by omega) 108 #[.pointer (some ⟨bs, 0, none⟩)] (fun ys => ys = L) (fun _ => True) 100000 w (by omega) (fun _ _ => by kernel_rfl) (valuesI_seq 7 (by omega) bs 100000 L A c w hL (by omega) hB hr))).mono ?_
  rintro e W' ⟨v, xs, rfl, rfl, ho, hb⟩
  exact ⟨v, rfl, ho, hb⟩
 have HC := hide hA
 clear hB hr hA
 go_enter Tryz.func106, Tryz.ntmps106
 go_wp2_with (go_at_call 165; refine HC.out.mono ?_; rintro e w1 ⟨v, rfl, ho, hb⟩)
 go_ret
 exact ⟨v, rfl, ho, hb⟩
theorem valuesI_prog (A : Option Addr) (n c : Nat) (w : World) : Calls Tryz.prog 67 #[.slice A n c] w fun e w' => e = .returned (.func (.func 108) #[] #[.pointer (some ⟨w.heap.size, 0, none⟩)]) ∧ w' = w.alloc (.cells #[.slice A n c] 41) := by
 go_enter Tryz.func67, Tryz.ntmps67
 go_wp2
 go_ret
 exact ⟨rfl, rfl⟩
theorem sortI_merge (l : List Int) : (l.mergeSort fun x y => decide (x ≤ y)) = sortI l := by
 refine sortI_unique ?_ (List.mergeSort_perm _ _)
 have := List.pairwise_mergeSort (le := fun x y : Int => decide (x ≤ y)) (fun a b c h1 h2 => by simp only [decide_eq_true_eq] at *; omega) (fun a b => by simp only [Bool.or_eq_true, decide_eq_true_eq]; omega) l
 exact this.imp fun h => by simpa using h
theorem sortedI (bs : Nat) (L : List Int) (A : Option Addr) (c : Nat) (w : World) (hL : L.length ≤ 100000) (hB : Blk w bs 41 #[.slice A L.length c]) (hr : Ints w w.heap.size A L) :
    Calls Tryz.prog 66 #[.func (.func 108) #[] #[.pointer (some ⟨bs, 0, none⟩)]] w fun e W' => ∃ v, e = .returned v ∧ OwnI w.heap.size W' v (sortI L) ∧ Below w.heap.size w W' := by
 have HC := hide (collectI bs L A c w hL hB hr)
 clear hB hr
 have HS : Hid (∀ (v : Value) (w1 : World), OwnI w.heap.size w1 v L → w.heap.size ≤ w1.heap.size → Calls Tryz.prog 107 #[v] w1 fun e w2 => e = .returned (.tuple #[]) ∧ OwnI w.heap.size w2 v (sortI L) ∧ Below w.heap.size w1 w2) := by
  refine hide fun v w1 ho hs => ?_
  rcases ho.2 with ⟨rfl, h0⟩ | ⟨g, cap, cur, rfl, hg, hh, h1, h2, h3, h4⟩
  · have : L = [] := List.eq_nil_of_length_eq_zero h0
    subst this
    refine (Tryz.slices_Sort_int_none none 0 w1).mono ?_
    rintro e w2 ⟨rfl, rfl⟩
    exact ⟨rfl, OwnI.nil_ _ _, Below.refl _ _⟩
  · have hH : Sort.Holds (Value.int .i64) w1 g 0 L.toArray := holds_of_blockI hh (by simpa using h4)
    have := Tryz.slices_Sort_int g 0 cap L w1 hH (Blk.lt hh) (by omega)
    refine this.mono ?_
    rintro e w2 ⟨rfl, n, os, rfl⟩
    refine ⟨rfl, ?_, (Below.refl _ _).grown (grownBy_sortedI _) hs (fun k e => by cases e; exact hg)⟩
    have h5 := ownsRow_sortedI (w := w1) (n := n) (os := os) (ss := L) (ts := L.mergeSort fun x y => decide (x ≤ y)) (by simp) hg hh h1 h2 h3
    have hls : (sortI L).length = L.length := (sortI_is L).2.length_eq
    unfold OwnI
    rw [hls, ← sortI_merge]
    exact h5
 go_enter Tryz.func66, Tryz.ntmps66
 go_wp2_with (first
  | (go_at_call 106; refine HC.out.mono ?_; rintro e w1 ⟨v, rfl, ho, hb⟩
     have HS1 := hide (HS.out v w1 ho hb.size)
     have HB := hide hb
     clear ho hb)
  | (go_at_call 107; refine HS1.out.mono ?_; rintro e w2 ⟨rfl, ho2, hb2⟩; have HR := hide (And.intro ho2 hb2); clear ho2 hb2))
 go_ret
 obtain ⟨ho2, hb2⟩ := HR.out
 exact ⟨_, rfl, ho2, HB.out.trans hb2⟩
end Go.Proofs.YtcfogipaadhbeaaGreatDoor

namespace Go.Proofs.YtcfogipaadhbeaaGreatDoor
open Go Go.RowKit Go.Proofs
theorem ret_item {fn : Func} {p : Tmp} (hr : fn.results = #[.cell p 49]) (tmps : Array Value) (w : World) (g : Nat) (cs : Array Value) (hp : tmps.getD p undef = .pointer (some ⟨g, 0, none⟩)) (hb : Blk w g 49 cs) (hz : cs.size = 7) : (results fn tmps).run Tryz.prog w = .ok (.agg cs) w := by
 have hl := run_loadVar_row (P := Tryz.prog) w g 49 49 cs (0, 0) _ hb Tryz.underlying49 rfl (by rw [hz]; kernel_rfl)
 have hp2 : tmps[p]?.getD undef = .pointer (some ⟨g, 0, none⟩) := by simpa using hp
 simp only [results, hr]
 simp [hp2, asAddr, hl]
def zeroIt : Array Value := #[.string ⟨#[]⟩, .int .i64 0, .int .i64 0, .int .i64 0, .int .i64 0, .int .i64 0, .slice none 0 0]
theorem item_cells {W : World} {g : Nat} {T : TypeId} (h : Blk W g T zeroIt) : ∀ i, i < 7 → (∃ u, W.cell? ⟨g, i, none⟩ = some u) ∧ W.frozen? ⟨g, i, none⟩ = false := fun i hi => ⟨by rw [h.cell i]; exact ⟨_, Array.getElem?_eq_getElem (by simpa [zeroIt] using hi)⟩, h.frozen i⟩
theorem unit_prog (br mt : Nat) (ts : List Thing) (d : Decl) (ra na : Option Addr) (rc nc : Nat) (kd ct : Int) (x0 x1 x2 : Int) (lo : Nat) (w : World) (hb : w.cell? ⟨br, 0, none⟩ = some (.map (some mt))) (hm : AM keyStr w mt (thL ts)) (hr : Strs w w.heap.size ra d.refs) (hrl : d.refs.length ≤ 1000) (hn : Ints w w.heap.size na d.nums) (hnl : d.nums.length = lo + 3) (hnc : d.nums.length ≤ nc) (hlo : lo ≤ 1000)
    (h0 : d.nums[lo]? = some x0) (h1 : d.nums[lo + 1]? = some x1) (h2 : d.nums[lo + 2]? = some x2) :
    Calls Tryz.prog 57 #[.pointer (some ⟨br, 0, none⟩), .agg #[.int .i64 d.kind, .string d.name, .slice ra d.refs.length rc, .slice na d.nums.length nc, .int .i64 d.by_, .bool d.always], .int .i64 kd, .int .i64 ct] w fun e w' =>
     ∃ A c, e = .returned (.agg #[.string d.name, .int .i64 kd, .int .i64 ct, .int .i64 x0, .int .i64 x1, .int .i64 x2, .slice A d.refs.length c]) ∧ OwnI w.heap.size w' (.slice A d.refs.length c) (sortI (d.refs.map (thNum ts))) ∧ Below w.heap.size w w' := by
 obtain ⟨wa, hwa⟩ : ∃ wa, wa = (w.alloc (.cells #[.int .i64 d.kind, .string d.name, .slice ra d.refs.length rc, .slice na d.nums.length nc, .int .i64 d.by_, .bool d.always] 43)).alloc (.cells zeroIt 49) := ⟨_, rfl⟩
 have hba : Below w.heap.size w wa := by rw [hwa]; exact ((Below.refl _ _).alloc (Nat.le_refl _) _).alloc (by simp) _
 have HXA := hide (show Blk wa w.heap.size 43 #[.int .i64 d.kind, .string d.name, .slice ra d.refs.length rc, .slice na d.nums.length nc, .int .i64 d.by_, .bool d.always] from by rw [hwa]; exact (Blk.new w _ _).alloc _)
 have HZA := hide (show Blk wa (w.heap.size + 1) 49 zeroIt from by rw [hwa]; have := Blk.new (w.alloc (.cells #[.int .i64 d.kind, .string d.name, .slice ra d.refs.length rc, .slice na d.nums.length nc, .int .i64 d.by_, .bool d.always] 43)) 49 zeroIt; rwa [World.size_alloc] at this)
 obtain ⟨b, off, hA, hnb, _⟩ := int_at (hn.below hba) (k := lo) (by omega)
 have n0 : wa.cell? ⟨b, off + lo, none⟩ = some (.int .i64 x0) := by
  obtain ⟨b', off', hA', _, y⟩ := int_at (hn.below hba) (k := lo) (by omega)
  rw [hA] at hA'; cases hA'
  rw [List.getElem?_eq_getElem (by omega)] at h0
  rw [y, Option.some.inj h0]
 have n1 : wa.cell? ⟨b, off + lo + 1, none⟩ = some (.int .i64 x1) := by
  obtain ⟨b', off', hA', _, y⟩ := int_at (hn.below hba) (k := lo + 1) (by omega)
  rw [hA] at hA'; cases hA'
  rw [List.getElem?_eq_getElem (by omega)] at h1
  rw [Nat.add_assoc, y, Option.some.inj h1]
 have n2 : wa.cell? ⟨b, off + lo + 2, none⟩ = some (.int .i64 x2) := by
  obtain ⟨b', off', hA', _, y⟩ := int_at (hn.below hba) (k := lo + 2) (by omega)
  rw [hA] at hA'; cases hA'
  rw [List.getElem?_eq_getElem (by omega)] at h2
  rw [Nat.add_assoc, y, Option.some.inj h2]
 have HBA := hide hba
 have HNB := hide hnb
 have bl : br < w.heap.size := by
  rcases Nat.lt_or_ge br w.heap.size with h | h
  · exact h
  · simp [World.cell?, Array.getElem?_eq_none h] at hb
 have HNU := hide (rnumbers_prog br mt ts ra rc d.refs wa.drew ((hba.cell (p := ⟨br, 0, none⟩) bl).trans hb) (Nat.lt_of_lt_of_le bl hba.size) (hm.keep (hba.block mt hm.lt)) ((hr.below hba).more hba.size) hrl)
 have HWA := hide hwa
 obtain ⟨ls, hls⟩ : ∃ ls, ls = d.refs.map (thNum ts) := ⟨_, rfl⟩
 have HLS := hide (show ls.length = d.refs.length by rw [hls]; simp)
 rw [← hls] at HNU
 rw [← hls]
 have HRL := hide hrl
 have HBL := hide bl
 obtain ⟨nn, hnn⟩ : ∃ nn, nn = d.nums.length := ⟨_, rfl⟩
 have HNN := hide hnn
 rw [← hnn] at hnl hnc
 rw [← hnn] at HXA
 rw [← hnn]
 have hw3 : IntKind.i64.wrap ((nn : Int) - 3) = (lo : Int) := by rw [IntWalk.i64_in _ (by omega)]; omega
 have hloI : (lo : Int) ≤ (nn : Int) := by omega
 have hloc : lo ≤ nc := by omega
 have hne : ¬ nc = lo := by omega
 have hn3 : nn - lo = 3 := by omega
 have hnI : (nn : Int) ≤ (nc : Int) := by omega
 have HNL := hide hnl
 subst hA
 clear hls hrl bl hwa hba hb hm hr hn h0 h1 h2 hnb hnn hnl hlo
 go_enter Tryz.func57, Tryz.ntmps57
 go_upto_region 1 with (fail)
 have hwe : (w.alloc (.cells #[.int .i64 d.kind, .string d.name, .slice ra d.refs.length rc, .slice (some ⟨b, off, none⟩) nn nc, .int .i64 d.by_, .bool d.always] 43)).alloc (.cells #[.string ⟨#[]⟩, .int .i64 0, .int .i64 0, .int .i64 0, .int .i64 0, .int .i64 0, .slice none 0 0] 49) = wa := by rw [HWA.out, HNN.out]; rfl
 rw [hwe]
 clear hwe
 have z1 := HXA.out.cell 1
 have z2 := HXA.out.cell 2
 have z3 := HXA.out.cell 3
 have zl := HXA.out.lt
 simp at z1 z2 z3
 go_wp2_with fail
 have HZL := hide (show w.heap.size + 1 < wa.heap.size from HZA.out.lt)
 have HSK := hide (fun (W : World) (h : But (w.heap.size + 1) wa.heap.size wa W) => (⟨(h.cell (p := ⟨w.heap.size, 1, none⟩) (by have := HZL.out; simp; omega) (by simp)).trans z1, (h.cell (p := ⟨w.heap.size, 2, none⟩) (by have := HZL.out; simp; omega) (by simp)).trans z2,
  (h.cell (p := ⟨b, off + lo, none⟩) (by have := HZL.out; have := HNB.out; simp; omega) (by have := HNB.out; simp; omega)).trans n0, (h.cell (p := ⟨b, off + lo + 1, none⟩) (by have := HZL.out; have := HNB.out; simp; omega) (by have := HNB.out; simp; omega)).trans n1, (h.cell (p := ⟨b, off + lo + 2, none⟩) (by have := HZL.out; have := HNB.out; simp; omega) (by have := HNB.out; simp; omega)).trans n2⟩ :
  W.cell? ⟨w.heap.size, 1, none⟩ = some (.string d.name) ∧ W.cell? ⟨w.heap.size, 2, none⟩ = some (.slice ra d.refs.length rc) ∧ W.cell? ⟨b, off + lo, none⟩ = some (.int .i64 x0) ∧ W.cell? ⟨b, off + lo + 1, none⟩ = some (.int .i64 x1) ∧ W.cell? ⟨b, off + lo + 2, none⟩ = some (.int .i64 x2)))
 have HB0 := hide ((Below.refl wa.heap.size wa).drew)
 clear z1 z2 z3 zl n0 n1 n2
 go_region_held3 (fun W => W.cell? ⟨w.heap.size, 1, none⟩ = some (.string d.name) ∧ W.cell? ⟨w.heap.size, 2, none⟩ = some (.slice ra d.refs.length rc) ∧ W.cell? ⟨b, off + lo, none⟩ = some (.int .i64 x0) ∧ W.cell? ⟨b, off + lo + 1, none⟩ = some (.int .i64 x1) ∧ W.cell? ⟨b, off + lo + 2, none⟩ = some (.int .i64 x2))
  (with_reducible (first
    | exact HSK.out _ (But.ofBelow HB0.out)
    | exact HSK.out _ (But.ofBelow HB1.out)
    | exact HSK.out _ (But.ofBelow HB2.out)
    | exact HSK.out _ (But.ofBelow HB3.out)
    | exact HSK.out _ ((But.ofBelow HB3.out).trans ((But.set_ _ _ _).trans ((But.set_ _ _ _).trans ((But.set_ _ _ _).trans ((But.set_ _ _ _).trans ((But.set_ _ _ _).trans ((But.set_ _ _ _).trans (But.set_ _ _ _))))))))))
  ((first
    | (go_at_call 26; refine HNU.out.mono ?_; rintro e w1 ⟨v, rfl, ho1, hb1⟩
       obtain ⟨A1, c1, rfl, hc1, hi1⟩ := ho1.form
       have HB1 := hide (HB0.out.trans hb1)
       have HI1 := hide (hi1.grow ((Below.refl _ _).alloc (Nat.le_refl _) (.cells #[.slice A1 ls.length c1] 41)))
       clear ho1 hb1 hc1 hi1)
    | (go_at_call 67; refine (valuesI_prog A1 ls.length c1 w1).mono ?_; rintro e w2 ⟨rfl, rfl⟩
       have HB2 := hide (HB1.out.alloc HB1.out.size (.cells #[.slice A1 ls.length c1] 41))
       have HSO := hide (sortedI w1.heap.size ls A1 c1 _ (by have := HLS.out; have := HRL.out; omega) (Blk.new w1 41 #[.slice A1 ls.length c1]) HI1.out))
    | (go_at_call 66; refine HSO.out.mono ?_; rintro e w3 ⟨v, rfl, ho3, hb3⟩
       obtain ⟨A3, c3, e3, _, _⟩ := ho3.form
       rw [show (sortI ls).length = d.refs.length from (sortI_is ls).2.length_eq.trans HLS.out] at e3
       subst e3
       have HB3 := hide (HB2.out.trans (hb3.mono HB2.out.size))
       have HO3 := hide ho3
       have HZ3 := hide (HZA.out.below HB3.out HZA.out.lt)
       obtain ⟨⟨q0, t0⟩, f0⟩ := item_cells HZ3.out 0 (by decide)
       obtain ⟨⟨q1, t1⟩, f1⟩ := item_cells HZ3.out 1 (by decide)
       obtain ⟨⟨q2, t2⟩, f2⟩ := item_cells HZ3.out 2 (by decide)
       obtain ⟨⟨q3, t3⟩, f3⟩ := item_cells HZ3.out 3 (by decide)
       obtain ⟨⟨q4, t4⟩, f4⟩ := item_cells HZ3.out 4 (by decide)
       obtain ⟨⟨q5, t5⟩, f5⟩ := item_cells HZ3.out 5 (by decide)
       obtain ⟨⟨q6, t6⟩, f6⟩ := item_cells HZ3.out 6 (by decide)
       have tl := HZ3.out.lt
       clear ho3 hb3)))
 all_goals
  go_wp2_with fail
  refine bodyPost_ret (ret_item rfl _ _ (w.heap.size + 1) #[.string d.name, .int .i64 kd, .int .i64 ct, .int .i64 x0, .int .i64 x1, .int .i64 x2, .slice A3 d.refs.length c3] rfl (((((((HZ3.out.set_ 0 _).set_ 1 _).set_ 2 _).set_ 3 _).set_ 4 _).set_ 5 _).set_ 6 _) rfl) rfl ?_
  have hbut : But (w.heap.size + 1) w3.heap.size w3 _ := (But.set_ w3 0 (.string d.name)).trans ((But.set_ _ 1 (.int .i64 kd)).trans ((But.set_ _ 2 (.int .i64 ct)).trans ((But.set_ _ 3 (.int .i64 x0)).trans ((But.set_ _ 4 (.int .i64 x1)).trans ((But.set_ _ 5 (.int .i64 x2)).trans (But.set_ _ 6 (.slice A3 d.refs.length c3)))))))
  have hz := HZA.out.lt
  have hs1 := HB1.out.size
  exact ⟨A3, c3, rfl, own_lowerD (OwnI.but HO3.out hbut (by simp; omega)) (by have := HBA.out.size; simp; omega), (HBA.out.trans (HB3.out.mono HBA.out.size)).trans (hbut.below (by have := HB3.out.size; omega) |>.mono (by omega))⟩
end Go.Proofs.YtcfogipaadhbeaaGreatDoor
