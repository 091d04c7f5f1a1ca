/- A part of the claim: see its last text. -/
import Derived.Test.YtcfogipaadhbeaaGreatDoorUK09
import Derived.Deep.RegionLaw
import Derived.Test.YtcfogipaadhbeaaGreatDoorUK08
import Derived.Test.YtcfogipaadhbeaaGreatDoorUK03
import Derived.Deep.CutRange
import Derived.Deep.Slices
import Derived.Deep.CutBlock
import Derived.Test.YtcfogipaadhbeaaGreatDoorUK06

set_option maxRecDepth 100000
set_option maxHeartbeats 16000000
namespace Go.Proofs.YtcfogipaadhbeaaGreatDoor
open Go Go.RowKit Go.Proofs
theorem NW.drew {w wr : World} {h : MH} {m : Mod} {v : Value} {l : List ByteArray} (d : NW w wr h m v l) : NW w wr.drew h m v l := ⟨d.mw.drew, d.own.drew⟩
theorem NW.new (h : MH) (m : Mod) (w : World) : NW w ((w.alloc (.cells #[.slice h.s m.sT.length h.sc, .slice h.f m.fT.length h.fc, .slice h.r m.rT.length h.rc, .slice h.m m.mT.length h.mc, .slice h.l m.lT.length h.lc, .slice h.i m.iT.length h.ic, .int .i64 m.dT, .int .i64 m.oT, .int .i64 m.vT, .int .i64 m.aT, .slice h.u m.uT.length h.uc] 32)).alloc (.cells #[] 9)) h m (.slice (some ⟨w.heap.size + 1, 0, none⟩) 0 0) [] := by
 have h1 := OwnS.new (B := w.heap.size + 1) (w.alloc (.cells #[.slice h.s m.sT.length h.sc, .slice h.f m.fT.length h.fc, .slice h.r m.rT.length h.rc, .slice h.m m.mT.length h.mc, .slice h.l m.lT.length h.lc, .slice h.i m.iT.length h.ic, .int .i64 m.dT, .int .i64 m.oT, .int .i64 m.vT, .int .i64 m.aT, .slice h.u m.uT.length h.uc] 32)) [] (by simp) (by decide)
 rw [World.size_alloc] at h1
 exact ⟨(MW.start w h m).grow ((Below.refl _ _).alloc (Nat.le_refl _) _), h1⟩
end Go.Proofs.YtcfogipaadhbeaaGreatDoor

namespace Go.Proofs.YtcfogipaadhbeaaGreatDoor
open Go Go.RowKit Go.Proofs
end Go.Proofs.YtcfogipaadhbeaaGreatDoor

namespace Go.Proofs.YtcfogipaadhbeaaGreatDoor
open Go Go.RowKit Go.Proofs
abbrev Thing := ByteArray × Int × Int
def thgs (l : List Decl) : Nat → List Thing
 | 0 => []
 | n + 1 => thgs l n ++ match l[n]? with | some d => if d.name = ⟨#[]⟩ then [] else [(d.name, d.kind, (cntS (l.take (n + 1)) (sectI d.kind) : Int))] | none => []
def thgB (nm : ByteArray) (x : Thing) : Bool := decide (x.1 = nm)
theorem findD_append {A B : List Decl} {nm : ByteArray} {x : Int × Int} (h : findD A nm = some x) : findD (A ++ B) nm = some x := by
 unfold findD at h ⊢
 cases hi : A.findIdx? (nmB nm) with
 | none => rw [hi] at h; cases h
 | some i =>
   obtain ⟨hl, _, _⟩ := List.findIdx?_eq_some_iff_getElem.1 hi
   rw [hi] at h
   have h2 : (A ++ B).findIdx? (nmB nm) = some i := by rw [List.findIdx?_append, hi]; rfl
   rw [h2]
   simp only at h ⊢
   rw [List.getElem?_append_left hl, List.take_append_of_le_length (by omega)]
   exact h
theorem findD_last {A : List Decl} {d : Decl} {nm : ByteArray} (h : findD A nm = none) : findD (A ++ [d]) nm = if d.name = nm then some (d.kind, (cntS (A ++ [d]) (sectI d.kind) : Int)) else none := by
 have hi : A.findIdx? (nmB nm) = none := by
  unfold findD at h
  cases hi : A.findIdx? (nmB nm) with
  | none => rfl
  | some i =>
    obtain ⟨hl, _, _⟩ := List.findIdx?_eq_some_iff_getElem.1 hi
    rw [hi] at h
    simp [List.getElem?_eq_getElem hl] at h
 unfold findD
 by_cases e : d.name = nm
 · have h2 : (A ++ [d]).findIdx? (nmB nm) = some A.length := by
     rw [List.findIdx?_append, hi]
     simp [nmB, e]
   rw [h2, if_pos e]
   simp only
   rw [List.getElem?_append_right (Nat.le_refl _), Nat.sub_self, List.take_of_length_le (by simp)]
   rfl
 · have h2 : (A ++ [d]).findIdx? (nmB nm) = none := by
     rw [List.findIdx?_append, hi]
     simp [nmB, e]
   rw [h2, if_neg e]
theorem thgs_find (l : List Decl) {nm : ByteArray} (hn : nm ≠ ⟨#[]⟩) : ∀ n, n ≤ l.length → (thgs l n).find? (thgB nm) = (findD (l.take n) nm).map fun x => (nm, x)
 | 0, _ => by simp [thgs, findD]
 | n + 1, h => by
   have hl : n < l.length := by omega
   have ih := thgs_find l hn n (by omega)
   rw [thgs, List.getElem?_eq_getElem hl, List.find?_append, ih, List.take_succ_eq_append_getElem hl]
   cases hf : findD (l.take n) nm with
   | some x => rw [findD_append hf]; rfl
   | none =>
     rw [findD_last hf]
     simp only [Option.map_none, Option.none_or]
     by_cases e : l[n].name = nm
     · rw [if_pos e, if_neg (by rw [e]; exact hn)]
       simp [thgB, e]
     · rw [if_neg e]
       by_cases e2 : l[n].name = ⟨#[]⟩
       · rw [if_pos e2]; rfl
       · rw [if_neg e2]; simp [thgB, e]
/-! sorted numbers -/
theorem insI_perm (n : Int) : ∀ l : List Int, (insI n l).Perm (n :: l)
 | [] => List.Perm.refl _
 | y :: l => by
   unfold insI
   split
   · exact ((insI_perm n l).cons y).trans (List.Perm.swap n y l)
   · exact List.Perm.refl _
theorem insI_sorted (n : Int) : ∀ l : List Int, l.Pairwise (· ≤ ·) → (insI n l).Pairwise (· ≤ ·)
 | [], _ => by simp [insI]
 | y :: l, h => by
   rw [List.pairwise_cons] at h
   unfold insI
   split
   · rename_i hy
     rw [List.pairwise_cons]
     refine ⟨fun z hz => ?_, insI_sorted n l h.2⟩
     rcases List.mem_cons.1 ((insI_perm n l).mem_iff.1 hz) with rfl | hz
     · omega
     · exact h.1 z hz
   · rename_i hy
     rw [List.pairwise_cons, List.pairwise_cons]
     refine ⟨fun z hz => ?_, h⟩
     rcases List.mem_cons.1 hz with rfl | hz
     · omega
     · have := h.1 z hz; omega
theorem sort_fold : ∀ (l o : List Int), o.Pairwise (· ≤ ·) → (l.foldl (fun o n => insI n o) o).Pairwise (· ≤ ·) ∧ (l.foldl (fun o n => insI n o) o).Perm (o ++ l)
 | [], o, h => by simpa using h
 | n :: l, o, h => by
   obtain ⟨h1, h2⟩ := sort_fold l (insI n o) (insI_sorted n o h)
   refine ⟨h1, h2.trans ?_⟩
   refine ((insI_perm n o).append_right l).trans ?_
   exact List.perm_middle.symm
theorem sortI_is (l : List Int) : (sortI l).Pairwise (· ≤ ·) ∧ (sortI l).Perm l := by
 have := sort_fold l [] (by simp)
 simpa [sortI] using this
theorem sorted_unique : ∀ {a b : List Int}, a.Pairwise (· ≤ ·) → b.Pairwise (· ≤ ·) → a.Perm b → a = b
 | [], b, _, _, h => (List.Perm.nil_eq h)
 | x :: a, [], _, _, h => by have := h.length_eq; simp at this
 | x :: a, y :: b, ha, hb, h => by
   rw [List.pairwise_cons] at ha hb
   have e : x = y := by
    have h1 : y ∈ x :: a := h.mem_iff.2 (List.mem_cons_self ..)
    have h2 : x ∈ y :: b := h.mem_iff.1 (List.mem_cons_self ..)
    rcases List.mem_cons.1 h1 with h1 | h1
    · exact h1.symm
    · rcases List.mem_cons.1 h2 with h2 | h2
      · exact h2
      · have := ha.1 y h1; have := hb.1 x h2; omega
   subst e
   rw [sorted_unique ha.2 hb.2 ((List.perm_cons x).1 h)]
theorem sortI_unique {l a : List Int} (h1 : a.Pairwise (· ≤ ·)) (h2 : a.Perm l) : a = sortI l :=
 sorted_unique h1 (sortI_is l).1 (h2.trans (sortI_is l).2.symm)
theorem rItem_prog (k : Int) (w : World) : Calls Tryz.prog 102 #[.int .i64 k] w fun e w' => e = .returned (.bool (decide (sectI k = 5))) ∧ w = w' := by
 have HC := hide (section_prog k w)
 obtain ⟨s, hs⟩ : ∃ s, s = sectI k := ⟨_, rfl⟩
 rw [← hs] at HC ⊢
 clear hs
 go_enter Tryz.func102, Tryz.ntmps102
 go_wp2_with (go_at_call 50; refine HC.out.mono ?_; rintro e w1 ⟨rfl, rfl⟩)
 go_ret
 exact ⟨ret_congr (by by_cases h : s = 5 <;> simp [h]), rfl⟩
theorem rExactly1_prog (k a : Int) (b : Nat) (w : World) (h : w.cell? ⟨b, 0, none⟩ = some (.int .i64 a)) : Calls Tryz.prog 161 #[.int .i64 k, .pointer (some ⟨b, 0, none⟩)] w fun e w' => e = .returned (.bool (decide (k = a))) ∧ w = w' := by
 go_enter Tryz.func161, Tryz.ntmps161
 go_wp2
 go_ret
 exact ⟨ret_congr (by by_cases h : k = a <;> simp [h]), rfl⟩
def thV (x : Int × Int) : Value := .agg #[.int .i64 x.1, .int .i64 x.2]
def thL (ts : List Thing) : List (ByteArray × Value) := ts.map fun x => (x.1, thV x.2)
def thGet (ts : List Thing) (nm : ByteArray) : Option (Int × Int) := (ts.find? (thgB nm)).map (·.2)
theorem thL_get (ts : List Thing) (nm : ByteArray) : getA (thL ts) nm = (thGet ts nm).map thV := by
 unfold getA thGet thL
 induction ts with
 | nil => rfl
 | cons x ts ih =>
   simp only [List.map_cons, List.find?_cons, thgB]
   by_cases h : x.1 = nm
   · simp [h]
   · simp only [decide_eq_false h]
     exact ih
def thNum (ts : List Thing) (nm : ByteArray) : Int := match thGet ts nm with | some x => x.2 | none => 0
theorem thing_zero (w : World) : (zeroValue 89).run Tryz.prog w = .ok (thV (0, 0)) w := by kernel_rfl
theorem look_thing {w : World} {r : Nat} {ts : List Thing} (h : AM keyStr w r (thL ts)) (nm : ByteArray) : ∃ a : Int, (Instr.lookup 51 (.map (some r)) (.string nm) false).run Tryz.prog w = .ok (.agg #[.int .i64 a, .int .i64 (thNum ts nm)]) w := by
 have := h.look1 (P := Tryz.prog) (t := 51) (KT := 9) (E := 89) Tryz.underlying51 Tryz.underlying9 (thing_zero w) nm
 rw [thL_get] at this
 unfold thNum
 cases hg : thGet ts nm with
 | none => rw [hg] at this; exact ⟨0, this⟩
 | some x => rw [hg] at this; exact ⟨x.1, this⟩
theorem field_thing (a n : Int) (W : World) : (Instr.field 89 (.agg #[.int .i64 a, .int .i64 n]) 1).run Tryz.prog W = .ok (.int .i64 n) W := by kernel_rfl
theorem rnumbers_prog (br r : Nat) (ts : List Thing) (A : Option Addr) (c : Nat) (l : List ByteArray) (w : World) (hb : w.cell? ⟨br, 0, none⟩ = some (.map (some r))) (hbl : br < w.heap.size) (hm : AM keyStr w r (thL ts)) (hs : Strs w w.heap.size A l) (hl : l.length ≤ 1000) :
    Calls Tryz.prog 26 #[.pointer (some ⟨br, 0, none⟩), .slice A l.length c] w fun e w' => ∃ v, e = .returned v ∧ OwnI w.heap.size w' v (l.map (thNum ts)) ∧ Below w.heap.size w w' := by
 have HS := hide hs
 have HM := hide hm
 have HC := hide (And.intro hb hbl)
 have HO0 := hide (OwnI.nil_ w.heap.size w)
 clear hb hbl hm hs
 go_enter Tryz.func26, Tryz.ntmps26
 go_wp2_with fail
 go_loopw [5, 10] (fun v i wr => ∃ k : Nat, k ≤ l.length ∧ i = .int .i64 k ∧ Hid (OwnI w.heap.size wr v ((l.take k).map (thNum ts))) ∧ Hid (Below w.heap.size w wr)) (fun _ i _ => l.length - (intOf i).toNat)
 case atStart => exact ⟨0, Nat.zero_le _, rfl, HO0, hide (Below.refl _ _)⟩
 case round =>
  obtain ⟨k, hk, rfl, hO, hb⟩ := hrel
  clear HO0
  by_cases hlt : k < l.length
  · obtain ⟨b, off, hA, hadb, hcell⟩ := (HS.out.below hb.out).form (by intro e; rw [e] at hlt; simp at hlt)
    have x0 := hcell k hlt
    rw [show l.getD k ByteArray.empty = l[k] by simp [List.getD_eq_getElem?_getD, hlt]] at x0
    have HE := hide (show (l.take k).map (thNum ts) ++ [thNum ts l[k]] = (l.take (k + 1)).map (thNum ts) by rw [List.take_succ_eq_append_getElem hlt, List.map_append]; rfl)
    have p0 := (hb.out.cell (p := ⟨br, 0, none⟩) HC.out.2).trans HC.out.1
    have pl := Nat.lt_of_lt_of_le HC.out.2 hb.out.size
    obtain ⟨a, hlook⟩ := look_thing (HM.out.keep (hb.out.block r HM.out.lt)) l[k]
    obtain ⟨nm, hnm⟩ : ∃ nm, nm = l[k] := ⟨_, rfl⟩
    rw [← hnm] at x0 HE hlook
    obtain ⟨n, hn⟩ : ∃ n, n = thNum ts nm := ⟨_, rfl⟩
    rw [← hn] at HE hlook
    obtain ⟨ll, hll⟩ : ∃ ll, ll = (l.take k).map (thNum ts) := ⟨_, rfl⟩
    have HLL := hide (show ll.length ≤ 1000 by rw [hll]; simp; omega)
    rw [← hll] at hO HE
    have hltI : (k : Int) < (l.length : Int) := by omega
    subst hA
    clear hcell hnm hn hll
    have hfl : ∀ W, (Instr.field 89 (.agg #[.int .i64 a, .int .i64 n]) 1).run Tryz.prog W = .ok (.int .i64 n) W := fun W => field_thing a n W
    go_wp2_with (at_builtin; refine append_ints rfl _ _ rfl w.heap.size u5 ll rfl (hO.out.alloc _) _ _ 1 [n] rfl (Ints.newRow2 wr 3 [n] rfl) (by have := HLL.out; simp; omega) (by have := hb.out.size; simp; omega) ?_
                 intro v3 w3 ho3 hg3 _
                 have HO3 := hide ho3
                 have HB3 := hide (Below.ofGrown (hb.out.alloc hb.out.size (.cells #[.int .i64 n] 3)) hg3 (by have := hb.out.size; simp; omega) (fun g e => (hO.out.lt g e).1))
                 clear ho3 hg3)
    go_roundw
    case rel => exact ⟨k + 1, by omega, by go_num, hide (by rw [← HE.out]; exact HO3.out), HB3⟩
    case measure => simp [intOf]; omega
  · obtain rfl : k = l.length := by omega
    have hO2 := hO.out
    rw [List.take_length] at hO2
    have HO2 := hide hO2
    clear hO2
    go_wp2_with fail
    go_ret
    exact ⟨_, rfl, HO2.out, hb.out⟩
end Go.Proofs.YtcfogipaadhbeaaGreatDoor
