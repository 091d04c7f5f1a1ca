/- The walks of syntax.number, list, load. Conditions: lengths that fit memory; the tables are laid. -/
import Derived.Test.YtanhkeeifnimgaaDoorOwn
import Derived.Test.YtanhkeeifnimgaaDoorSyn17c
import Derived.Deep.RegionHeld3
import Derived.Deep.DeepCutAuto
import Derived.BigQuiet
import Derived.Lib.AppendIntMem
import Derived.IntWalk
namespace Go.Proofs.YtanhkeeifnimgaaDoor
open Go Go.RowKit Go.Proofs

/-- the table that strconv reads -/
def Pow (w : World) : Prop := Lib.TabIs Tryd.prog w "internal/strconv.uint64pow10" .u64 Lib.pow10Tab
theorem Pow.below {w w' : World} {B : Nat} (h : Pow w) (hB : w.heap.size ≤ B) (hb : Below B w w') : Pow w' :=
  have hg : Tryd.prog.globalNamed "internal/strconv.uint64pow10" = some 3 := by kernel_rfl
  tabIs_below hg h (Nat.lt_of_lt_of_le (tabIs_lt hg h) hB) hb

def itoaS (n : Int) : ByteArray := S (Lib.itoa n)
theorem itoa_any (n : Int) (w : World) (hp : Pow w) (hn : numOk n = true) :
    Calls Tryd.prog 117 #[.int .i64 n] w fun e w' => e = .returned (.string (itoaS n)) ∧ Below w.heap.size w w' := by
  simp only [numOk, Bool.and_eq_true, decide_eq_true_eq] at hn
  exact (Tryd.strconv_Itoa n (by omega) (by omega) w hp).mono fun e w' ⟨he, k, os, hw⟩ => ⟨he, hw ▸ Lib.below_grow _ w (Nat.le_refl _) k os⟩

set_option maxHeartbeats 400000 in
theorem number_any (k : Int) (nm : ByteArray) (ra : Option Addr) (rn rc : Nat) (na : Option Addr) (nums : List Int) (nc : Nat) (bY : Int) (al : Bool) (i : Int) (w : World) (hp : Pow w)
    (hi : 0 ≤ i) (hl : i.toNat < nums.length) (hall : nums.all numOk = true) (hn : Ints w w.heap.size na nums) :
    Calls Tryd.prog 71 #[.agg #[.int .i64 k, .string nm, .slice ra rn rc, .slice na nums.length nc, .int .i64 bY, .bool al], .int .i64 i] w
      fun e w' => e = .returned (.string (itoaS (nums.getD i.toNat 0))) ∧ Below w.heap.size w w' := by
  obtain ⟨j, rfl⟩ : ∃ j : Nat, i = j := ⟨i.toNat, by omega⟩
  simp only [Int.toNat_natCast] at hl ⊢
  have hlt : j < nums.length := hl
  have hok : numOk nums[j] = true := List.all_eq_true.1 hall _ (List.getElem_mem _)
  have he : nums.getD j 0 = nums[j] := by simp [hlt]
  rw [he]
  clear he hall
  have hrow := hn.alloc (Nat.le_refl _) (.cells #[.int .i64 k, .string nm, .slice ra rn rc, .slice na nums.length nc, .int .i64 bY, .bool al] 38)
  have hpw : Pow (w.alloc (.cells #[.int .i64 k, .string nm, .slice ra rn rc, .slice na nums.length nc, .int .i64 bY, .bool al] 38)) := hp.below (Nat.le_refl _) ((Below.refl _ _).alloc (Nat.le_refl _) _)
  obtain ⟨ad, rfl, hab, hc⟩ := Ints.at_ hrow hlt
  clear hrow
  go_enter Tryd.func71, Tryd.ntmps71
  go_wp2_with (go_at_call 117; refine (itoa_any nums[j] _ hpw hok).mono ?_; rintro e w1 ⟨rfl, hb⟩)
  go_ret
  exact ⟨rfl, ((Below.refl _ _).alloc (Nat.le_refl _) _).trans (hb.mono (by simp))⟩

/-- a list of strings joined -/
def joinS (l : List ByteArray) (sep : ByteArray) : ByteArray := S (Lib.join (l.map (·.data.toList)) sep.data.toList)
theorem join_any (A : Option Addr) (c : Nat) (l : List ByteArray) (sep : ByteArray) (w : World) (h : Strs w w.heap.size A l) (hlc : l.length ≤ c) (hl : l.length ≤ 140737488355328) (hlen : (Lib.join (l.map (·.data.toList)) sep.data.toList).length ≤ 140737488355328) :
    Calls Tryd.prog 42 #[.slice A l.length c, .string sep] w fun e w' => e = .returned (.string (joinS l sep)) ∧ Below w.heap.size w w' := by
  by_cases hn : l = []
  · subst hn
    exact (Tryd.strings_Join_none A c sep w).mono fun e w' ⟨he, hw⟩ => ⟨he, hw ▸ Below.refl _ _⟩
  · obtain ⟨b, off, rfl, hb, hc⟩ := h.form hn
    exact Tryd.strings_Join b off c l sep w (fun j x hx => by
      have hj : j < l.length := (List.getElem?_eq_some_iff.1 hx).1
      have e : l[j] = x := (List.getElem?_eq_some_iff.1 hx).2
      rw [hc j hj]; simp [hj, e]) hb hl hlc hlen

set_option maxHeartbeats 400000 in
theorem list_any (A : Option Addr) (c : Nat) (l : List ByteArray) (w : World) (h : Strs w w.heap.size A l) (hlc : l.length ≤ c) (hl : l.length ≤ 140737488355328) (hlen : (Lib.join (l.map (·.data.toList)) [44, 32]).length ≤ 140737488355328) :
    Calls Tryd.prog 75 #[.slice A l.length c] w fun e w' => e = .returned (.string (joinS l (⟨#[44, 32]⟩ : ByteArray))) ∧ Below w.heap.size w w' := by
  go_enter Tryd.func75, Tryd.ntmps75
  go_wp2_with (go_at_call 42; refine (join_any A c l (⟨#[44, 32]⟩ : ByteArray) w h hlc hl hlen).mono ?_; rintro e w1 ⟨rfl, hb⟩)
  go_ret
  exact ⟨rfl, hb⟩

theorem numAt {nums : List Int} (hall : nums.all numOk = true) {j : Nat} (h : j < nums.length) : numOk (nums.getD j 0) = true := by
  have he : nums.getD j 0 = nums[j] := by simp [h]
  rw [he]; exact List.all_eq_true.1 hall _ (List.getElem_mem _)
def loadW (nums : List Int) (j : Nat) : List ByteArray := [(⟨#[108, 111, 97, 100]⟩ : ByteArray), itoaS (nums.getD j 0), (⟨#[115, 105, 122, 101]⟩ : ByteArray), itoaS (nums.getD (j + 1) 0), (⟨#[115, 104, 97, 114, 101]⟩ : ByteArray), itoaS (nums.getD (j + 2) 0)]
set_option maxHeartbeats 2000000 in
theorem load_any (k : Int) (nm : ByteArray) (ra : Option Addr) (rn rc : Nat) (na : Option Addr) (nums : List Int) (nc : Nat) (bY : Int) (al : Bool) (i : Nat) (w : World) (hp : Pow w)
    (hi : i + 2 < nums.length) (hl2 : nums.length ≤ 9223372036854775807) (hall : nums.all numOk = true) (hn : Ints w w.heap.size na nums) :
    Calls Tryd.prog 76 #[.agg #[.int .i64 k, .string nm, .slice ra rn rc, .slice na nums.length nc, .int .i64 bY, .bool al], .int .i64 i] w
      fun e w' => ∃ v, e = .returned v ∧ OwnS w.heap.size w' v (loadW nums i) ∧ Below w.heap.size w w' := by
  have e1 : IntKind.i64.wrap ((i : Int) + 1) = (i : Int) + 1 := IntWalk.i64_in _ (by omega)
  have e2 : IntKind.i64.wrap ((i : Int) + 2) = (i : Int) + 2 := IntWalk.i64_in _ (by omega)
  go_enter Tryd.func76, Tryd.ntmps76
  go_wp2_with fail
  go_region_held3 (fun W => W.cell? ⟨w.heap.size, 0, none⟩ = some (.int .i64 k) ∧ W.cell? ⟨w.heap.size, 1, none⟩ = some (.string nm) ∧ W.cell? ⟨w.heap.size, 2, none⟩ = some (.slice ra rn rc) ∧ W.cell? ⟨w.heap.size, 3, none⟩ = some (.slice na nums.length nc) ∧ W.cell? ⟨w.heap.size, 4, none⟩ = some (.int .i64 bY) ∧ W.cell? ⟨w.heap.size, 5, none⟩ = some (.bool al) ∧ w.heap.size < W.heap.size ∧ Below w.heap.size w W)
    (refine ⟨?_, ?_, ?_, ?_, ?_, ?_, ?_, ?_⟩ <;> (first | assumption | exact cell?_new _ _ _ _ | exact (World.cell?_alloc_lt _ _ _ cz).trans (by assumption) | (simp; done) | (simp; omega) | exact ((Below.refl _ _).alloc (Nat.le_refl _) _).drew | exact hS1.alloc hS1.size _))
    ((go_at_call 71; have hH := (by assumption : _ ∧ _ ∧ _ ∧ _ ∧ _ ∧ _ ∧ w.heap.size < _ ∧ Below w.heap.size w _); refine (number_any k nm ra rn rc na nums nc bY al _ _ (Pow.below hp (Nat.le_refl _) hH.2.2.2.2.2.2.2) (by omega) (by omega) hall ((hn.below hH.2.2.2.2.2.2.2).more hH.2.2.2.2.2.2.2.size)).mono ?_; rintro e w1 ⟨rfl, hb⟩; obtain ⟨a0, a1, a2, a3, a4, a5, az, hS⟩ := hH; have c0 := (hb.cell (p := ⟨w.heap.size, 0, none⟩) az).trans a0; have c1 := (hb.cell (p := ⟨w.heap.size, 1, none⟩) az).trans a1; have c2 := (hb.cell (p := ⟨w.heap.size, 2, none⟩) az).trans a2; have c3 := (hb.cell (p := ⟨w.heap.size, 3, none⟩) az).trans a3; have c4 := (hb.cell (p := ⟨w.heap.size, 4, none⟩) az).trans a4; have c5 := (hb.cell (p := ⟨w.heap.size, 5, none⟩) az).trans a5; have cz := Nat.lt_of_lt_of_le az hb.size; have hS1 := hS.trans (hb.mono hS.size); clear a0 a1 a2 a3 a4 a5 az hS hb))
  clear e1 e2
  go_wp2_with fail
  go_ret
  exact ⟨_, rfl, OwnS.new w1 (loadW nums i) hS1.size (by unfold maxLen; simp [loadW]), hS1.alloc hS1.size _⟩
end Go.Proofs.YtanhkeeifnimgaaDoor
