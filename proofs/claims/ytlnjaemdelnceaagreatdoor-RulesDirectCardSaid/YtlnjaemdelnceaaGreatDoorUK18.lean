/- A part of the claim: see its last text. -/
import Derived.Test.YtlnjaemdelnceaaGreatDoorUK17
import Derived.Test.YtlnjaemdelnceaaGreatDoorUK01

set_option maxRecDepth 100000
set_option maxHeartbeats 16000000
namespace Go.Proofs.YtlnjaemdelnceaaGreatDoor
open Go Go.RowKit Go.Proofs
theorem text_rack (k : Int) (nm : ByteArray) (ra : Option Addr) (refs : List ByteArray) (rc : Nat) (na : Option Addr) (nums : List Int) (nc : Nat) (bY : Int) (al : Bool) (w : World) (_hp : Pow w)
    (hr : Strs w w.heap.size ra refs) (_hrc : refs.length ≤ rc) (hrl : refs.length ≤ 140737488355328) (_hl2 : nums.length ≤ 9223372036854775807) (_hall : nums.all numOk = true) (_hn : Ints w w.heap.size na nums) (hlen : 2 ≤ refs.length) :
    Calls Tryz.prog 155 #[.agg #[.int .i64 k, .string nm, .slice ra refs.length rc, .slice na nums.length nc, .int .i64 bY, .bool al]] w fun e w' => ∃ v, e = .returned v ∧ OwnS w.heap.size w' v [nm, (⟨#[105, 110]⟩ : ByteArray), refs.getD 0 ByteArray.empty, (⟨#[111, 110]⟩ : ByteArray), refs.getD 1 ByteArray.empty] ∧ Below w.heap.size w w' := by
 obtain ⟨rb, ro, rfl, hrb, hrc0⟩ := hr.form (by intro h; simp [h] at hlen)
 have hq0 := hrc0 0 (by omega)
 have hq1 := hrc0 1 (by omega)
 simp only [Nat.add_zero] at hq0
 clear hrc0
 have hlt0 : (0 : Int) < (refs.length : Int) := by omega
 have hmt0 : 0 < refs.length := by omega
 have hlt1 : (1 : Int) < (refs.length : Int) := by omega
 have hmt1 : 1 < refs.length := by omega
 have hz0 : (w.alloc (.cells #[.int .i64 k, .string nm, .slice (some ⟨rb, ro, none⟩) refs.length rc, .slice na nums.length nc, .int .i64 bY, .bool al] 102)).cell? ⟨rb, ro, none⟩ = some (.string (refs.getD 0 ByteArray.empty)) := (World.cell?_alloc_lt _ _ _ hrb).trans hq0
 have hz1 : (w.alloc (.cells #[.int .i64 k, .string nm, .slice (some ⟨rb, ro, none⟩) refs.length rc, .slice na nums.length nc, .int .i64 bY, .bool al] 102)).cell? ⟨rb, ro + 1, none⟩ = some (.string (refs.getD 1 ByteArray.empty)) := (World.cell?_alloc_lt _ _ _ hrb).trans hq1
 clear hq0 hq1
 generalize er0 : refs.getD 0 ByteArray.empty = r0 at *
 have ER0 := hide er0
 clear er0
 generalize er1 : refs.getD 1 ByteArray.empty = r1 at *
 have ER1 := hide er1
 clear er1
 have hS1 : Below w.heap.size w (w.alloc (.cells #[.int .i64 k, .string nm, .slice (some ⟨rb, ro, none⟩) refs.length rc, .slice na nums.length nc, .int .i64 bY, .bool al] 102)).drew := ((Below.refl _ _).alloc (Nat.le_refl _) _).drew
 have cz : w.heap.size < (w.alloc (.cells #[.int .i64 k, .string nm, .slice (some ⟨rb, ro, none⟩) refs.length rc, .slice na nums.length nc, .int .i64 bY, .bool al] 102)).drew.heap.size := by simp
 have cB := hS1.size
 go_enter Tryz.func155, Tryz.ntmps155
 go_wp2_with fail
 go_region_held3 (fun W => W.cell? ⟨w.heap.size, 0, none⟩ = some (.int .i64 k) ∧ W.cell? ⟨w.heap.size, 1, none⟩ = some (.string nm) ∧ W.cell? ⟨w.heap.size, 2, none⟩ = some (.slice (some ⟨rb, ro, none⟩) refs.length rc) ∧ W.cell? ⟨w.heap.size, 3, none⟩ = some (.slice na nums.length nc) ∧ W.cell? ⟨w.heap.size, 4, none⟩ = some (.int .i64 bY) ∧ W.cell? ⟨w.heap.size, 5, none⟩ = some (.bool al) ∧ W.cell? ⟨rb, ro, none⟩ = some (.string r0) ∧ W.cell? ⟨rb, ro + 1, none⟩ = some (.string r1) ∧ w.heap.size < W.heap.size ∧ Below w.heap.size w W)
  (refine ⟨?_, ?_, ?_, ?_, ?_, ?_, ?_, ?_, ?_, ?_⟩ <;> (first | assumption | exact cell?_new _ _ _ _ | exact (World.cell?_alloc_lt _ _ _ (Nat.lt_of_lt_of_le hrb cB)).trans (by assumption) | exact (World.cell?_alloc_lt _ _ _ hrb).trans (by assumption) | exact (World.cell?_alloc_lt _ _ _ cz).trans (by assumption) | (simp; done) | (simp; omega) | exact ((Below.refl _ _).alloc (Nat.le_refl _) _).drew | exact hS1.alloc hS1.size _))
  ((fail))
 all_goals
  go_wp2_with fail
  go_ret
  have hO := OwnS.new (B := w.heap.size) (w.alloc (.cells #[.int .i64 k, .string nm, .slice (some ⟨rb, ro, none⟩) refs.length rc, .slice na nums.length nc, .int .i64 bY, .bool al] 102)) [nm, (⟨#[105, 110]⟩ : ByteArray), r0, (⟨#[111, 110]⟩ : ByteArray), r1] (by simp) (by unfold maxLen; simp)
  rw [show (w.alloc (.cells #[.int .i64 k, .string nm, .slice (some ⟨rb, ro, none⟩) refs.length rc, .slice na nums.length nc, .int .i64 bY, .bool al] 102)).heap.size = w.heap.size + 1 by simp] at hO
  exact ⟨_, rfl, hO.drew, (((Below.refl _ _).alloc (Nat.le_refl _) _).alloc (by simp) _).drew⟩
theorem text_machine (k : Int) (nm : ByteArray) (ra : Option Addr) (refs : List ByteArray) (rc : Nat) (na : Option Addr) (nums : List Int) (nc : Nat) (bY : Int) (al : Bool) (w : World) (hp : Pow w)
    (hr : Strs w w.heap.size ra refs) (_hrc : refs.length ≤ rc) (hrl : refs.length ≤ 140737488355328) (hl2 : nums.length ≤ 9223372036854775807) (hall : nums.all numOk = true) (hn : Ints w w.heap.size na nums) (hlen : 1 ≤ refs.length) (hnum : 1 ≤ nums.length) :
    Calls Tryz.prog 156 #[.agg #[.int .i64 k, .string nm, .slice ra refs.length rc, .slice na nums.length nc, .int .i64 bY, .bool al]] w fun e w' => ∃ v, e = .returned v ∧ OwnS w.heap.size w' v [nm, (⟨#[105, 110]⟩ : ByteArray), refs.getD 0 ByteArray.empty, (⟨#[99, 97, 112, 97, 99, 105, 116, 121]⟩ : ByteArray), itoaS (nums.getD 0 0)] ∧ Below w.heap.size w w' := by
 obtain ⟨rb, ro, rfl, hrb, hrc0⟩ := hr.form (by intro h; simp [h] at hlen)
 have hq0 := hrc0 0 (by omega)
 simp only [Nat.add_zero] at hq0
 clear hrc0
 have hlt0 : (0 : Int) < (refs.length : Int) := by omega
 have hmt0 : 0 < refs.length := by omega
 have hz0 : (w.alloc (.cells #[.int .i64 k, .string nm, .slice (some ⟨rb, ro, none⟩) refs.length rc, .slice na nums.length nc, .int .i64 bY, .bool al] 102)).cell? ⟨rb, ro, none⟩ = some (.string (refs.getD 0 ByteArray.empty)) := (World.cell?_alloc_lt _ _ _ hrb).trans hq0
 clear hq0
 generalize er0 : refs.getD 0 ByteArray.empty = r0 at *
 have ER0 := hide er0
 clear er0
 have HNUM := hide hnum
 clear hnum
 go_enter Tryz.func156, Tryz.ntmps156
 go_wp2_with fail
 go_region_held3 (fun W => W.cell? ⟨w.heap.size, 0, none⟩ = some (.int .i64 k) ∧ W.cell? ⟨w.heap.size, 1, none⟩ = some (.string nm) ∧ W.cell? ⟨w.heap.size, 2, none⟩ = some (.slice (some ⟨rb, ro, none⟩) refs.length rc) ∧ W.cell? ⟨w.heap.size, 3, none⟩ = some (.slice na nums.length nc) ∧ W.cell? ⟨w.heap.size, 4, none⟩ = some (.int .i64 bY) ∧ W.cell? ⟨w.heap.size, 5, none⟩ = some (.bool al) ∧ W.cell? ⟨rb, ro, none⟩ = some (.string r0) ∧ w.heap.size < W.heap.size ∧ Below w.heap.size w W)
  (refine ⟨?_, ?_, ?_, ?_, ?_, ?_, ?_, ?_, ?_⟩ <;> (first | assumption | exact cell?_new _ _ _ _ | exact (World.cell?_alloc_lt _ _ _ (Nat.lt_of_lt_of_le hrb cB)).trans (by assumption) | exact (World.cell?_alloc_lt _ _ _ hrb).trans (by assumption) | exact (World.cell?_alloc_lt _ _ _ cz).trans (by assumption) | (simp; done) | (simp; omega) | exact ((Below.refl _ _).alloc (Nat.le_refl _) _).drew | exact hS1.alloc hS1.size _))
  ((first | (go_at_call 154; have hH := (by assumption : _ ∧ _ ∧ _ ∧ _ ∧ _ ∧ _ ∧ _ ∧ w.heap.size < _ ∧ Below w.heap.size w _); refine (number_any k nm (some ⟨rb, ro, none⟩) refs.length rc na nums nc bY al _ _ (Pow.below hp (Nat.le_refl _) hH.2.2.2.2.2.2.2.2) (by omega) (by have := HNUM.out; simp; omega) hall ((hn.below hH.2.2.2.2.2.2.2.2).more hH.2.2.2.2.2.2.2.2.size)).mono ?_; rintro e w1 ⟨rfl, hb⟩; obtain ⟨a0, a1, a2, a3, a4, a5, b0, az, hS⟩ := hH; have c0 := (hb.cell (p := ⟨w.heap.size, 0, none⟩) az).trans a0; have c1 := (hb.cell (p := ⟨w.heap.size, 1, none⟩) az).trans a1; have c2 := (hb.cell (p := ⟨w.heap.size, 2, none⟩) az).trans a2; have c3 := (hb.cell (p := ⟨w.heap.size, 3, none⟩) az).trans a3; have c4 := (hb.cell (p := ⟨w.heap.size, 4, none⟩) az).trans a4; have c5 := (hb.cell (p := ⟨w.heap.size, 5, none⟩) az).trans a5; have q0 := (hb.cell (p := ⟨rb, ro, none⟩) (Nat.lt_of_lt_of_le hrb hS.size)).trans b0; have cz := Nat.lt_of_lt_of_le az hb.size; have hS1 := hS.trans (hb.mono hS.size); have cB := hS1.size; clear a0 a1 a2 a3 a4 a5 b0 az hS hb)))
 all_goals
  go_wp2_with fail
  go_ret
  exact ⟨_, rfl, OwnS.new _ [nm, (⟨#[105, 110]⟩ : ByteArray), r0, (⟨#[99, 97, 112, 97, 99, 105, 116, 121]⟩ : ByteArray), itoaS (nums.getD 0 0)] (by first | exact hS1.size | simp) (by unfold maxLen; simp), by first | exact hS1.alloc hS1.size _ | exact (((Below.refl _ _).alloc (Nat.le_refl _) _).drew).alloc (by simp) _⟩
theorem text_dark (k : Int) (nm : ByteArray) (ra : Option Addr) (refs : List ByteArray) (rc : Nat) (na : Option Addr) (nums : List Int) (nc : Nat) (bY : Int) (al : Bool) (w : World) (hp : Pow w)
    (hr : Strs w w.heap.size ra refs) (_hrc : refs.length ≤ rc) (hrl : refs.length ≤ 140737488355328) (hl2 : nums.length ≤ 9223372036854775807) (hall : nums.all numOk = true) (hn : Ints w w.heap.size na nums) (hlen : 1 ≤ refs.length) (hnum : 2 ≤ nums.length) :
    Calls Tryz.prog 162 #[.agg #[.int .i64 k, .string nm, .slice ra refs.length rc, .slice na nums.length nc, .int .i64 bY, .bool al]] w fun e w' => ∃ v, e = .returned v ∧ OwnS w.heap.size w' v [refs.getD 0 ByteArray.empty, (⟨#[115, 108, 111, 116, 115]⟩ : ByteArray), itoaS (nums.getD 0 0), (⟨#[114, 101, 115, 101, 114, 118, 101]⟩ : ByteArray), itoaS (nums.getD 1 0)] ∧ Below w.heap.size w w' := by
 obtain ⟨rb, ro, rfl, hrb, hrc0⟩ := hr.form (by intro h; simp [h] at hlen)
 have hq0 := hrc0 0 (by omega)
 simp only [Nat.add_zero] at hq0
 clear hrc0
 have hlt0 : (0 : Int) < (refs.length : Int) := by omega
 have hmt0 : 0 < refs.length := by omega
 have hz0 : (w.alloc (.cells #[.int .i64 k, .string nm, .slice (some ⟨rb, ro, none⟩) refs.length rc, .slice na nums.length nc, .int .i64 bY, .bool al] 102)).cell? ⟨rb, ro, none⟩ = some (.string (refs.getD 0 ByteArray.empty)) := (World.cell?_alloc_lt _ _ _ hrb).trans hq0
 clear hq0
 generalize er0 : refs.getD 0 ByteArray.empty = r0 at *
 have ER0 := hide er0
 clear er0
 have HNUM := hide hnum
 clear hnum
 go_enter Tryz.func162, Tryz.ntmps162
 go_wp2_with fail
 go_region_held3 (fun W => W.cell? ⟨w.heap.size, 0, none⟩ = some (.int .i64 k) ∧ W.cell? ⟨w.heap.size, 1, none⟩ = some (.string nm) ∧ W.cell? ⟨w.heap.size, 2, none⟩ = some (.slice (some ⟨rb, ro, none⟩) refs.length rc) ∧ W.cell? ⟨w.heap.size, 3, none⟩ = some (.slice na nums.length nc) ∧ W.cell? ⟨w.heap.size, 4, none⟩ = some (.int .i64 bY) ∧ W.cell? ⟨w.heap.size, 5, none⟩ = some (.bool al) ∧ W.cell? ⟨rb, ro, none⟩ = some (.string r0) ∧ w.heap.size < W.heap.size ∧ Below w.heap.size w W)
  (refine ⟨?_, ?_, ?_, ?_, ?_, ?_, ?_, ?_, ?_⟩ <;> (first | assumption | exact cell?_new _ _ _ _ | exact (World.cell?_alloc_lt _ _ _ (Nat.lt_of_lt_of_le hrb cB)).trans (by assumption) | exact (World.cell?_alloc_lt _ _ _ hrb).trans (by assumption) | exact (World.cell?_alloc_lt _ _ _ cz).trans (by assumption) | (simp; done) | (simp; omega) | exact ((Below.refl _ _).alloc (Nat.le_refl _) _).drew | exact hS1.alloc hS1.size _))
  ((first | (go_at_call 154; have hH := (by assumption : _ ∧ _ ∧ _ ∧ _ ∧ _ ∧ _ ∧ _ ∧ w.heap.size < _ ∧ Below w.heap.size w _); refine (number_any k nm (some ⟨rb, ro, none⟩) refs.length rc na nums nc bY al _ _ (Pow.below hp (Nat.le_refl _) hH.2.2.2.2.2.2.2.2) (by omega) (by have := HNUM.out; simp; omega) hall ((hn.below hH.2.2.2.2.2.2.2.2).more hH.2.2.2.2.2.2.2.2.size)).mono ?_; rintro e w1 ⟨rfl, hb⟩; obtain ⟨a0, a1, a2, a3, a4, a5, b0, az, hS⟩ := hH; have c0 := (hb.cell (p := ⟨w.heap.size, 0, none⟩) az).trans a0; have c1 := (hb.cell (p := ⟨w.heap.size, 1, none⟩) az).trans a1; have c2 := (hb.cell (p := ⟨w.heap.size, 2, none⟩) az).trans a2; have c3 := (hb.cell (p := ⟨w.heap.size, 3, none⟩) az).trans a3; have c4 := (hb.cell (p := ⟨w.heap.size, 4, none⟩) az).trans a4; have c5 := (hb.cell (p := ⟨w.heap.size, 5, none⟩) az).trans a5; have q0 := (hb.cell (p := ⟨rb, ro, none⟩) (Nat.lt_of_lt_of_le hrb hS.size)).trans b0; have cz := Nat.lt_of_lt_of_le az hb.size; have hS1 := hS.trans (hb.mono hS.size); have cB := hS1.size; clear a0 a1 a2 a3 a4 a5 b0 az hS hb)))
 all_goals
  go_wp2_with fail
  go_ret
  exact ⟨_, rfl, OwnS.new _ [r0, (⟨#[115, 108, 111, 116, 115]⟩ : ByteArray), itoaS (nums.getD 0 0), (⟨#[114, 101, 115, 101, 114, 118, 101]⟩ : ByteArray), itoaS (nums.getD 1 0)] (by first | exact hS1.size | simp) (by unfold maxLen; simp), by first | exact hS1.alloc hS1.size _ | exact (((Below.refl _ _).alloc (Nat.le_refl _) _).drew).alloc (by simp) _⟩
theorem text_spread (k : Int) (nm : ByteArray) (ra : Option Addr) (refs : List ByteArray) (rc : Nat) (na : Option Addr) (nums : List Int) (nc : Nat) (bY : Int) (al : Bool) (w : World) (hp : Pow w)
    (hr : Strs w w.heap.size ra refs) (_hrc : refs.length ≤ rc) (hrl : refs.length ≤ 140737488355328) (hl2 : nums.length ≤ 9223372036854775807) (hall : nums.all numOk = true) (hn : Ints w w.heap.size na nums) (hlen : 1 ≤ refs.length) (hnum : 1 ≤ nums.length) :
    Calls Tryz.prog 169 #[.agg #[.int .i64 k, .string nm, .slice ra refs.length rc, .slice na nums.length nc, .int .i64 bY, .bool al]] w fun e w' => ∃ v, e = .returned v ∧ OwnS w.heap.size w' v [refs.getD 0 ByteArray.empty, (⟨#[98, 121]⟩ : ByteArray), domW bY, itoaS (nums.getD 0 0)] ∧ Below w.heap.size w w' := by
 obtain ⟨rb, ro, rfl, hrb, hrc0⟩ := hr.form (by intro h; simp [h] at hlen)
 have hq0 := hrc0 0 (by omega)
 simp only [Nat.add_zero] at hq0
 clear hrc0
 have hlt0 : (0 : Int) < (refs.length : Int) := by omega
 have hmt0 : 0 < refs.length := by omega
 have hz0 : (w.alloc (.cells #[.int .i64 k, .string nm, .slice (some ⟨rb, ro, none⟩) refs.length rc, .slice na nums.length nc, .int .i64 bY, .bool al] 102)).cell? ⟨rb, ro, none⟩ = some (.string (refs.getD 0 ByteArray.empty)) := (World.cell?_alloc_lt _ _ _ hrb).trans hq0
 clear hq0
 generalize er0 : refs.getD 0 ByteArray.empty = r0 at *
 have ER0 := hide er0
 clear er0
 have HNUM := hide hnum
 clear hnum
 go_enter Tryz.func169, Tryz.ntmps169
 go_wp2_with fail
 go_region_held3 (fun W => W.cell? ⟨w.heap.size, 0, none⟩ = some (.int .i64 k) ∧ W.cell? ⟨w.heap.size, 1, none⟩ = some (.string nm) ∧ W.cell? ⟨w.heap.size, 2, none⟩ = some (.slice (some ⟨rb, ro, none⟩) refs.length rc) ∧ W.cell? ⟨w.heap.size, 3, none⟩ = some (.slice na nums.length nc) ∧ W.cell? ⟨w.heap.size, 4, none⟩ = some (.int .i64 bY) ∧ W.cell? ⟨w.heap.size, 5, none⟩ = some (.bool al) ∧ W.cell? ⟨rb, ro, none⟩ = some (.string r0) ∧ w.heap.size < W.heap.size ∧ Below w.heap.size w W)
  (refine ⟨?_, ?_, ?_, ?_, ?_, ?_, ?_, ?_, ?_⟩ <;> (first | assumption | exact cell?_new _ _ _ _ | exact (World.cell?_alloc_lt _ _ _ (Nat.lt_of_lt_of_le hrb cB)).trans (by assumption) | exact (World.cell?_alloc_lt _ _ _ hrb).trans (by assumption) | exact (World.cell?_alloc_lt _ _ _ cz).trans (by assumption) | (simp; done) | (simp; omega) | exact ((Below.refl _ _).alloc (Nat.le_refl _) _).drew | exact hS1.alloc hS1.size _))
  ((first | (go_at_call 168; refine (domain_any bY _).mono ?_; have hH := (by assumption : _ ∧ _ ∧ _ ∧ _ ∧ _ ∧ _ ∧ _ ∧ w.heap.size < _ ∧ Below w.heap.size w _); rintro e w1 ⟨rfl, hb⟩; obtain ⟨a0, a1, a2, a3, a4, a5, b0, az, hS⟩ := hH; have c0 := (hb.cell (p := ⟨w.heap.size, 0, none⟩) az).trans a0; have c1 := (hb.cell (p := ⟨w.heap.size, 1, none⟩) az).trans a1; have c2 := (hb.cell (p := ⟨w.heap.size, 2, none⟩) az).trans a2; have c3 := (hb.cell (p := ⟨w.heap.size, 3, none⟩) az).trans a3; have c4 := (hb.cell (p := ⟨w.heap.size, 4, none⟩) az).trans a4; have c5 := (hb.cell (p := ⟨w.heap.size, 5, none⟩) az).trans a5; have q0 := (hb.cell (p := ⟨rb, ro, none⟩) (Nat.lt_of_lt_of_le hrb hS.size)).trans b0; have cz := Nat.lt_of_lt_of_le az hb.size; have hS1 := hS.trans (hb.mono hS.size); have cB := hS1.size; clear a0 a1 a2 a3 a4 a5 b0 az hS hb) | (go_at_call 154; have hH := (by assumption : _ ∧ _ ∧ _ ∧ _ ∧ _ ∧ _ ∧ _ ∧ w.heap.size < _ ∧ Below w.heap.size w _); refine (number_any k nm (some ⟨rb, ro, none⟩) refs.length rc na nums nc bY al _ _ (Pow.below hp (Nat.le_refl _) hH.2.2.2.2.2.2.2.2) (by omega) (by have := HNUM.out; simp; omega) hall ((hn.below hH.2.2.2.2.2.2.2.2).more hH.2.2.2.2.2.2.2.2.size)).mono ?_; rintro e w1 ⟨rfl, hb⟩; obtain ⟨a0, a1, a2, a3, a4, a5, b0, az, hS⟩ := hH; have c0 := (hb.cell (p := ⟨w.heap.size, 0, none⟩) az).trans a0; have c1 := (hb.cell (p := ⟨w.heap.size, 1, none⟩) az).trans a1; have c2 := (hb.cell (p := ⟨w.heap.size, 2, none⟩) az).trans a2; have c3 := (hb.cell (p := ⟨w.heap.size, 3, none⟩) az).trans a3; have c4 := (hb.cell (p := ⟨w.heap.size, 4, none⟩) az).trans a4; have c5 := (hb.cell (p := ⟨w.heap.size, 5, none⟩) az).trans a5; have q0 := (hb.cell (p := ⟨rb, ro, none⟩) (Nat.lt_of_lt_of_le hrb hS.size)).trans b0; have cz := Nat.lt_of_lt_of_le az hb.size; have hS1 := hS.trans (hb.mono hS.size); have cB := hS1.size; clear a0 a1 a2 a3 a4 a5 b0 az hS hb)))
 all_goals
  go_wp2_with fail
  go_ret
  exact ⟨_, rfl, OwnS.new _ [r0, (⟨#[98, 121]⟩ : ByteArray), domW bY, itoaS (nums.getD 0 0)] (by first | exact hS1.size | simp) (by unfold maxLen; simp), by first | exact hS1.alloc hS1.size _ | exact (((Below.refl _ _).alloc (Nat.le_refl _) _).drew).alloc (by simp) _⟩
theorem text_order (k : Int) (nm : ByteArray) (ra : Option Addr) (refs : List ByteArray) (rc : Nat) (na : Option Addr) (nums : List Int) (nc : Nat) (bY : Int) (al : Bool) (w : World) (_hp : Pow w)
    (hr : Strs w w.heap.size ra refs) (_hrc : refs.length ≤ rc) (hrl : refs.length ≤ 140737488355328) (_hl2 : nums.length ≤ 9223372036854775807) (_hall : nums.all numOk = true) (_hn : Ints w w.heap.size na nums) (hlen : 2 ≤ refs.length) :
    Calls Tryz.prog 171 #[.agg #[.int .i64 k, .string nm, .slice ra refs.length rc, .slice na nums.length nc, .int .i64 bY, .bool al]] w fun e w' => ∃ v, e = .returned v ∧ OwnS w.heap.size w' v [refs.getD 0 ByteArray.empty, (⟨#[98, 101, 102, 111, 114, 101]⟩ : ByteArray), refs.getD 1 ByteArray.empty] ∧ Below w.heap.size w w' := by
 obtain ⟨rb, ro, rfl, hrb, hrc0⟩ := hr.form (by intro h; simp [h] at hlen)
 have hq0 := hrc0 0 (by omega)
 have hq1 := hrc0 1 (by omega)
 simp only [Nat.add_zero] at hq0
 clear hrc0
 have hlt0 : (0 : Int) < (refs.length : Int) := by omega
 have hmt0 : 0 < refs.length := by omega
 have hlt1 : (1 : Int) < (refs.length : Int) := by omega
 have hmt1 : 1 < refs.length := by omega
 have hz0 : (w.alloc (.cells #[.int .i64 k, .string nm, .slice (some ⟨rb, ro, none⟩) refs.length rc, .slice na nums.length nc, .int .i64 bY, .bool al] 102)).cell? ⟨rb, ro, none⟩ = some (.string (refs.getD 0 ByteArray.empty)) := (World.cell?_alloc_lt _ _ _ hrb).trans hq0
 have hz1 : (w.alloc (.cells #[.int .i64 k, .string nm, .slice (some ⟨rb, ro, none⟩) refs.length rc, .slice na nums.length nc, .int .i64 bY, .bool al] 102)).cell? ⟨rb, ro + 1, none⟩ = some (.string (refs.getD 1 ByteArray.empty)) := (World.cell?_alloc_lt _ _ _ hrb).trans hq1
 clear hq0 hq1
 generalize er0 : refs.getD 0 ByteArray.empty = r0 at *
 have ER0 := hide er0
 clear er0
 generalize er1 : refs.getD 1 ByteArray.empty = r1 at *
 have ER1 := hide er1
 clear er1
 have hS1 : Below w.heap.size w (w.alloc (.cells #[.int .i64 k, .string nm, .slice (some ⟨rb, ro, none⟩) refs.length rc, .slice na nums.length nc, .int .i64 bY, .bool al] 102)).drew := ((Below.refl _ _).alloc (Nat.le_refl _) _).drew
 have cz : w.heap.size < (w.alloc (.cells #[.int .i64 k, .string nm, .slice (some ⟨rb, ro, none⟩) refs.length rc, .slice na nums.length nc, .int .i64 bY, .bool al] 102)).drew.heap.size := by simp
 have cB := hS1.size
 go_enter Tryz.func171, Tryz.ntmps171
 go_wp2_with fail
 go_region_held3 (fun W => W.cell? ⟨w.heap.size, 0, none⟩ = some (.int .i64 k) ∧ W.cell? ⟨w.heap.size, 1, none⟩ = some (.string nm) ∧ W.cell? ⟨w.heap.size, 2, none⟩ = some (.slice (some ⟨rb, ro, none⟩) refs.length rc) ∧ W.cell? ⟨w.heap.size, 3, none⟩ = some (.slice na nums.length nc) ∧ W.cell? ⟨w.heap.size, 4, none⟩ = some (.int .i64 bY) ∧ W.cell? ⟨w.heap.size, 5, none⟩ = some (.bool al) ∧ W.cell? ⟨rb, ro, none⟩ = some (.string r0) ∧ W.cell? ⟨rb, ro + 1, none⟩ = some (.string r1) ∧ w.heap.size < W.heap.size ∧ Below w.heap.size w W)
  (refine ⟨?_, ?_, ?_, ?_, ?_, ?_, ?_, ?_, ?_, ?_⟩ <;> (first | assumption | exact cell?_new _ _ _ _ | exact (World.cell?_alloc_lt _ _ _ (Nat.lt_of_lt_of_le hrb cB)).trans (by assumption) | exact (World.cell?_alloc_lt _ _ _ hrb).trans (by assumption) | exact (World.cell?_alloc_lt _ _ _ cz).trans (by assumption) | (simp; done) | (simp; omega) | exact ((Below.refl _ _).alloc (Nat.le_refl _) _).drew | exact hS1.alloc hS1.size _))
  ((fail))
 all_goals
  go_wp2_with fail
  go_ret
  have hO := OwnS.new (B := w.heap.size) (w.alloc (.cells #[.int .i64 k, .string nm, .slice (some ⟨rb, ro, none⟩) refs.length rc, .slice na nums.length nc, .int .i64 bY, .bool al] 102)) [r0, (⟨#[98, 101, 102, 111, 114, 101]⟩ : ByteArray), r1] (by simp) (by unfold maxLen; simp)
  rw [show (w.alloc (.cells #[.int .i64 k, .string nm, .slice (some ⟨rb, ro, none⟩) refs.length rc, .slice na nums.length nc, .int .i64 bY, .bool al] 102)).heap.size = w.heap.size + 1 by simp] at hO
  exact ⟨_, rfl, hO.drew, (((Below.refl _ _).alloc (Nat.le_refl _) _).alloc (by simp) _).drew⟩
end Go.Proofs.YtlnjaemdelnceaaGreatDoor
