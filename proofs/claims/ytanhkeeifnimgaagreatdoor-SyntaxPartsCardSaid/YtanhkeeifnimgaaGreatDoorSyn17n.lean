/- The walks of syntax.classes and of the closure 'text' of 'failures'. Printed by wip/gen_cls.py. Conditions: By is 1 .. 7. -/
import Derived.Test.YtanhkeeifnimgaaGreatDoorSyn17m
namespace Go.Proofs.YtanhkeeifnimgaaGreatDoor
open Go Go.RowKit Go.Proofs

def clsAll : List ByteArray := [(⟨#[109, 97, 99, 104, 105, 110, 101]⟩ : ByteArray), (⟨#[114, 97, 99, 107]⟩ : ByteArray), (⟨#[102, 101, 101, 100]⟩ : ByteArray)]
/-- the words of the classes below k -/
def clsTo (n : Nat) (k : Nat) : List ByteArray := (List.range k).filterMap fun i => if n / 2 ^ i % 2 = 1 then clsAll[i]? else none
def clsW (n : Nat) : List ByteArray := clsTo n 3

set_option maxHeartbeats 2000000 in
theorem classes_prog1 (w : World) :
    Calls Tryz.prog 73 #[.int .i64 1] w fun e w' => e = .returned (.string (joinS (clsW 1) (⟨#[44, 32]⟩ : ByteArray))) ∧ Below w.heap.size w w' := by
  go_enter Tryz.func73, Tryz.ntmps73
  go_wp2_with fail
  go_loopw [3, 8] (fun v i wr => ∃ j : Nat, j ≤ 3 ∧ i = .int .i64 j ∧ OwnS (w.heap.size + 1) wr v (clsTo 1 j) ∧ Below w.heap.size w wr ∧ w.heap.size < wr.heap.size ∧ Blk wr w.heap.size 9 #[.string (⟨#[109, 97, 99, 104, 105, 110, 101]⟩ : ByteArray), .string (⟨#[114, 97, 99, 107]⟩ : ByteArray), .string (⟨#[102, 101, 101, 100]⟩ : ByteArray)]) (fun _ i _ => 3 - (intOf i).toNat)
  case atStart => exact ⟨0, Nat.zero_le _, rfl, OwnS.nil_ _ _, (Below.refl _ _).alloc (Nat.le_refl _) _, by simp, Blk.new _ _ _⟩
  case round =>
    obtain ⟨j, hj, rfl, hO, hbr, hsz, hD⟩ := hrel
    have d0 := hD.cell 0
    have d1 := hD.cell 1
    have d2 := hD.cell 2
    simp at d0 d1 d2
    have hj3 : j = 0 ∨ j = 1 ∨ j = 2 ∨ j = 3 := by omega
    clear hj
    rcases hj3 with rfl | rfl | rfl | rfl
    · simp only [Int.cast_ofNat_Int] at *
      go_wp2_with (at_builtin; refine append_strs rfl _ _ rfl (w.heap.size + 1) u3 (clsTo 1 0) rfl (hO.alloc _) _ _ 1 [(⟨#[109, 97, 99, 104, 105, 110, 101]⟩ : ByteArray)] rfl (Strs.newRow wr 9 [(⟨#[109, 97, 99, 104, 105, 110, 101]⟩ : ByteArray)]) (by decide) (by simp; omega) ?_; intro v3 w3 hO3 hg3 _)
      have hg : (wr.alloc (.cells #[.string (⟨#[109, 97, 99, 104, 105, 110, 101]⟩ : ByteArray)] 9)).grownBy w3 u3.ownBlock := hg3
      have hlo := hO.lt
      have hs3 := hg.size
      simp at hs3
      exact ⟨⟨1, by omega, by go_num, hO3, (hbr.alloc hbr.size _).grown hg (by simp; omega) (fun q hq => by have := hlo q hq; omega), by omega, (hD.alloc _).grown hg (fun e => by have := hlo _ e.symm; omega)⟩, by simp [intOf]⟩
    · simp only [Int.cast_ofNat_Int] at *
      go_wp2_with fail
      exact ⟨⟨2, by omega, by go_num, hO, hbr, hsz, hD⟩, by simp [intOf]⟩
    · simp only [Int.cast_ofNat_Int] at *
      go_wp2_with fail
      exact ⟨⟨3, by omega, by go_num, hO, hbr, hsz, hD⟩, by simp [intOf]⟩
    · simp only [Int.cast_ofNat_Int] at *
      obtain ⟨A, c, rfl, hA, hc⟩ := hO.form2
      go_wp2_with (go_at_call 66; refine (list_any A c (clsW 1) wr hA hc (by decide) (by decide +kernel)).mono ?_; rintro e w1 ⟨rfl, hb⟩)
      go_ret
      exact ⟨rfl, hbr.trans (hb.mono hbr.size)⟩

set_option maxHeartbeats 2000000 in
theorem classes_prog2 (w : World) :
    Calls Tryz.prog 73 #[.int .i64 2] w fun e w' => e = .returned (.string (joinS (clsW 2) (⟨#[44, 32]⟩ : ByteArray))) ∧ Below w.heap.size w w' := by
  go_enter Tryz.func73, Tryz.ntmps73
  go_wp2_with fail
  go_loopw [3, 8] (fun v i wr => ∃ j : Nat, j ≤ 3 ∧ i = .int .i64 j ∧ OwnS (w.heap.size + 1) wr v (clsTo 2 j) ∧ Below w.heap.size w wr ∧ w.heap.size < wr.heap.size ∧ Blk wr w.heap.size 9 #[.string (⟨#[109, 97, 99, 104, 105, 110, 101]⟩ : ByteArray), .string (⟨#[114, 97, 99, 107]⟩ : ByteArray), .string (⟨#[102, 101, 101, 100]⟩ : ByteArray)]) (fun _ i _ => 3 - (intOf i).toNat)
  case atStart => exact ⟨0, Nat.zero_le _, rfl, OwnS.nil_ _ _, (Below.refl _ _).alloc (Nat.le_refl _) _, by simp, Blk.new _ _ _⟩
  case round =>
    obtain ⟨j, hj, rfl, hO, hbr, hsz, hD⟩ := hrel
    have d0 := hD.cell 0
    have d1 := hD.cell 1
    have d2 := hD.cell 2
    simp at d0 d1 d2
    have hj3 : j = 0 ∨ j = 1 ∨ j = 2 ∨ j = 3 := by omega
    clear hj
    rcases hj3 with rfl | rfl | rfl | rfl
    · simp only [Int.cast_ofNat_Int] at *
      go_wp2_with fail
      exact ⟨⟨1, by omega, by go_num, hO, hbr, hsz, hD⟩, by simp [intOf]⟩
    · simp only [Int.cast_ofNat_Int] at *
      go_wp2_with (at_builtin; refine append_strs rfl _ _ rfl (w.heap.size + 1) u3 (clsTo 2 1) rfl (hO.alloc _) _ _ 1 [(⟨#[114, 97, 99, 107]⟩ : ByteArray)] rfl (Strs.newRow wr 9 [(⟨#[114, 97, 99, 107]⟩ : ByteArray)]) (by decide) (by simp; omega) ?_; intro v3 w3 hO3 hg3 _)
      have hg : (wr.alloc (.cells #[.string (⟨#[114, 97, 99, 107]⟩ : ByteArray)] 9)).grownBy w3 u3.ownBlock := hg3
      have hlo := hO.lt
      have hs3 := hg.size
      simp at hs3
      exact ⟨⟨2, by omega, by go_num, hO3, (hbr.alloc hbr.size _).grown hg (by simp; omega) (fun q hq => by have := hlo q hq; omega), by omega, (hD.alloc _).grown hg (fun e => by have := hlo _ e.symm; omega)⟩, by simp [intOf]⟩
    · simp only [Int.cast_ofNat_Int] at *
      go_wp2_with fail
      exact ⟨⟨3, by omega, by go_num, hO, hbr, hsz, hD⟩, by simp [intOf]⟩
    · simp only [Int.cast_ofNat_Int] at *
      obtain ⟨A, c, rfl, hA, hc⟩ := hO.form2
      go_wp2_with (go_at_call 66; refine (list_any A c (clsW 2) wr hA hc (by decide) (by decide +kernel)).mono ?_; rintro e w1 ⟨rfl, hb⟩)
      go_ret
      exact ⟨rfl, hbr.trans (hb.mono hbr.size)⟩

set_option maxHeartbeats 2000000 in
theorem classes_prog3 (w : World) :
    Calls Tryz.prog 73 #[.int .i64 3] w fun e w' => e = .returned (.string (joinS (clsW 3) (⟨#[44, 32]⟩ : ByteArray))) ∧ Below w.heap.size w w' := by
  go_enter Tryz.func73, Tryz.ntmps73
  go_wp2_with fail
  go_loopw [3, 8] (fun v i wr => ∃ j : Nat, j ≤ 3 ∧ i = .int .i64 j ∧ OwnS (w.heap.size + 1) wr v (clsTo 3 j) ∧ Below w.heap.size w wr ∧ w.heap.size < wr.heap.size ∧ Blk wr w.heap.size 9 #[.string (⟨#[109, 97, 99, 104, 105, 110, 101]⟩ : ByteArray), .string (⟨#[114, 97, 99, 107]⟩ : ByteArray), .string (⟨#[102, 101, 101, 100]⟩ : ByteArray)]) (fun _ i _ => 3 - (intOf i).toNat)
  case atStart => exact ⟨0, Nat.zero_le _, rfl, OwnS.nil_ _ _, (Below.refl _ _).alloc (Nat.le_refl _) _, by simp, Blk.new _ _ _⟩
  case round =>
    obtain ⟨j, hj, rfl, hO, hbr, hsz, hD⟩ := hrel
    have d0 := hD.cell 0
    have d1 := hD.cell 1
    have d2 := hD.cell 2
    simp at d0 d1 d2
    have hj3 : j = 0 ∨ j = 1 ∨ j = 2 ∨ j = 3 := by omega
    clear hj
    rcases hj3 with rfl | rfl | rfl | rfl
    · simp only [Int.cast_ofNat_Int] at *
      go_wp2_with (at_builtin; refine append_strs rfl _ _ rfl (w.heap.size + 1) u3 (clsTo 3 0) rfl (hO.alloc _) _ _ 1 [(⟨#[109, 97, 99, 104, 105, 110, 101]⟩ : ByteArray)] rfl (Strs.newRow wr 9 [(⟨#[109, 97, 99, 104, 105, 110, 101]⟩ : ByteArray)]) (by decide) (by simp; omega) ?_; intro v3 w3 hO3 hg3 _)
      have hg : (wr.alloc (.cells #[.string (⟨#[109, 97, 99, 104, 105, 110, 101]⟩ : ByteArray)] 9)).grownBy w3 u3.ownBlock := hg3
      have hlo := hO.lt
      have hs3 := hg.size
      simp at hs3
      exact ⟨⟨1, by omega, by go_num, hO3, (hbr.alloc hbr.size _).grown hg (by simp; omega) (fun q hq => by have := hlo q hq; omega), by omega, (hD.alloc _).grown hg (fun e => by have := hlo _ e.symm; omega)⟩, by simp [intOf]⟩
    · simp only [Int.cast_ofNat_Int] at *
      go_wp2_with (at_builtin; refine append_strs rfl _ _ rfl (w.heap.size + 1) u3 (clsTo 3 1) rfl (hO.alloc _) _ _ 1 [(⟨#[114, 97, 99, 107]⟩ : ByteArray)] rfl (Strs.newRow wr 9 [(⟨#[114, 97, 99, 107]⟩ : ByteArray)]) (by decide) (by simp; omega) ?_; intro v3 w3 hO3 hg3 _)
      have hg : (wr.alloc (.cells #[.string (⟨#[114, 97, 99, 107]⟩ : ByteArray)] 9)).grownBy w3 u3.ownBlock := hg3
      have hlo := hO.lt
      have hs3 := hg.size
      simp at hs3
      exact ⟨⟨2, by omega, by go_num, hO3, (hbr.alloc hbr.size _).grown hg (by simp; omega) (fun q hq => by have := hlo q hq; omega), by omega, (hD.alloc _).grown hg (fun e => by have := hlo _ e.symm; omega)⟩, by simp [intOf]⟩
    · simp only [Int.cast_ofNat_Int] at *
      go_wp2_with fail
      exact ⟨⟨3, by omega, by go_num, hO, hbr, hsz, hD⟩, by simp [intOf]⟩
    · simp only [Int.cast_ofNat_Int] at *
      obtain ⟨A, c, rfl, hA, hc⟩ := hO.form2
      go_wp2_with (go_at_call 66; refine (list_any A c (clsW 3) wr hA hc (by decide) (by decide +kernel)).mono ?_; rintro e w1 ⟨rfl, hb⟩)
      go_ret
      exact ⟨rfl, hbr.trans (hb.mono hbr.size)⟩

set_option maxHeartbeats 2000000 in
theorem classes_prog4 (w : World) :
    Calls Tryz.prog 73 #[.int .i64 4] w fun e w' => e = .returned (.string (joinS (clsW 4) (⟨#[44, 32]⟩ : ByteArray))) ∧ Below w.heap.size w w' := by
  go_enter Tryz.func73, Tryz.ntmps73
  go_wp2_with fail
  go_loopw [3, 8] (fun v i wr => ∃ j : Nat, j ≤ 3 ∧ i = .int .i64 j ∧ OwnS (w.heap.size + 1) wr v (clsTo 4 j) ∧ Below w.heap.size w wr ∧ w.heap.size < wr.heap.size ∧ Blk wr w.heap.size 9 #[.string (⟨#[109, 97, 99, 104, 105, 110, 101]⟩ : ByteArray), .string (⟨#[114, 97, 99, 107]⟩ : ByteArray), .string (⟨#[102, 101, 101, 100]⟩ : ByteArray)]) (fun _ i _ => 3 - (intOf i).toNat)
  case atStart => exact ⟨0, Nat.zero_le _, rfl, OwnS.nil_ _ _, (Below.refl _ _).alloc (Nat.le_refl _) _, by simp, Blk.new _ _ _⟩
  case round =>
    obtain ⟨j, hj, rfl, hO, hbr, hsz, hD⟩ := hrel
    have d0 := hD.cell 0
    have d1 := hD.cell 1
    have d2 := hD.cell 2
    simp at d0 d1 d2
    have hj3 : j = 0 ∨ j = 1 ∨ j = 2 ∨ j = 3 := by omega
    clear hj
    rcases hj3 with rfl | rfl | rfl | rfl
    · simp only [Int.cast_ofNat_Int] at *
      go_wp2_with fail
      exact ⟨⟨1, by omega, by go_num, hO, hbr, hsz, hD⟩, by simp [intOf]⟩
    · simp only [Int.cast_ofNat_Int] at *
      go_wp2_with fail
      exact ⟨⟨2, by omega, by go_num, hO, hbr, hsz, hD⟩, by simp [intOf]⟩
    · simp only [Int.cast_ofNat_Int] at *
      go_wp2_with (at_builtin; refine append_strs rfl _ _ rfl (w.heap.size + 1) u3 (clsTo 4 2) rfl (hO.alloc _) _ _ 1 [(⟨#[102, 101, 101, 100]⟩ : ByteArray)] rfl (Strs.newRow wr 9 [(⟨#[102, 101, 101, 100]⟩ : ByteArray)]) (by decide) (by simp; omega) ?_; intro v3 w3 hO3 hg3 _)
      have hg : (wr.alloc (.cells #[.string (⟨#[102, 101, 101, 100]⟩ : ByteArray)] 9)).grownBy w3 u3.ownBlock := hg3
      have hlo := hO.lt
      have hs3 := hg.size
      simp at hs3
      exact ⟨⟨3, by omega, by go_num, hO3, (hbr.alloc hbr.size _).grown hg (by simp; omega) (fun q hq => by have := hlo q hq; omega), by omega, (hD.alloc _).grown hg (fun e => by have := hlo _ e.symm; omega)⟩, by simp [intOf]⟩
    · simp only [Int.cast_ofNat_Int] at *
      obtain ⟨A, c, rfl, hA, hc⟩ := hO.form2
      go_wp2_with (go_at_call 66; refine (list_any A c (clsW 4) wr hA hc (by decide) (by decide +kernel)).mono ?_; rintro e w1 ⟨rfl, hb⟩)
      go_ret
      exact ⟨rfl, hbr.trans (hb.mono hbr.size)⟩

set_option maxHeartbeats 2000000 in
theorem classes_prog5 (w : World) :
    Calls Tryz.prog 73 #[.int .i64 5] w fun e w' => e = .returned (.string (joinS (clsW 5) (⟨#[44, 32]⟩ : ByteArray))) ∧ Below w.heap.size w w' := by
  go_enter Tryz.func73, Tryz.ntmps73
  go_wp2_with fail
  go_loopw [3, 8] (fun v i wr => ∃ j : Nat, j ≤ 3 ∧ i = .int .i64 j ∧ OwnS (w.heap.size + 1) wr v (clsTo 5 j) ∧ Below w.heap.size w wr ∧ w.heap.size < wr.heap.size ∧ Blk wr w.heap.size 9 #[.string (⟨#[109, 97, 99, 104, 105, 110, 101]⟩ : ByteArray), .string (⟨#[114, 97, 99, 107]⟩ : ByteArray), .string (⟨#[102, 101, 101, 100]⟩ : ByteArray)]) (fun _ i _ => 3 - (intOf i).toNat)
  case atStart => exact ⟨0, Nat.zero_le _, rfl, OwnS.nil_ _ _, (Below.refl _ _).alloc (Nat.le_refl _) _, by simp, Blk.new _ _ _⟩
  case round =>
    obtain ⟨j, hj, rfl, hO, hbr, hsz, hD⟩ := hrel
    have d0 := hD.cell 0
    have d1 := hD.cell 1
    have d2 := hD.cell 2
    simp at d0 d1 d2
    have hj3 : j = 0 ∨ j = 1 ∨ j = 2 ∨ j = 3 := by omega
    clear hj
    rcases hj3 with rfl | rfl | rfl | rfl
    · simp only [Int.cast_ofNat_Int] at *
      go_wp2_with (at_builtin; refine append_strs rfl _ _ rfl (w.heap.size + 1) u3 (clsTo 5 0) rfl (hO.alloc _) _ _ 1 [(⟨#[109, 97, 99, 104, 105, 110, 101]⟩ : ByteArray)] rfl (Strs.newRow wr 9 [(⟨#[109, 97, 99, 104, 105, 110, 101]⟩ : ByteArray)]) (by decide) (by simp; omega) ?_; intro v3 w3 hO3 hg3 _)
      have hg : (wr.alloc (.cells #[.string (⟨#[109, 97, 99, 104, 105, 110, 101]⟩ : ByteArray)] 9)).grownBy w3 u3.ownBlock := hg3
      have hlo := hO.lt
      have hs3 := hg.size
      simp at hs3
      exact ⟨⟨1, by omega, by go_num, hO3, (hbr.alloc hbr.size _).grown hg (by simp; omega) (fun q hq => by have := hlo q hq; omega), by omega, (hD.alloc _).grown hg (fun e => by have := hlo _ e.symm; omega)⟩, by simp [intOf]⟩
    · simp only [Int.cast_ofNat_Int] at *
      go_wp2_with fail
      exact ⟨⟨2, by omega, by go_num, hO, hbr, hsz, hD⟩, by simp [intOf]⟩
    · simp only [Int.cast_ofNat_Int] at *
      go_wp2_with (at_builtin; refine append_strs rfl _ _ rfl (w.heap.size + 1) u3 (clsTo 5 2) rfl (hO.alloc _) _ _ 1 [(⟨#[102, 101, 101, 100]⟩ : ByteArray)] rfl (Strs.newRow wr 9 [(⟨#[102, 101, 101, 100]⟩ : ByteArray)]) (by decide) (by simp; omega) ?_; intro v3 w3 hO3 hg3 _)
      have hg : (wr.alloc (.cells #[.string (⟨#[102, 101, 101, 100]⟩ : ByteArray)] 9)).grownBy w3 u3.ownBlock := hg3
      have hlo := hO.lt
      have hs3 := hg.size
      simp at hs3
      exact ⟨⟨3, by omega, by go_num, hO3, (hbr.alloc hbr.size _).grown hg (by simp; omega) (fun q hq => by have := hlo q hq; omega), by omega, (hD.alloc _).grown hg (fun e => by have := hlo _ e.symm; omega)⟩, by simp [intOf]⟩
    · simp only [Int.cast_ofNat_Int] at *
      obtain ⟨A, c, rfl, hA, hc⟩ := hO.form2
      go_wp2_with (go_at_call 66; refine (list_any A c (clsW 5) wr hA hc (by decide) (by decide +kernel)).mono ?_; rintro e w1 ⟨rfl, hb⟩)
      go_ret
      exact ⟨rfl, hbr.trans (hb.mono hbr.size)⟩

set_option maxHeartbeats 2000000 in
theorem classes_prog6 (w : World) :
    Calls Tryz.prog 73 #[.int .i64 6] w fun e w' => e = .returned (.string (joinS (clsW 6) (⟨#[44, 32]⟩ : ByteArray))) ∧ Below w.heap.size w w' := by
  go_enter Tryz.func73, Tryz.ntmps73
  go_wp2_with fail
  go_loopw [3, 8] (fun v i wr => ∃ j : Nat, j ≤ 3 ∧ i = .int .i64 j ∧ OwnS (w.heap.size + 1) wr v (clsTo 6 j) ∧ Below w.heap.size w wr ∧ w.heap.size < wr.heap.size ∧ Blk wr w.heap.size 9 #[.string (⟨#[109, 97, 99, 104, 105, 110, 101]⟩ : ByteArray), .string (⟨#[114, 97, 99, 107]⟩ : ByteArray), .string (⟨#[102, 101, 101, 100]⟩ : ByteArray)]) (fun _ i _ => 3 - (intOf i).toNat)
  case atStart => exact ⟨0, Nat.zero_le _, rfl, OwnS.nil_ _ _, (Below.refl _ _).alloc (Nat.le_refl _) _, by simp, Blk.new _ _ _⟩
  case round =>
    obtain ⟨j, hj, rfl, hO, hbr, hsz, hD⟩ := hrel
    have d0 := hD.cell 0
    have d1 := hD.cell 1
    have d2 := hD.cell 2
    simp at d0 d1 d2
    have hj3 : j = 0 ∨ j = 1 ∨ j = 2 ∨ j = 3 := by omega
    clear hj
    rcases hj3 with rfl | rfl | rfl | rfl
    · simp only [Int.cast_ofNat_Int] at *
      go_wp2_with fail
      exact ⟨⟨1, by omega, by go_num, hO, hbr, hsz, hD⟩, by simp [intOf]⟩
    · simp only [Int.cast_ofNat_Int] at *
      go_wp2_with (at_builtin; refine append_strs rfl _ _ rfl (w.heap.size + 1) u3 (clsTo 6 1) rfl (hO.alloc _) _ _ 1 [(⟨#[114, 97, 99, 107]⟩ : ByteArray)] rfl (Strs.newRow wr 9 [(⟨#[114, 97, 99, 107]⟩ : ByteArray)]) (by decide) (by simp; omega) ?_; intro v3 w3 hO3 hg3 _)
      have hg : (wr.alloc (.cells #[.string (⟨#[114, 97, 99, 107]⟩ : ByteArray)] 9)).grownBy w3 u3.ownBlock := hg3
      have hlo := hO.lt
      have hs3 := hg.size
      simp at hs3
      exact ⟨⟨2, by omega, by go_num, hO3, (hbr.alloc hbr.size _).grown hg (by simp; omega) (fun q hq => by have := hlo q hq; omega), by omega, (hD.alloc _).grown hg (fun e => by have := hlo _ e.symm; omega)⟩, by simp [intOf]⟩
    · simp only [Int.cast_ofNat_Int] at *
      go_wp2_with (at_builtin; refine append_strs rfl _ _ rfl (w.heap.size + 1) u3 (clsTo 6 2) rfl (hO.alloc _) _ _ 1 [(⟨#[102, 101, 101, 100]⟩ : ByteArray)] rfl (Strs.newRow wr 9 [(⟨#[102, 101, 101, 100]⟩ : ByteArray)]) (by decide) (by simp; omega) ?_; intro v3 w3 hO3 hg3 _)
      have hg : (wr.alloc (.cells #[.string (⟨#[102, 101, 101, 100]⟩ : ByteArray)] 9)).grownBy w3 u3.ownBlock := hg3
      have hlo := hO.lt
      have hs3 := hg.size
      simp at hs3
      exact ⟨⟨3, by omega, by go_num, hO3, (hbr.alloc hbr.size _).grown hg (by simp; omega) (fun q hq => by have := hlo q hq; omega), by omega, (hD.alloc _).grown hg (fun e => by have := hlo _ e.symm; omega)⟩, by simp [intOf]⟩
    · simp only [Int.cast_ofNat_Int] at *
      obtain ⟨A, c, rfl, hA, hc⟩ := hO.form2
      go_wp2_with (go_at_call 66; refine (list_any A c (clsW 6) wr hA hc (by decide) (by decide +kernel)).mono ?_; rintro e w1 ⟨rfl, hb⟩)
      go_ret
      exact ⟨rfl, hbr.trans (hb.mono hbr.size)⟩

set_option maxHeartbeats 2000000 in
theorem classes_prog7 (w : World) :
    Calls Tryz.prog 73 #[.int .i64 7] w fun e w' => e = .returned (.string (joinS (clsW 7) (⟨#[44, 32]⟩ : ByteArray))) ∧ Below w.heap.size w w' := by
  go_enter Tryz.func73, Tryz.ntmps73
  go_wp2_with fail
  go_loopw [3, 8] (fun v i wr => ∃ j : Nat, j ≤ 3 ∧ i = .int .i64 j ∧ OwnS (w.heap.size + 1) wr v (clsTo 7 j) ∧ Below w.heap.size w wr ∧ w.heap.size < wr.heap.size ∧ Blk wr w.heap.size 9 #[.string (⟨#[109, 97, 99, 104, 105, 110, 101]⟩ : ByteArray), .string (⟨#[114, 97, 99, 107]⟩ : ByteArray), .string (⟨#[102, 101, 101, 100]⟩ : ByteArray)]) (fun _ i _ => 3 - (intOf i).toNat)
  case atStart => exact ⟨0, Nat.zero_le _, rfl, OwnS.nil_ _ _, (Below.refl _ _).alloc (Nat.le_refl _) _, by simp, Blk.new _ _ _⟩
  case round =>
    obtain ⟨j, hj, rfl, hO, hbr, hsz, hD⟩ := hrel
    have d0 := hD.cell 0
    have d1 := hD.cell 1
    have d2 := hD.cell 2
    simp at d0 d1 d2
    have hj3 : j = 0 ∨ j = 1 ∨ j = 2 ∨ j = 3 := by omega
    clear hj
    rcases hj3 with rfl | rfl | rfl | rfl
    · simp only [Int.cast_ofNat_Int] at *
      go_wp2_with (at_builtin; refine append_strs rfl _ _ rfl (w.heap.size + 1) u3 (clsTo 7 0) rfl (hO.alloc _) _ _ 1 [(⟨#[109, 97, 99, 104, 105, 110, 101]⟩ : ByteArray)] rfl (Strs.newRow wr 9 [(⟨#[109, 97, 99, 104, 105, 110, 101]⟩ : ByteArray)]) (by decide) (by simp; omega) ?_; intro v3 w3 hO3 hg3 _)
      have hg : (wr.alloc (.cells #[.string (⟨#[109, 97, 99, 104, 105, 110, 101]⟩ : ByteArray)] 9)).grownBy w3 u3.ownBlock := hg3
      have hlo := hO.lt
      have hs3 := hg.size
      simp at hs3
      exact ⟨⟨1, by omega, by go_num, hO3, (hbr.alloc hbr.size _).grown hg (by simp; omega) (fun q hq => by have := hlo q hq; omega), by omega, (hD.alloc _).grown hg (fun e => by have := hlo _ e.symm; omega)⟩, by simp [intOf]⟩
    · simp only [Int.cast_ofNat_Int] at *
      go_wp2_with (at_builtin; refine append_strs rfl _ _ rfl (w.heap.size + 1) u3 (clsTo 7 1) rfl (hO.alloc _) _ _ 1 [(⟨#[114, 97, 99, 107]⟩ : ByteArray)] rfl (Strs.newRow wr 9 [(⟨#[114, 97, 99, 107]⟩ : ByteArray)]) (by decide) (by simp; omega) ?_; intro v3 w3 hO3 hg3 _)
      have hg : (wr.alloc (.cells #[.string (⟨#[114, 97, 99, 107]⟩ : ByteArray)] 9)).grownBy w3 u3.ownBlock := hg3
      have hlo := hO.lt
      have hs3 := hg.size
      simp at hs3
      exact ⟨⟨2, by omega, by go_num, hO3, (hbr.alloc hbr.size _).grown hg (by simp; omega) (fun q hq => by have := hlo q hq; omega), by omega, (hD.alloc _).grown hg (fun e => by have := hlo _ e.symm; omega)⟩, by simp [intOf]⟩
    · simp only [Int.cast_ofNat_Int] at *
      go_wp2_with (at_builtin; refine append_strs rfl _ _ rfl (w.heap.size + 1) u3 (clsTo 7 2) rfl (hO.alloc _) _ _ 1 [(⟨#[102, 101, 101, 100]⟩ : ByteArray)] rfl (Strs.newRow wr 9 [(⟨#[102, 101, 101, 100]⟩ : ByteArray)]) (by decide) (by simp; omega) ?_; intro v3 w3 hO3 hg3 _)
      have hg : (wr.alloc (.cells #[.string (⟨#[102, 101, 101, 100]⟩ : ByteArray)] 9)).grownBy w3 u3.ownBlock := hg3
      have hlo := hO.lt
      have hs3 := hg.size
      simp at hs3
      exact ⟨⟨3, by omega, by go_num, hO3, (hbr.alloc hbr.size _).grown hg (by simp; omega) (fun q hq => by have := hlo q hq; omega), by omega, (hD.alloc _).grown hg (fun e => by have := hlo _ e.symm; omega)⟩, by simp [intOf]⟩
    · simp only [Int.cast_ofNat_Int] at *
      obtain ⟨A, c, rfl, hA, hc⟩ := hO.form2
      go_wp2_with (go_at_call 66; refine (list_any A c (clsW 7) wr hA hc (by decide) (by decide +kernel)).mono ?_; rintro e w1 ⟨rfl, hb⟩)
      go_ret
      exact ⟨rfl, hbr.trans (hb.mono hbr.size)⟩
end Go.Proofs.YtanhkeeifnimgaaGreatDoor
