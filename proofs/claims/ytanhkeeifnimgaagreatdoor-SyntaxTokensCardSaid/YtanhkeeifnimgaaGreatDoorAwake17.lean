/- The walk of exoduslaw17's awake: it answers true. Conditions: the tables are laid. -/
import Derived.Test.YtanhkeeifnimgaaGreatDoorSyn17u
import Derived.Test.YtanhkeeifnimgaaGreatDoorSyn17r
namespace Go.Proofs.YtanhkeeifnimgaaGreatDoor
open Go Go.RowKit Go.Proofs

def awD : Decl := ⟨6, (⟨#[119, 101, 98]⟩ : ByteArray), [(⟨#[109, 49]⟩ : ByteArray), (⟨#[109, 50]⟩ : ByteArray)], [2, 1, 0, 5], 0, false⟩
theorem aw_valid : validB 6 (⟨#[119, 101, 98]⟩ : ByteArray) [(⟨#[109, 49]⟩ : ByteArray), (⟨#[109, 50]⟩ : ByteArray)] [2, 1, 0, 5] 0 false = true := by decide +kernel
def awText : ByteArray := (⟨#[112, 111, 111, 108, 32, 119, 101, 98, 32, 50, 32, 111, 110, 32, 109, 49, 44, 32, 109, 50, 32, 108, 111, 97, 100, 32, 49, 32, 115, 105, 122, 101, 32, 48, 32, 115, 104, 97, 114, 101, 32, 53, 59]⟩ : ByteArray)
theorem aw_text : textB 6 (⟨#[119, 101, 98]⟩ : ByteArray) [(⟨#[109, 49]⟩ : ByteArray), (⟨#[109, 50]⟩ : ByteArray)] [2, 1, 0, 5] 0 false = awText := by decide +kernel
theorem aw_format : S (formatL [awD]) = awText ++ (⟨#[10]⟩ : ByteArray) := by decide +kernel
theorem aw_same : sameL [awD] [awD] = true := by decide +kernel
theorem aw_kind : kindName 6 = (⟨#[112, 111, 111, 108]⟩ : ByteArray) := by decide +kernel

/-- a slice of one declaration, just built -/
theorem Decls.new1 (w : World) (d : Decl) (ra : Option Addr) (rc : Nat) (na : Option Addr) (nc : Nat) (hrc : d.refs.length ≤ rc ∧ d.nums.length ≤ nc) (hr : Strs w w.heap.size ra d.refs) (hn : Ints w w.heap.size na d.nums) (hf : Fine d) (t : TypeId) :
    Decls (w.alloc (.cells (declCells d ra rc na nc).toArray t)) (w.heap.size + 1) (some ⟨w.heap.size, 0, none⟩) [d] := by
  intro i hi
  obtain rfl : i = 0 := by simp at hi; omega
  refine ⟨_, rfl, by simp, ra, rc, na, nc, fun j u hu => ?_, hrc, (hr.alloc (Nat.le_refl _) _).more (by omega), (hn.alloc (Nat.le_refl _) _).more (by omega), hf⟩
  rw [Nat.zero_mul, add_of_add, Nat.zero_add, add_none, Nat.zero_add, cell?_new]
  simpa using hu
theorem aw_fine : Fine awD := ⟨by decide, by decide, by decide, by decide⟩

set_option maxRecDepth 100000 in
set_option maxHeartbeats 4000000 in
theorem awake17 (w : World) (ha : Asc w) (hp : Pow w) : Calls Tryz.prog 8 #[] w fun e w' => e = .returned (.bool true) ∧ Below w.heap.size w w' := by
  have HA := hide ha
  have HP := hide hp
  clear ha hp
  go_enter Tryz.func8, Tryz.ntmps8
  go_wp2_with fail
  have hD0 := Blk.new ((w.alloc (.cells #[.string (⟨#[109, 49]⟩ : ByteArray), .string (⟨#[109, 50]⟩ : ByteArray)] 9)).alloc (.cells #[.int .i64 2, .int .i64 1, .int .i64 0, .int .i64 5] 3)) 25 #[.int .i64 6, .string (⟨#[119, 101, 98]⟩ : ByteArray), .slice (some ⟨w.heap.size, 0, none⟩) 2 2, .slice (some ⟨w.heap.size + 1, 0, none⟩) 4 4, .int .i64 0, .bool false]
  have hR0 := Strs.newRow w 9 [(⟨#[109, 49]⟩ : ByteArray), (⟨#[109, 50]⟩ : ByteArray)]
  have hN0 := Reads.newRow (w.alloc (.cells #[.string (⟨#[109, 49]⟩ : ByteArray), .string (⟨#[109, 50]⟩ : ByteArray)] 9)) #[.int .i64 2, .int .i64 1, .int .i64 0, .int .i64 5] 3 4 1 rfl
  have hb0 : Below w.heap.size w (((w.alloc (.cells #[.string (⟨#[109, 49]⟩ : ByteArray), .string (⟨#[109, 50]⟩ : ByteArray)] 9)).alloc (.cells #[.int .i64 2, .int .i64 1, .int .i64 0, .int .i64 5] 3)).alloc (.cells #[.int .i64 6, .string (⟨#[119, 101, 98]⟩ : ByteArray), .slice (some ⟨w.heap.size, 0, none⟩) 2 2, .slice (some ⟨w.heap.size + 1, 0, none⟩) 4 4, .int .i64 0, .bool false] 25)) := (((Below.refl _ _).alloc (Nat.le_refl _) _).alloc (by simp) _).alloc (by simp; omega) _
  have hR1 : Strs (((w.alloc (.cells #[.string (⟨#[109, 49]⟩ : ByteArray), .string (⟨#[109, 50]⟩ : ByteArray)] 9)).alloc (.cells #[.int .i64 2, .int .i64 1, .int .i64 0, .int .i64 5] 3)).alloc (.cells #[.int .i64 6, .string (⟨#[119, 101, 98]⟩ : ByteArray), .slice (some ⟨w.heap.size, 0, none⟩) 2 2, .slice (some ⟨w.heap.size + 1, 0, none⟩) 4 4, .int .i64 0, .bool false] 25)) (w.heap.size + 1) (some ⟨w.heap.size, 0, none⟩) awD.refs :=
    Reads.alloc (Reads.alloc hR0 (by simp) _) (by simp) _
  have hN1 : Ints (((w.alloc (.cells #[.string (⟨#[109, 49]⟩ : ByteArray), .string (⟨#[109, 50]⟩ : ByteArray)] 9)).alloc (.cells #[.int .i64 2, .int .i64 1, .int .i64 0, .int .i64 5] 3)).alloc (.cells #[.int .i64 6, .string (⟨#[119, 101, 98]⟩ : ByteArray), .slice (some ⟨w.heap.size, 0, none⟩) 2 2, .slice (some ⟨w.heap.size + 1, 0, none⟩) 4 4, .int .i64 0, .bool false] 25)) (w.heap.size + 1 + 1) (some ⟨w.heap.size + 1, 0, none⟩) awD.nums := by
    have := Reads.alloc hN0 (by simp) (.cells #[.int .i64 6, .string (⟨#[119, 101, 98]⟩ : ByteArray), .slice (some ⟨w.heap.size, 0, none⟩) 2 2, .slice (some ⟨w.heap.size + 1, 0, none⟩) 4 4, .int .i64 0, .bool false] 25)
    simp at this
    exact this
  simp at hD0
  clear hR0 hN0
  generalize hW : (((w.alloc (.cells #[.string (⟨#[109, 49]⟩ : ByteArray), .string (⟨#[109, 50]⟩ : ByteArray)] 9)).alloc (.cells #[.int .i64 2, .int .i64 1, .int .i64 0, .int .i64 5] 3)).alloc (.cells #[.int .i64 6, .string (⟨#[119, 101, 98]⟩ : ByteArray), .slice (some ⟨w.heap.size, 0, none⟩) 2 2, .slice (some ⟨w.heap.size + 1, 0, none⟩) 4 4, .int .i64 0, .bool false] 25)) = W at *
  have hR1 := hR1.more (B' := W.heap.size) (by rw [← hW]; simp <;> omega)
  have hN1 := hN1.more (B' := W.heap.size) (by rw [← hW]; simp)
  have hDl : w.heap.size + 1 + 1 < W.heap.size := hD0.lt
  clear hW
  have d0 := hD0.cell 0
  have d1 := hD0.cell 1
  have d2 := hD0.cell 2
  have d3 := hD0.cell 3
  have d4 := hD0.cell 4
  have d5 := hD0.cell 5
  simp at d0 d1 d2 d3 d4 d5
  have hv0 : validB 6 (⟨#[119, 101, 98]⟩ : ByteArray) awD.refs awD.nums 0 false = true := aw_valid
  have ht0 : textB 6 (⟨#[119, 101, 98]⟩ : ByteArray) awD.refs awD.nums 0 false = ((⟨#[112, 111, 111, 108, 32, 119, 101, 98, 32, 50, 32, 111, 110, 32, 109, 49, 44, 32, 109, 50, 32, 108, 111, 97, 100, 32, 49, 32, 115, 105, 122, 101, 32, 48, 32, 115, 104, 97, 114, 101, 32, 53, 59]⟩ : ByteArray) : ByteArray) := aw_text
  have HV := (fun X hX hR hN => valid_prog 6 (⟨#[119, 101, 98]⟩ : ByteArray) (some ⟨w.heap.size, 0, none⟩) awD.refs 2 (some ⟨w.heap.size + 1, 0, none⟩) awD.nums 4 0 false X hX (by decide) aw_fine.2.1 (by decide) (by decide) hR hN)
  rw [hv0] at HV
  have HV := hide HV
  have HT := (fun X hX hP hR hN => text_prog 6 (⟨#[119, 101, 98]⟩ : ByteArray) (some ⟨w.heap.size, 0, none⟩) awD.refs 2 (some ⟨w.heap.size + 1, 0, none⟩) awD.nums 4 0 false X hX hP (by decide) aw_fine.2.1 (by decide) (by decide) (by decide) hR hN)
  rw [ht0] at HT
  have HT := hide HT
  have HK := (fun X => kindName_prog 6 X)
  rw [aw_kind] at HK
  have HK := hide HK
  have hf0 : S (formatL [awD]) = ((⟨#[112, 111, 111, 108, 32, 119, 101, 98, 32, 50, 32, 111, 110, 32, 109, 49, 44, 32, 109, 50, 32, 108, 111, 97, 100, 32, 49, 32, 115, 105, 122, 101, 32, 48, 32, 115, 104, 97, 114, 101, 32, 53, 59]⟩ : ByteArray) : ByteArray) ++ (⟨#[10]⟩ : ByteArray) := aw_format
  have HF := (fun X a hX hP h => format_prog a 1 [awD] X hX hP h (by decide))
  rw [hf0] at HF
  have HF := hide HF
  have q1 : ∀ W, (Op.stringOp .add ((⟨#[112, 111, 111, 108, 32, 119, 101, 98, 32, 50, 32, 111, 110, 32, 109, 49, 44, 32, 109, 50, 32, 108, 111, 97, 100, 32, 49, 32, 115, 105, 122, 101, 32, 48, 32, 115, 104, 97, 114, 101, 32, 53, 59]⟩ : ByteArray) : ByteArray) (⟨#[10]⟩ : ByteArray)).run Tryz.prog W = .ok (.string (((⟨#[112, 111, 111, 108, 32, 119, 101, 98, 32, 50, 32, 111, 110, 32, 109, 49, 44, 32, 109, 50, 32, 108, 111, 97, 100, 32, 49, 32, 115, 105, 122, 101, 32, 48, 32, 115, 104, 97, 114, 101, 32, 53, 59]⟩ : ByteArray) : ByteArray) ++ (⟨#[10]⟩ : ByteArray))) W := fun W => run_string_add_sum W _ _ (by decide)
  clear hv0 ht0 hf0
  go_region_held3 (fun X => X.cell? ⟨w.heap.size + 1 + 1, 0, none⟩ = some (.int .i64 6) ∧ X.cell? ⟨w.heap.size + 1 + 1, 1, none⟩ = some (.string (⟨#[119, 101, 98]⟩ : ByteArray)) ∧ X.cell? ⟨w.heap.size + 1 + 1, 2, none⟩ = some (.slice (some ⟨w.heap.size, 0, none⟩) 2 2) ∧ X.cell? ⟨w.heap.size + 1 + 1, 3, none⟩ = some (.slice (some ⟨w.heap.size + 1, 0, none⟩) 4 4) ∧ X.cell? ⟨w.heap.size + 1 + 1, 4, none⟩ = some (.int .i64 0) ∧ X.cell? ⟨w.heap.size + 1 + 1, 5, none⟩ = some (.bool false) ∧ w.heap.size + 1 + 1 < X.heap.size ∧ Below W.heap.size W X)
    (refine ⟨?_, ?_, ?_, ?_, ?_, ?_, ?_, ?_⟩ <;> (first | assumption | exact (World.cell?_alloc_lt _ _ _ cz).trans (by assumption) | (simp; done) | (simp; omega) | exact (Below.refl _ _).drew | exact hS1.alloc hS1.size _ | exact (World.cell?_alloc_lt _ _ _ (by simp; omega)).trans ((World.cell?_alloc_lt _ _ _ cz).trans (by assumption)) | exact (hS1.alloc hS1.size _).alloc (by have := hS1.size; simp; omega) _ | (trace_state; fail)))
    (first
      | (go_at_call 23; have hH := (by assumption : _ ∧ _ ∧ _ ∧ _ ∧ _ ∧ _ ∧ w.heap.size + 1 + 1 < _ ∧ Below W.heap.size W _); obtain ⟨a0, a1, a2, a3, a4, a5, az, hS⟩ := hH; have hSt := (hR1.below hS).more hS.size; have hSn := (hN1.below hS).more hS.size;  refine (HV.out _ (Asc.below HA.out (Nat.le_refl _) (hb0.trans (hS.mono hb0.size))) hSt hSn).mono ?_; rintro e x1 ⟨rfl, hb⟩; have c0 := (hb.cell (p := ⟨w.heap.size + 1 + 1, 0, none⟩) az).trans a0; have c1 := (hb.cell (p := ⟨w.heap.size + 1 + 1, 1, none⟩) az).trans a1; have c2 := (hb.cell (p := ⟨w.heap.size + 1 + 1, 2, none⟩) az).trans a2; have c3 := (hb.cell (p := ⟨w.heap.size + 1 + 1, 3, none⟩) az).trans a3; have c4 := (hb.cell (p := ⟨w.heap.size + 1 + 1, 4, none⟩) az).trans a4; have c5 := (hb.cell (p := ⟨w.heap.size + 1 + 1, 5, none⟩) az).trans a5; have cz := Nat.lt_of_lt_of_le az hb.size; have hS1 := hS.trans (hb.mono hS.size); clear a0 a1 a2 a3 a4 a5 az hS hb)
      | (go_at_call 11; have hH := (by assumption : _ ∧ _ ∧ _ ∧ _ ∧ _ ∧ _ ∧ w.heap.size + 1 + 1 < _ ∧ Below W.heap.size W _); obtain ⟨a0, a1, a2, a3, a4, a5, az, hS⟩ := hH; have hSt := (hR1.below hS).more hS.size; have hSn := (hN1.below hS).more hS.size;  refine (HT.out _ (Asc.below HA.out (Nat.le_refl _) (hb0.trans (hS.mono hb0.size))) (Pow.below HP.out (Nat.le_refl _) (hb0.trans (hS.mono hb0.size))) hSt hSn).mono ?_; rintro e x2 ⟨rfl, hb⟩; have c0 := (hb.cell (p := ⟨w.heap.size + 1 + 1, 0, none⟩) az).trans a0; have c1 := (hb.cell (p := ⟨w.heap.size + 1 + 1, 1, none⟩) az).trans a1; have c2 := (hb.cell (p := ⟨w.heap.size + 1 + 1, 2, none⟩) az).trans a2; have c3 := (hb.cell (p := ⟨w.heap.size + 1 + 1, 3, none⟩) az).trans a3; have c4 := (hb.cell (p := ⟨w.heap.size + 1 + 1, 4, none⟩) az).trans a4; have c5 := (hb.cell (p := ⟨w.heap.size + 1 + 1, 5, none⟩) az).trans a5; have cz := Nat.lt_of_lt_of_le az hb.size; have hS1 := hS.trans (hb.mono hS.size); clear a0 a1 a2 a3 a4 a5 az hS hb)
      | (go_at_call 15; have hH := (by assumption : _ ∧ _ ∧ _ ∧ _ ∧ _ ∧ _ ∧ w.heap.size + 1 + 1 < _ ∧ Below W.heap.size W _); obtain ⟨a0, a1, a2, a3, a4, a5, az, hS⟩ := hH; have hSt := (hR1.below hS).more hS.size; have hSn := (hN1.below hS).more hS.size;  refine (HK.out _).mono ?_; rintro e x3 ⟨rfl, hb⟩; have c0 := (hb.cell (p := ⟨w.heap.size + 1 + 1, 0, none⟩) az).trans a0; have c1 := (hb.cell (p := ⟨w.heap.size + 1 + 1, 1, none⟩) az).trans a1; have c2 := (hb.cell (p := ⟨w.heap.size + 1 + 1, 2, none⟩) az).trans a2; have c3 := (hb.cell (p := ⟨w.heap.size + 1 + 1, 3, none⟩) az).trans a3; have c4 := (hb.cell (p := ⟨w.heap.size + 1 + 1, 4, none⟩) az).trans a4; have c5 := (hb.cell (p := ⟨w.heap.size + 1 + 1, 5, none⟩) az).trans a5; have cz := Nat.lt_of_lt_of_le az hb.size; have hS1 := hS.trans (hb.mono hS.size); clear a0 a1 a2 a3 a4 a5 az hS hb; have hr3 := (hR1.below hS1).more hS1.size; have hn3 := (hN1.below hS1).more hS1.size; have M1 : Decls ((x3.alloc (.cells #[.int .i64 6, .string (⟨#[119, 101, 98]⟩ : ByteArray), .slice (some ⟨w.heap.size, 0, none⟩) 2 2, .slice (some ⟨w.heap.size + 1, 0, none⟩) 4 4, .int .i64 0, .bool false] 25)).alloc (.cells #[.int .i64 6, .string (⟨#[119, 101, 98]⟩ : ByteArray), .slice (some ⟨w.heap.size, 0, none⟩) 2 2, .slice (some ⟨w.heap.size + 1, 0, none⟩) 4 4, .int .i64 0, .bool false] 25)) (x3.heap.size + 1 + 1) (some ⟨x3.heap.size, 0, none⟩) [awD] := (Decls.keep (Decls.new1 x3 awD (some ⟨w.heap.size, 0, none⟩) 2 (some ⟨w.heap.size + 1, 0, none⟩) 4 (by decide) hr3 hn3 aw_fine 25) (fun p hp => World.cell?_alloc_lt _ _ _ (by simp; omega))).more (by omega); have M2 : Decls ((x3.alloc (.cells #[.int .i64 6, .string (⟨#[119, 101, 98]⟩ : ByteArray), .slice (some ⟨w.heap.size, 0, none⟩) 2 2, .slice (some ⟨w.heap.size + 1, 0, none⟩) 4 4, .int .i64 0, .bool false] 25)).alloc (.cells #[.int .i64 6, .string (⟨#[119, 101, 98]⟩ : ByteArray), .slice (some ⟨w.heap.size, 0, none⟩) 2 2, .slice (some ⟨w.heap.size + 1, 0, none⟩) 4 4, .int .i64 0, .bool false] 25)) (x3.heap.size + 1 + 1) (some ⟨x3.heap.size + 1, 0, none⟩) [awD] := (by have := Decls.new1 (x3.alloc (.cells #[.int .i64 6, .string (⟨#[119, 101, 98]⟩ : ByteArray), .slice (some ⟨w.heap.size, 0, none⟩) 2 2, .slice (some ⟨w.heap.size + 1, 0, none⟩) 4 4, .int .i64 0, .bool false] 25)) awD (some ⟨w.heap.size, 0, none⟩) 2 (some ⟨w.heap.size + 1, 0, none⟩) 4 (by decide) ((Reads.alloc hr3 (Nat.le_refl _) _).more (by simp)) ((Reads.alloc hn3 (Nat.le_refl _) _).more (by simp)) aw_fine 25; rw [show (x3.alloc (.cells #[.int .i64 6, .string (⟨#[119, 101, 98]⟩ : ByteArray), .slice (some ⟨w.heap.size, 0, none⟩) 2 2, .slice (some ⟨w.heap.size + 1, 0, none⟩) 4 4, .int .i64 0, .bool false] 25)).heap.size = x3.heap.size + 1 by simp] at this; exact this); have K1 := hide M1; have K2 := hide M2; clear M1 M2 hr3 hn3)
      | (go_at_call 24; have hH := (by assumption : _ ∧ _ ∧ _ ∧ _ ∧ _ ∧ _ ∧ w.heap.size + 1 + 1 < _ ∧ Below W.heap.size W _); obtain ⟨a0, a1, a2, a3, a4, a5, az, hS⟩ := hH; have hSt := (hR1.below hS).more hS.size; have hSn := (hN1.below hS).more hS.size;  refine (same_prog _ _ 1 1 [awD] [awD] _ (by first | exact Decls.more K1.out (by simp) | exact Decls.more K2.out (by simp)) (by first | exact Decls.more K1.out (by simp) | exact Decls.more K2.out (by simp)) (by decide) (by decide)).mono ?_; rintro e x4 ⟨rfl, hb⟩; have c0 := (hb.cell (p := ⟨w.heap.size + 1 + 1, 0, none⟩) az).trans a0; have c1 := (hb.cell (p := ⟨w.heap.size + 1 + 1, 1, none⟩) az).trans a1; have c2 := (hb.cell (p := ⟨w.heap.size + 1 + 1, 2, none⟩) az).trans a2; have c3 := (hb.cell (p := ⟨w.heap.size + 1 + 1, 3, none⟩) az).trans a3; have c4 := (hb.cell (p := ⟨w.heap.size + 1 + 1, 4, none⟩) az).trans a4; have c5 := (hb.cell (p := ⟨w.heap.size + 1 + 1, 5, none⟩) az).trans a5; have cz := Nat.lt_of_lt_of_le az hb.size; have hS1 := hS.trans (hb.mono hS.size); clear a0 a1 a2 a3 a4 a5 az hS hb; have hr4 := (hR1.below hS1).more hS1.size; have hn4 := (hN1.below hS1).more hS1.size)
      | (go_at_call 20; have hH := (by assumption : _ ∧ _ ∧ _ ∧ _ ∧ _ ∧ _ ∧ w.heap.size + 1 + 1 < _ ∧ Below W.heap.size W _); obtain ⟨a0, a1, a2, a3, a4, a5, az, hS⟩ := hH; have hSt := (hR1.below hS).more hS.size; have hSn := (hN1.below hS).more hS.size;  refine (HF.out _ _ (Asc.below HA.out (Nat.le_refl _) (hb0.trans (hS.mono hb0.size))) (Pow.below HP.out (Nat.le_refl _) (hb0.trans (hS.mono hb0.size))) ((Decls.new1 x4 awD (some ⟨w.heap.size, 0, none⟩) 2 (some ⟨w.heap.size + 1, 0, none⟩) 4 (by decide) hr4 hn4 aw_fine 25).more (by simp))).mono ?_; rintro e x5 ⟨rfl, hb⟩; have c0 := (hb.cell (p := ⟨w.heap.size + 1 + 1, 0, none⟩) az).trans a0; have c1 := (hb.cell (p := ⟨w.heap.size + 1 + 1, 1, none⟩) az).trans a1; have c2 := (hb.cell (p := ⟨w.heap.size + 1 + 1, 2, none⟩) az).trans a2; have c3 := (hb.cell (p := ⟨w.heap.size + 1 + 1, 3, none⟩) az).trans a3; have c4 := (hb.cell (p := ⟨w.heap.size + 1 + 1, 4, none⟩) az).trans a4; have c5 := (hb.cell (p := ⟨w.heap.size + 1 + 1, 5, none⟩) az).trans a5; have cz := Nat.lt_of_lt_of_le az hb.size; have hS1 := hS.trans (hb.mono hS.size); clear a0 a1 a2 a3 a4 a5 az hS hb))
  all_goals go_wp2_with fail
  all_goals go_ret
  all_goals exact ⟨rfl, hb0.trans (hS1.mono hb0.size)⟩
end Go.Proofs.YtanhkeeifnimgaaGreatDoor
