/- A part of the claim: see its last text. -/
import Derived.Test.YtlnjaemdelnceaaGreatDoorUK18

set_option maxRecDepth 100000
set_option maxHeartbeats 16000000
namespace Go.Proofs.YtlnjaemdelnceaaGreatDoor
open Go Go.RowKit Go.Proofs
theorem text_group (k : Int) (nm : ByteArray) (ra : Option Addr) (refs : List ByteArray) (rc : Nat) (na : Option Addr) (nums : List Int) (nc : Nat) (bY : Int) (al : Bool) (w : World) (hp : Pow w)
    (hr : Strs w w.heap.size ra refs) (hrc : refs.length ≤ rc) (hrl : refs.length ≤ 140737488355328) (hl2 : nums.length ≤ 9223372036854775807) (hall : nums.all numOk = true) (hn : Ints w w.heap.size na nums) (hj : (Lib.join (refs.map (·.data.toList)) [44, 32]).length ≤ 140737488355328) (hnum : 3 ≤ nums.length) :
    Calls Tryz.prog 157 #[.agg #[.int .i64 k, .string nm, .slice ra refs.length rc, .slice na nums.length nc, .int .i64 bY, .bool al]] w fun e w' => ∃ v, e = .returned v ∧ OwnS w.heap.size w' v ([nm, (⟨#[111, 110]⟩ : ByteArray), joinS refs (⟨#[44, 32]⟩ : ByteArray)] ++ loadW nums 0) ∧ Below w.heap.size w w' := by
 have HNUM := hide hnum
 clear hnum
 have hw3 : ([nm, (⟨#[111, 110]⟩ : ByteArray), joinS refs (⟨#[44, 32]⟩ : ByteArray)] : List ByteArray).length ≤ maxLen := by unfold maxLen; simp
 go_enter Tryz.func157, Tryz.ntmps157
 go_wp2_with fail
 go_region_held3 (fun W => W.cell? ⟨w.heap.size, 0, none⟩ = some (.int .i64 k) ∧ W.cell? ⟨w.heap.size, 1, none⟩ = some (.string nm) ∧ W.cell? ⟨w.heap.size, 2, none⟩ = some (.slice ra refs.length rc) ∧ W.cell? ⟨w.heap.size, 3, none⟩ = some (.slice na nums.length nc) ∧ W.cell? ⟨w.heap.size, 4, none⟩ = some (.int .i64 bY) ∧ W.cell? ⟨w.heap.size, 5, none⟩ = some (.bool al) ∧ w.heap.size < W.heap.size ∧ Below w.heap.size w W)
  (refine ⟨?_, ?_, ?_, ?_, ?_, ?_, ?_, ?_⟩ <;> (first | assumption | exact cell?_new _ _ _ _ | exact (World.cell?_alloc_lt _ _ _ cz).trans (by assumption) | (simp; done) | (simp; omega) | exact ((Below.refl _ _).alloc (Nat.le_refl _) _).drew | exact hS1.alloc hS1.size _))
  ((first | (go_at_call 158; have hH := (by assumption : _ ∧ _ ∧ _ ∧ _ ∧ _ ∧ _ ∧ w.heap.size < _ ∧ Below w.heap.size w _); refine (list_any ra rc refs _ ((hr.below hH.2.2.2.2.2.2.2).more hH.2.2.2.2.2.2.2.size) hrc hrl hj).mono ?_; rintro e wl ⟨rfl, hb⟩; obtain ⟨a0, a1, a2, a3, a4, a5, az, hS⟩ := hH; have c0 := (hb.cell (p := ⟨w.heap.size, 0, none⟩) az).trans a0; have c1 := (hb.cell (p := ⟨w.heap.size, 1, none⟩) az).trans a1; have c2 := (hb.cell (p := ⟨w.heap.size, 2, none⟩) az).trans a2; have c3 := (hb.cell (p := ⟨w.heap.size, 3, none⟩) az).trans a3; have c4 := (hb.cell (p := ⟨w.heap.size, 4, none⟩) az).trans a4; have c5 := (hb.cell (p := ⟨w.heap.size, 5, none⟩) az).trans a5; have cz := Nat.lt_of_lt_of_le az hb.size; have hS1 := hS.trans (hb.mono hS.size); have cB := hS1.size; clear a0 a1 a2 a3 a4 a5 az hS hb) | (go_at_call 159; have hH := (by assumption : _ ∧ _ ∧ _ ∧ _ ∧ _ ∧ _ ∧ w.heap.size < _ ∧ Below w.heap.size w _); refine (load_any k nm ra refs.length rc na nums nc bY al 0 _ (Pow.below hp (Nat.le_refl _) hH.2.2.2.2.2.2.2) (by have := HNUM.out; omega) hl2 hall ((hn.below hH.2.2.2.2.2.2.2).more hH.2.2.2.2.2.2.2.size)).mono ?_; rintro e wd ⟨v1, rfl, hO1, hb⟩; have hbL := hb; obtain ⟨a0, a1, a2, a3, a4, a5, az, hS⟩ := hH; have c0 := (hb.cell (p := ⟨w.heap.size, 0, none⟩) az).trans a0; have c1 := (hb.cell (p := ⟨w.heap.size, 1, none⟩) az).trans a1; have c2 := (hb.cell (p := ⟨w.heap.size, 2, none⟩) az).trans a2; have c3 := (hb.cell (p := ⟨w.heap.size, 3, none⟩) az).trans a3; have c4 := (hb.cell (p := ⟨w.heap.size, 4, none⟩) az).trans a4; have c5 := (hb.cell (p := ⟨w.heap.size, 5, none⟩) az).trans a5; have cz := Nat.lt_of_lt_of_le az hb.size; have hS1 := hS.trans (hb.mono hS.size); have cB := hS1.size; clear a0 a1 a2 a3 a4 a5 az hS hb) | (have hH := (by assumption : _ ∧ _ ∧ _ ∧ _ ∧ _ ∧ _ ∧ w.heap.size < _ ∧ Below w.heap.size w _); have hR := hO1.form; obtain ⟨RA, rc1, rfl, hR⟩ := hR; refine step_append_strs rfl (.tmp 8) (.tmp 10) rfl w.heap.size _ [nm, (⟨#[111, 110]⟩ : ByteArray), joinS refs (⟨#[44, 32]⟩ : ByteArray)] (by first | rfl | (simp [Act.eval, Act.put]; done) | (simp [Act.eval, Act.put]; rfl) | (simp [Act.eval]; rfl)) (by first | exact OwnS.new _ [nm, (⟨#[111, 110]⟩ : ByteArray), joinS refs (⟨#[44, 32]⟩ : ByteArray)] (by omega) hw3 | exact OwnS.below (OwnS.new _ [nm, (⟨#[111, 110]⟩ : ByteArray), joinS refs (⟨#[44, 32]⟩ : ByteArray)] (by omega) hw3) hbL | exact OwnS.new _ [nm, (⟨#[111, 110]⟩ : ByteArray), joinS refs (⟨#[44, 32]⟩ : ByteArray)] (by simp; omega) hw3 | exact OwnS.below (OwnS.new _ [nm, (⟨#[111, 110]⟩ : ByteArray), joinS refs (⟨#[44, 32]⟩ : ByteArray)] (by simp; omega) hw3) hbL) _ RA rc1 (loadW nums 0) (by first | rfl | (simp [Act.eval, Act.put]; done) | (simp [Act.eval, Act.put]; rfl) | (simp [Act.eval]; rfl)) (by first | exact hR | exact Reads.alloc hR (Nat.le_refl _) _) (by simp [loadW]) hH.2.2.2.2.2.2.2.size ?_; intro v9 w9 hFin hg _; obtain ⟨a0, a1, a2, a3, a4, a5, az, hS⟩ := hH; have c0 := (World.cell?_of_block (hg.block w.heap.size az (by intro e9; have e8 : w.heap.size = _ := Option.some.inj e9; first | omega | (simp at e8 <;> omega)))).trans a0; have c1 := (World.cell?_of_block (hg.block w.heap.size az (by intro e9; have e8 : w.heap.size = _ := Option.some.inj e9; first | omega | (simp at e8 <;> omega)))).trans a1; have c2 := (World.cell?_of_block (hg.block w.heap.size az (by intro e9; have e8 : w.heap.size = _ := Option.some.inj e9; first | omega | (simp at e8 <;> omega)))).trans a2; have c3 := (World.cell?_of_block (hg.block w.heap.size az (by intro e9; have e8 : w.heap.size = _ := Option.some.inj e9; first | omega | (simp at e8 <;> omega)))).trans a3; have c4 := (World.cell?_of_block (hg.block w.heap.size az (by intro e9; have e8 : w.heap.size = _ := Option.some.inj e9; first | omega | (simp at e8 <;> omega)))).trans a4; have c5 := (World.cell?_of_block (hg.block w.heap.size az (by intro e9; have e8 : w.heap.size = _ := Option.some.inj e9; first | omega | (simp at e8 <;> omega)))).trans a5; have cz := Nat.lt_of_lt_of_le az hg.size; have hS1 := hS.grown hg hS.size (by intro k9 hk9; have e8 : _ = k9 := Option.some.inj hk9; first | omega | (simp at e8 <;> omega)); have cB := hS1.size; clear a0 a1 a2 a3 a4 a5 az hS hg)))
 all_goals
  go_wp2_with fail
  go_ret
  exact ⟨_, rfl, hFin, hS1⟩
theorem text_pool (k : Int) (nm : ByteArray) (ra : Option Addr) (refs : List ByteArray) (rc : Nat) (na : Option Addr) (nums : List Int) (nc : Nat) (bY : Int) (al : Bool) (w : World) (hp : Pow w)
    (hr : Strs w w.heap.size ra refs) (hrc : refs.length ≤ rc) (hrl : refs.length ≤ 140737488355328) (hl2 : nums.length ≤ 9223372036854775807) (hall : nums.all numOk = true) (hn : Ints w w.heap.size na nums) (hj : (Lib.join (refs.map (·.data.toList)) [44, 32]).length ≤ 140737488355328) (hnum : 4 ≤ nums.length) :
    Calls Tryz.prog 160 #[.agg #[.int .i64 k, .string nm, .slice ra refs.length rc, .slice na nums.length nc, .int .i64 bY, .bool al]] w fun e w' => ∃ v, e = .returned v ∧ OwnS w.heap.size w' v ([nm, itoaS (nums.getD 0 0), (⟨#[111, 110]⟩ : ByteArray), joinS refs (⟨#[44, 32]⟩ : ByteArray)] ++ loadW nums 1) ∧ Below w.heap.size w w' := by
 have HNUM := hide hnum
 clear hnum
 have hw3 : ([nm, itoaS (nums.getD 0 0), (⟨#[111, 110]⟩ : ByteArray), joinS refs (⟨#[44, 32]⟩ : ByteArray)] : List ByteArray).length ≤ maxLen := by unfold maxLen; simp
 go_enter Tryz.func160, Tryz.ntmps160
 go_wp2_with fail
 go_region_held3 (fun W => W.cell? ⟨w.heap.size, 0, none⟩ = some (.int .i64 k) ∧ W.cell? ⟨w.heap.size, 1, none⟩ = some (.string nm) ∧ W.cell? ⟨w.heap.size, 2, none⟩ = some (.slice ra refs.length rc) ∧ W.cell? ⟨w.heap.size, 3, none⟩ = some (.slice na nums.length nc) ∧ W.cell? ⟨w.heap.size, 4, none⟩ = some (.int .i64 bY) ∧ W.cell? ⟨w.heap.size, 5, none⟩ = some (.bool al) ∧ w.heap.size < W.heap.size ∧ Below w.heap.size w W)
  (refine ⟨?_, ?_, ?_, ?_, ?_, ?_, ?_, ?_⟩ <;> (first | assumption | exact cell?_new _ _ _ _ | exact (World.cell?_alloc_lt _ _ _ cz).trans (by assumption) | (simp; done) | (simp; omega) | exact ((Below.refl _ _).alloc (Nat.le_refl _) _).drew | exact hS1.alloc hS1.size _))
  ((first | (go_at_call 154; have hH := (by assumption : _ ∧ _ ∧ _ ∧ _ ∧ _ ∧ _ ∧ w.heap.size < _ ∧ Below w.heap.size w _); refine (number_any k nm ra refs.length rc na nums nc bY al _ _ (Pow.below hp (Nat.le_refl _) hH.2.2.2.2.2.2.2) (by omega) (by have := HNUM.out; simp; omega) hall ((hn.below hH.2.2.2.2.2.2.2).more hH.2.2.2.2.2.2.2.size)).mono ?_; rintro e wn ⟨rfl, hb⟩; obtain ⟨a0, a1, a2, a3, a4, a5, az, hS⟩ := hH; have c0 := (hb.cell (p := ⟨w.heap.size, 0, none⟩) az).trans a0; have c1 := (hb.cell (p := ⟨w.heap.size, 1, none⟩) az).trans a1; have c2 := (hb.cell (p := ⟨w.heap.size, 2, none⟩) az).trans a2; have c3 := (hb.cell (p := ⟨w.heap.size, 3, none⟩) az).trans a3; have c4 := (hb.cell (p := ⟨w.heap.size, 4, none⟩) az).trans a4; have c5 := (hb.cell (p := ⟨w.heap.size, 5, none⟩) az).trans a5; have cz := Nat.lt_of_lt_of_le az hb.size; have hS1 := hS.trans (hb.mono hS.size); have cB := hS1.size; clear a0 a1 a2 a3 a4 a5 az hS hb) | (go_at_call 158; have hH := (by assumption : _ ∧ _ ∧ _ ∧ _ ∧ _ ∧ _ ∧ w.heap.size < _ ∧ Below w.heap.size w _); refine (list_any ra rc refs _ ((hr.below hH.2.2.2.2.2.2.2).more hH.2.2.2.2.2.2.2.size) hrc hrl hj).mono ?_; rintro e wl ⟨rfl, hb⟩; obtain ⟨a0, a1, a2, a3, a4, a5, az, hS⟩ := hH; have c0 := (hb.cell (p := ⟨w.heap.size, 0, none⟩) az).trans a0; have c1 := (hb.cell (p := ⟨w.heap.size, 1, none⟩) az).trans a1; have c2 := (hb.cell (p := ⟨w.heap.size, 2, none⟩) az).trans a2; have c3 := (hb.cell (p := ⟨w.heap.size, 3, none⟩) az).trans a3; have c4 := (hb.cell (p := ⟨w.heap.size, 4, none⟩) az).trans a4; have c5 := (hb.cell (p := ⟨w.heap.size, 5, none⟩) az).trans a5; have cz := Nat.lt_of_lt_of_le az hb.size; have hS1 := hS.trans (hb.mono hS.size); have cB := hS1.size; clear a0 a1 a2 a3 a4 a5 az hS hb) | (go_at_call 159; have hH := (by assumption : _ ∧ _ ∧ _ ∧ _ ∧ _ ∧ _ ∧ w.heap.size < _ ∧ Below w.heap.size w _); refine (load_any k nm ra refs.length rc na nums nc bY al 1 _ (Pow.below hp (Nat.le_refl _) hH.2.2.2.2.2.2.2) (by have := HNUM.out; omega) hl2 hall ((hn.below hH.2.2.2.2.2.2.2).more hH.2.2.2.2.2.2.2.size)).mono ?_; rintro e wd ⟨v1, rfl, hO1, hb⟩; have hbL := hb; obtain ⟨a0, a1, a2, a3, a4, a5, az, hS⟩ := hH; have c0 := (hb.cell (p := ⟨w.heap.size, 0, none⟩) az).trans a0; have c1 := (hb.cell (p := ⟨w.heap.size, 1, none⟩) az).trans a1; have c2 := (hb.cell (p := ⟨w.heap.size, 2, none⟩) az).trans a2; have c3 := (hb.cell (p := ⟨w.heap.size, 3, none⟩) az).trans a3; have c4 := (hb.cell (p := ⟨w.heap.size, 4, none⟩) az).trans a4; have c5 := (hb.cell (p := ⟨w.heap.size, 5, none⟩) az).trans a5; have cz := Nat.lt_of_lt_of_le az hb.size; have hS1 := hS.trans (hb.mono hS.size); have cB := hS1.size; clear a0 a1 a2 a3 a4 a5 az hS hb) | (have hH := (by assumption : _ ∧ _ ∧ _ ∧ _ ∧ _ ∧ _ ∧ w.heap.size < _ ∧ Below w.heap.size w _); have hR := hO1.form; obtain ⟨RA, rc1, rfl, hR⟩ := hR; refine step_append_strs rfl (.tmp 10) (.tmp 12) rfl w.heap.size _ [nm, itoaS (nums.getD 0 0), (⟨#[111, 110]⟩ : ByteArray), joinS refs (⟨#[44, 32]⟩ : ByteArray)] (by first | rfl | (simp [Act.eval, Act.put]; done) | (simp [Act.eval, Act.put]; rfl) | (simp [Act.eval]; rfl)) (by first | exact OwnS.new _ [nm, itoaS (nums.getD 0 0), (⟨#[111, 110]⟩ : ByteArray), joinS refs (⟨#[44, 32]⟩ : ByteArray)] (by omega) hw3 | exact OwnS.below (OwnS.new _ [nm, itoaS (nums.getD 0 0), (⟨#[111, 110]⟩ : ByteArray), joinS refs (⟨#[44, 32]⟩ : ByteArray)] (by omega) hw3) hbL | exact OwnS.new _ [nm, itoaS (nums.getD 0 0), (⟨#[111, 110]⟩ : ByteArray), joinS refs (⟨#[44, 32]⟩ : ByteArray)] (by simp; omega) hw3 | exact OwnS.below (OwnS.new _ [nm, itoaS (nums.getD 0 0), (⟨#[111, 110]⟩ : ByteArray), joinS refs (⟨#[44, 32]⟩ : ByteArray)] (by simp; omega) hw3) hbL) _ RA rc1 (loadW nums 1) (by first | rfl | (simp [Act.eval, Act.put]; done) | (simp [Act.eval, Act.put]; rfl) | (simp [Act.eval]; rfl)) (by first | exact hR | exact Reads.alloc hR (Nat.le_refl _) _) (by simp [loadW]) hH.2.2.2.2.2.2.2.size ?_; intro v9 w9 hFin hg _; obtain ⟨a0, a1, a2, a3, a4, a5, az, hS⟩ := hH; have c0 := (World.cell?_of_block (hg.block w.heap.size az (by intro e9; have e8 : w.heap.size = _ := Option.some.inj e9; first | omega | (simp at e8 <;> omega)))).trans a0; have c1 := (World.cell?_of_block (hg.block w.heap.size az (by intro e9; have e8 : w.heap.size = _ := Option.some.inj e9; first | omega | (simp at e8 <;> omega)))).trans a1; have c2 := (World.cell?_of_block (hg.block w.heap.size az (by intro e9; have e8 : w.heap.size = _ := Option.some.inj e9; first | omega | (simp at e8 <;> omega)))).trans a2; have c3 := (World.cell?_of_block (hg.block w.heap.size az (by intro e9; have e8 : w.heap.size = _ := Option.some.inj e9; first | omega | (simp at e8 <;> omega)))).trans a3; have c4 := (World.cell?_of_block (hg.block w.heap.size az (by intro e9; have e8 : w.heap.size = _ := Option.some.inj e9; first | omega | (simp at e8 <;> omega)))).trans a4; have c5 := (World.cell?_of_block (hg.block w.heap.size az (by intro e9; have e8 : w.heap.size = _ := Option.some.inj e9; first | omega | (simp at e8 <;> omega)))).trans a5; have cz := Nat.lt_of_lt_of_le az hg.size; have hS1 := hS.grown hg hS.size (by intro k9 hk9; have e8 : _ = k9 := Option.some.inj hk9; first | omega | (simp at e8 <;> omega)); have cB := hS1.size; clear a0 a1 a2 a3 a4 a5 az hS hg)))
 all_goals
  go_wp2_with fail
  go_ret
  exact ⟨_, rfl, hFin, hS1⟩
theorem text_job (k : Int) (nm : ByteArray) (ra : Option Addr) (refs : List ByteArray) (rc : Nat) (na : Option Addr) (nums : List Int) (nc : Nat) (bY : Int) (al : Bool) (w : World) (hp : Pow w)
    (hr : Strs w w.heap.size ra refs) (_hrc : refs.length ≤ rc) (hrl : refs.length ≤ 140737488355328) (hl2 : nums.length ≤ 9223372036854775807) (hall : nums.all numOk = true) (hn : Ints w w.heap.size na nums) (hlen : 1 ≤ refs.length) (hnum : 3 ≤ nums.length) :
    Calls Tryz.prog 161 #[.agg #[.int .i64 k, .string nm, .slice ra refs.length rc, .slice na nums.length nc, .int .i64 bY, .bool al]] w fun e w' => ∃ v, e = .returned v ∧ OwnS w.heap.size w' v ([nm, (⟨#[111, 110]⟩ : ByteArray), refs.getD 0 ByteArray.empty] ++ loadW nums 0) ∧ Below w.heap.size w w' := by
 obtain ⟨rb, ro, rfl, hrb, hrc0⟩ := hr.form (by intro h; simp [h] at hlen)
 have hq0 := hrc0 0 (by omega)
 simp only [Nat.add_zero] at hq0
 clear hrc0
 have hlt0 : (0 : Int) < (refs.length : Int) := by omega
 have hmt0 : 0 < refs.length := by omega
 have hz0 : (w.alloc (.cells #[.int .i64 k, .string nm, .slice (some ⟨rb, ro, none⟩) refs.length rc, .slice na nums.length nc, .int .i64 bY, .bool al] 102)).cell? ⟨rb, ro, none⟩ = some (.string (refs.getD 0 ByteArray.empty)) := (World.cell?_alloc_lt _ _ _ hrb).trans hq0
 clear hq0
 generalize er0 : refs.getD 0 ByteArray.empty = r0 at *
 have ER0 := hide er0
 clear er0
 have HNUM := hide hnum
 clear hnum
 have hS1 : Below w.heap.size w (w.alloc (.cells #[.int .i64 k, .string nm, .slice (some ⟨rb, ro, none⟩) refs.length rc, .slice na nums.length nc, .int .i64 bY, .bool al] 102)).drew := ((Below.refl _ _).alloc (Nat.le_refl _) _).drew
 have cz : w.heap.size < (w.alloc (.cells #[.int .i64 k, .string nm, .slice (some ⟨rb, ro, none⟩) refs.length rc, .slice na nums.length nc, .int .i64 bY, .bool al] 102)).drew.heap.size := by simp
 have cB := hS1.size
 have hJ := OwnS.new (B := w.heap.size) (w.alloc (.cells #[.int .i64 k, .string nm, .slice (some ⟨rb, ro, none⟩) refs.length rc, .slice na nums.length nc, .int .i64 bY, .bool al] 102)) [nm, (⟨#[111, 110]⟩ : ByteArray), r0] (by simp) (by unfold maxLen; simp)
 rw [show (w.alloc (.cells #[.int .i64 k, .string nm, .slice (some ⟨rb, ro, none⟩) refs.length rc, .slice na nums.length nc, .int .i64 bY, .bool al] 102)).heap.size = w.heap.size + 1 by simp] at hJ
 have HJ := hide hJ.drew
 clear hJ
 have hw3 : ([nm, (⟨#[111, 110]⟩ : ByteArray), r0] : List ByteArray).length ≤ maxLen := by unfold maxLen; simp
 go_enter Tryz.func161, Tryz.ntmps161
 go_wp2_with fail
 go_region_held3 (fun W => W.cell? ⟨w.heap.size, 0, none⟩ = some (.int .i64 k) ∧ W.cell? ⟨w.heap.size, 1, none⟩ = some (.string nm) ∧ W.cell? ⟨w.heap.size, 2, none⟩ = some (.slice (some ⟨rb, ro, none⟩) refs.length rc) ∧ W.cell? ⟨w.heap.size, 3, none⟩ = some (.slice na nums.length nc) ∧ W.cell? ⟨w.heap.size, 4, none⟩ = some (.int .i64 bY) ∧ W.cell? ⟨w.heap.size, 5, none⟩ = some (.bool al) ∧ W.cell? ⟨rb, ro, none⟩ = some (.string r0) ∧ w.heap.size < W.heap.size ∧ Below w.heap.size w W)
  (refine ⟨?_, ?_, ?_, ?_, ?_, ?_, ?_, ?_, ?_⟩ <;> (first | assumption | exact cell?_new _ _ _ _ | exact (World.cell?_alloc_lt _ _ _ (Nat.lt_of_lt_of_le hrb cB)).trans (by assumption) | exact (World.cell?_alloc_lt _ _ _ hrb).trans (by assumption) | exact (World.cell?_alloc_lt _ _ _ cz).trans (by assumption) | (simp; done) | (simp; omega) | exact ((Below.refl _ _).alloc (Nat.le_refl _) _).drew | exact hS1.alloc hS1.size _))
  ((first | (go_at_call 159; have hH := (by assumption : _ ∧ _ ∧ _ ∧ _ ∧ _ ∧ _ ∧ _ ∧ w.heap.size < _ ∧ Below w.heap.size w _); refine (load_any k nm (some ⟨rb, ro, none⟩) refs.length rc na nums nc bY al 0 _ (Pow.below hp (Nat.le_refl _) hH.2.2.2.2.2.2.2.2) (by have := HNUM.out; omega) hl2 hall ((hn.below hH.2.2.2.2.2.2.2.2).more hH.2.2.2.2.2.2.2.2.size)).mono ?_; rintro e wd ⟨v1, rfl, hO1, hb⟩; have hbL := hb; obtain ⟨a0, a1, a2, a3, a4, a5, b0, az, hS⟩ := hH; have c0 := (hb.cell (p := ⟨w.heap.size, 0, none⟩) az).trans a0; have c1 := (hb.cell (p := ⟨w.heap.size, 1, none⟩) az).trans a1; have c2 := (hb.cell (p := ⟨w.heap.size, 2, none⟩) az).trans a2; have c3 := (hb.cell (p := ⟨w.heap.size, 3, none⟩) az).trans a3; have c4 := (hb.cell (p := ⟨w.heap.size, 4, none⟩) az).trans a4; have c5 := (hb.cell (p := ⟨w.heap.size, 5, none⟩) az).trans a5; have q0 := (hb.cell (p := ⟨rb, ro, none⟩) (Nat.lt_of_lt_of_le hrb hS.size)).trans b0; have cz := Nat.lt_of_lt_of_le az hb.size; have hS1 := hS.trans (hb.mono hS.size); have cB := hS1.size; clear a0 a1 a2 a3 a4 a5 b0 az hS hb) | (have hH := (by assumption : _ ∧ _ ∧ _ ∧ _ ∧ _ ∧ _ ∧ _ ∧ w.heap.size < _ ∧ Below w.heap.size w _); have hR := hO1.form; obtain ⟨RA, rc1, rfl, hR⟩ := hR; refine step_append_strs rfl (.tmp 9) (.tmp 11) rfl w.heap.size _ [nm, (⟨#[111, 110]⟩ : ByteArray), r0] (by first | rfl | (simp [Act.eval, Act.put]; done) | (simp [Act.eval, Act.put]; rfl) | (simp [Act.eval]; rfl)) (by first | exact OwnS.below HJ.out hbL | exact OwnS.new _ [nm, (⟨#[111, 110]⟩ : ByteArray), r0] (by omega) hw3 | exact OwnS.below (OwnS.new _ [nm, (⟨#[111, 110]⟩ : ByteArray), r0] (by omega) hw3) hbL | exact OwnS.new _ [nm, (⟨#[111, 110]⟩ : ByteArray), r0] (by simp; omega) hw3 | exact OwnS.below (OwnS.new _ [nm, (⟨#[111, 110]⟩ : ByteArray), r0] (by simp; omega) hw3) hbL) _ RA rc1 (loadW nums 0) (by first | rfl | (simp [Act.eval, Act.put]; done) | (simp [Act.eval, Act.put]; rfl) | (simp [Act.eval]; rfl)) (by first | exact hR | exact Reads.alloc hR (Nat.le_refl _) _) (by simp [loadW]) hH.2.2.2.2.2.2.2.2.size ?_; intro v9 w9 hFin hg _; obtain ⟨a0, a1, a2, a3, a4, a5, b0, az, hS⟩ := hH; have c0 := (World.cell?_of_block (hg.block w.heap.size az (by intro e9; have e8 : w.heap.size = _ := Option.some.inj e9; first | omega | (simp at e8 <;> omega)))).trans a0; have c1 := (World.cell?_of_block (hg.block w.heap.size az (by intro e9; have e8 : w.heap.size = _ := Option.some.inj e9; first | omega | (simp at e8 <;> omega)))).trans a1; have c2 := (World.cell?_of_block (hg.block w.heap.size az (by intro e9; have e8 : w.heap.size = _ := Option.some.inj e9; first | omega | (simp at e8 <;> omega)))).trans a2; have c3 := (World.cell?_of_block (hg.block w.heap.size az (by intro e9; have e8 : w.heap.size = _ := Option.some.inj e9; first | omega | (simp at e8 <;> omega)))).trans a3; have c4 := (World.cell?_of_block (hg.block w.heap.size az (by intro e9; have e8 : w.heap.size = _ := Option.some.inj e9; first | omega | (simp at e8 <;> omega)))).trans a4; have c5 := (World.cell?_of_block (hg.block w.heap.size az (by intro e9; have e8 : w.heap.size = _ := Option.some.inj e9; first | omega | (simp at e8 <;> omega)))).trans a5; have q0 := (World.cell?_of_block (hg.block rb (Nat.lt_of_lt_of_le hrb hS.size) (by intro e9; have e8 : rb = _ := Option.some.inj e9; first | omega | (simp at e8 <;> omega)))).trans b0; have cz := Nat.lt_of_lt_of_le az hg.size; have hS1 := hS.grown hg hS.size (by intro k9 hk9; have e8 : _ = k9 := Option.some.inj hk9; first | omega | (simp at e8 <;> omega)); have cB := hS1.size; clear a0 a1 a2 a3 a4 a5 b0 az hS hg)))
 all_goals
  go_wp2_with fail
  go_ret
  exact ⟨_, rfl, hFin, hS1⟩
end Go.Proofs.YtlnjaemdelnceaaGreatDoor
namespace Go.Proofs.YtlnjaemdelnceaaGreatDoor
open Go Go.RowKit Go.Proofs
theorem OwnS.mono {B B' : Nat} {w : World} {v : Value} {l : List ByteArray} (h : OwnS B w v l) (hB : B' ≤ B) : OwnS B' w v l := by
 refine ⟨h.1, ?_⟩
 rcases h.2 with h0 | ⟨g, cap, cur, h1, h2, h3⟩
 · exact .inl h0
 · exact .inr ⟨g, cap, cur, h1, Nat.le_trans hB h2, h3⟩
theorem clone_strs (A : Option Addr) (c : Nat) (l : List ByteArray) (w : World) (hl : l.length ≤ 1099511627776) (h : Strs w w.heap.size A l) :
    Calls Tryz.prog 153 #[.slice A l.length c] w fun e w' => ∃ v, e = .returned v ∧ OwnS w.heap.size w' v l ∧ Below w.heap.size w w' := by
 by_cases hn : l = []
 · subst hn
   cases A with
   | none => exact (Tryz.slices_Clone_string_nil 0 c w).mono fun e w' ⟨he, hw⟩ => ⟨_, he, OwnS.nil_ _ _, hw ▸ Below.refl _ _⟩
   | some a => exact (Tryz.slices_Clone_string_zero a c w).mono fun e w' ⟨v, he, ho, _, hb⟩ => ⟨v, he, ho, hb⟩
 · obtain ⟨b, off, rfl, hb, hc⟩ := h.form hn
   exact (Tryz.slices_Clone_string b off l.length c l w (Nat.le_refl _) (by omega) hc).mono fun e w' ⟨v, he, ho, _, hb⟩ => ⟨v, he, by unfold OwnS; rw [List.take_length] at ho; exact ho, hb⟩
theorem text_named (k : Int) (nm : ByteArray) (ra : Option Addr) (rn rc : Nat) (na : Option Addr) (nn nc : Nat) (bY : Int) (al : Bool) (w : World) :
    Calls Tryz.prog 151 #[.agg #[.int .i64 k, .string nm, .slice ra rn rc, .slice na nn nc, .int .i64 bY, .bool al]] w
     fun e w' => ∃ v, e = .returned v ∧ OwnS w.heap.size w' v [nm] ∧ Below w.heap.size w w' := by
 go_enter Tryz.func151, Tryz.ntmps151
 go_wp2
 go_ret
 have hO := OwnS.new (B := w.heap.size) (w.alloc (.cells #[.int .i64 k, .string nm, .slice ra rn rc, .slice na nn nc, .int .i64 bY, .bool al] 102)) [nm] (by simp) (by unfold maxLen; simp)
 rw [show (w.alloc (.cells #[.int .i64 k, .string nm, .slice ra rn rc, .slice na nn nc, .int .i64 bY, .bool al] 102)).heap.size = w.heap.size + 1 by simp] at hO
 exact ⟨_, rfl, hO, ((Below.refl _ _).alloc (Nat.le_refl _) _).alloc (by simp) _⟩
theorem take_snoc {α : Type} (l : List α) (j : Nat) (h : j < l.length) : l.take (j + 1) = l.take j ++ [l[j]] := by
 rw [List.take_succ_eq_append_getElem h]
theorem text_plain (k : Int) (nm : ByteArray) (ra : Option Addr) (refs : List ByteArray) (rc : Nat) (na : Option Addr) (nums : List Int) (nc : Nat) (bY : Int) (al : Bool) (w : World) (hp : Pow w)
    (hr : Strs w w.heap.size ra refs) (hl1 : refs.length ≤ 65536) (hl2 : nums.length ≤ 65536) (hall : nums.all numOk = true) (hn : Ints w w.heap.size na nums) :
    Calls Tryz.prog 152 #[.agg #[.int .i64 k, .string nm, .slice ra refs.length rc, .slice na nums.length nc, .int .i64 bY, .bool al]] w
     fun e w' => ∃ v, e = .returned v ∧ OwnS w.heap.size w' v (refs ++ nums.map itoaS) ∧ Below w.heap.size w w' := by
 have HP := hide hp
 go_enter Tryz.func152, Tryz.ntmps152
 go_wp2_with (go_at_call 153; refine (clone_strs ra rc refs _ (by omega) ((hr.alloc (Nat.le_refl _) _).more (by simp))).mono ?_; rintro e w1 ⟨v1, rfl, hO, hb⟩; have hD := (Blk.new w 102 #[.int .i64 k, .string nm, .slice ra refs.length rc, .slice na nums.length nc, .int .i64 bY, .bool al]).below hb (by simp); have d3 := hD.cell 3; simp at d3)
 have hO1 : OwnS (w.heap.size + 1) w1 v1 refs := by simpa using hO
 have hb1 : Below w.heap.size w w1 := ((Below.refl _ _).alloc (Nat.le_refl _) _).trans (hb.mono (by simp))
 have hs1 : w.heap.size < w1.heap.size := by have := hb.size; simp at this; omega
 clear d3 hO hb
 go_loopw [3, 11] (fun v i wr => ∃ j : Nat, j ≤ nums.length ∧ i = .int .i64 j ∧ OwnS (w.heap.size + 1) wr v (refs ++ (nums.take j).map itoaS) ∧ Below w.heap.size w wr ∧ w.heap.size < wr.heap.size ∧ Blk wr w.heap.size 102 #[.int .i64 k, .string nm, .slice ra refs.length rc, .slice na nums.length nc, .int .i64 bY, .bool al]) (fun _ i _ => nums.length - (intOf i).toNat)
 case atStart => exact ⟨0, Nat.zero_le _, rfl, by simpa using hO1, hb1, hs1, hD⟩
 case round =>
  clear hO1 hb1 hs1 hD
  obtain ⟨j, hj, rfl, hO, hbr, hsz, hD⟩ := hrel
  by_cases hlt : j < nums.length
  · have d0 := hD.cell 0
    have d1 := hD.cell 1
    have d2 := hD.cell 2
    have d3 := hD.cell 3
    have d4 := hD.cell 4
    have d5 := hD.cell 5
    simp at d0 d1 d2 d3 d4 d5
    have HT := hide (take_snoc nums j hlt)
    have hlen : (refs ++ (nums.take j).map itoaS).length ≤ 131072 := by simp; omega
    go_wp2_with (first
     | (go_at_call 154; refine (number_any k nm ra refs.length rc na nums nc bY al _ _ (Pow.below HP.out (Nat.le_refl _) hbr) (by omega) (by simp; omega) hall ((hn.below hbr).more hbr.size)).mono ?_; rintro e w2 ⟨rfl, hb2⟩)
     | (at_builtin; go_must (refine append_strs rfl _ _ rfl (w.heap.size + 1) _ (refs ++ (nums.take j).map itoaS) rfl ((hO.below hb2).alloc _) _ _ 1 [itoaS nums[j]] rfl (Strs.newRow w2 9 [itoaS nums[j]]) (by simp; omega) (by have := hb2.size; simp; omega) ?_); intro v3 w3 hO3 hg3 _))
    have hb02 : Below w.heap.size w w2 := hbr.trans (hb2.mono hbr.size)
    have hlo := hO.lt
    have hg : (w2.alloc (.cells #[.string (itoaS nums[j])] 9)).grownBy w3 u3.ownBlock := hg3
    have hs2 := hb2.size
    have hs3 := hg.size
    simp at hs3
    refine ⟨⟨j + 1, by omega, by go_num, ?_, ?_, by omega, ?_⟩, by simp [intOf]; omega⟩
    · rw [HT.out, List.map_append, ← List.append_assoc]; exact hO3
    · exact (hb02.alloc hb02.size _).grown hg (by simp; omega) (fun q hq => by have := hlo q hq; omega)
    · exact ((hD.below hb2 hsz).alloc _).grown hg (fun e => by have := hlo _ e.symm; omega)
  · have HT := hide (show nums.take j = nums from List.take_of_length_le (by omega))
    go_wp2_with fail
    go_ret
    exact ⟨_, rfl, by have := hO.mono (B' := w.heap.size) (by omega); rw [HT.out] at this; exact this, hbr⟩
def keepW (refs : List ByteArray) (nums : List Int) (al : Bool) : List ByteArray := refs ++ nums.map itoaS ++ (if al then [(⟨#[97, 108, 119, 97, 121, 115]⟩ : ByteArray)] else [])
theorem text_keep (k : Int) (nm : ByteArray) (ra : Option Addr) (refs : List ByteArray) (rc : Nat) (na : Option Addr) (nums : List Int) (nc : Nat) (bY : Int) (al : Bool) (w : World) (B : Nat) (hp : Pow w)
    (hB : B < w.heap.size) (hcell : w.cell? ⟨B, 0, none⟩ = some (.func (.func 152) #[] #[]))
    (hr : Strs w w.heap.size ra refs) (hl1 : refs.length ≤ 65536) (hl2 : nums.length ≤ 65536) (hall : nums.all numOk = true) (hn : Ints w w.heap.size na nums) :
    Calls Tryz.prog 166 #[.agg #[.int .i64 k, .string nm, .slice ra refs.length rc, .slice na nums.length nc, .int .i64 bY, .bool al], .pointer (some ⟨B, 0, none⟩)] w
     fun e w' => ∃ v, e = .returned v ∧ OwnS w.heap.size w' v (keepW refs nums al) ∧ Below w.heap.size w w' := by
 have hc2 : (w.alloc (.cells #[.int .i64 k, .string nm, .slice ra refs.length rc, .slice na nums.length nc, .int .i64 bY, .bool al] 102)).cell? ⟨B, 0, none⟩ = some (.func (.func 152) #[] #[]) := (World.cell?_alloc_lt _ _ _ hB).trans hcell
 have HP := hide hp
 cases al
 · go_enter Tryz.func166, Tryz.ntmps166
   go_wp2_with (go_at_call 152; refine (text_plain k nm ra refs rc na nums nc bY false _ (Pow.below HP.out (Nat.le_refl _) ((Below.refl _ _).alloc (Nat.le_refl _) _)) ((hr.alloc (Nat.le_refl _) _).more (by simp)) hl1 hl2 hall ((hn.alloc (Nat.le_refl _) _).more (by simp))).mono ?_; rintro e w1 ⟨v1, rfl, hO, hb⟩)
   go_ret
   exact ⟨_, rfl, by have := hO.mono (B' := w.heap.size) (by simp); simpa [keepW] using this, ((Below.refl _ _).alloc (Nat.le_refl _) _).trans (hb.mono (by simp))⟩
 · go_enter Tryz.func166, Tryz.ntmps166
   go_wp2_with (first
    | (go_at_call 152; refine (text_plain k nm ra refs rc na nums nc bY true _ (Pow.below HP.out (Nat.le_refl _) ((Below.refl _ _).alloc (Nat.le_refl _) _)) ((hr.alloc (Nat.le_refl _) _).more (by simp)) hl1 hl2 hall ((hn.alloc (Nat.le_refl _) _).more (by simp))).mono ?_; rintro e w1 ⟨v1, rfl, hO, hb⟩; have hO1 := hO.mono (B' := w.heap.size) (by simp))
    | (at_builtin; refine append_strs rfl _ _ rfl w.heap.size v1 (refs ++ nums.map itoaS) rfl (hO1.alloc _) _ _ 1 [(⟨#[97, 108, 119, 97, 121, 115]⟩ : ByteArray)] rfl (Strs.newRow w1 9 [(⟨#[97, 108, 119, 97, 121, 115]⟩ : ByteArray)]) (by simp; omega) (by have := hb.size; simp at this ⊢; omega) ?_; intro v3 w3 hO3 hg3 _))
   go_ret
   have hlo := hO1.lt
   have hg : (w1.alloc (.cells #[.string (⟨#[97, 108, 119, 97, 121, 115]⟩ : ByteArray)] 9)).grownBy w3 v1.ownBlock := hg3
   have hb1 : Below w.heap.size w w1 := ((Below.refl _ _).alloc (Nat.le_refl _) _).trans (hb.mono (by simp))
   exact ⟨_, rfl, hO3, (hb1.alloc hb1.size _).grown hg (by have := hb1.size; simp; omega) (fun q hq => (hlo q hq).1)⟩
end Go.Proofs.YtlnjaemdelnceaaGreatDoor
namespace Go.Proofs.YtlnjaemdelnceaaGreatDoor
open Go Go.RowKit Go.Proofs
theorem OwnS.form2 {B : Nat} {w : World} {v : Value} {l : List ByteArray} (h : OwnS B w v l) : ∃ A c, v = .slice A l.length c ∧ Strs w w.heap.size A l ∧ l.length ≤ c := by
 have h2 := h
 rcases h2.2 with ⟨rfl, h0⟩ | ⟨g, cap, cur, rfl, _, _, hc, _⟩
 · have : l = [] := List.eq_nil_of_length_eq_zero h0
   subst this
   exact ⟨none, 0, rfl, Reads.none_, Nat.le_refl _⟩
 · exact ⟨_, _, rfl, Reads.of_own h, hc⟩
theorem text_only (k : Int) (nm : ByteArray) (ra : Option Addr) (refs : List ByteArray) (rc : Nat) (na : Option Addr) (nums : List Int) (nc : Nat) (bY : Int) (al : Bool) (w : World) (_hp : Pow w)
    (hr : Strs w w.heap.size ra refs) (hrc : refs.length ≤ rc) (hrl : refs.length ≤ 140737488355328) (_hl2 : nums.length ≤ 9223372036854775807) (_hall : nums.all numOk = true) (_hn : Ints w w.heap.size na nums) (hj : (Lib.join (refs.tail.map (·.data.toList)) [44, 32]).length ≤ 140737488355328) (hlen : 2 ≤ refs.length) :
    Calls Tryz.prog 170 #[.agg #[.int .i64 k, .string nm, .slice ra refs.length rc, .slice na nums.length nc, .int .i64 bY, .bool al]] w fun e w' => ∃ v, e = .returned v ∧ OwnS w.heap.size w' v [refs.getD 0 ByteArray.empty, (⟨#[111, 110]⟩ : ByteArray), joinS refs.tail (⟨#[44, 32]⟩ : ByteArray)] ∧ Below w.heap.size w w' := by
 obtain ⟨rb, ro, rfl, hrb, hrc0⟩ := hr.form (by intro h; simp [h] at hlen)
 have hq0 := hrc0 0 (by omega)
 simp only [Nat.add_zero] at hq0
 clear hrc0
 have hlt0 : (0 : Int) < (refs.length : Int) := by omega
 have hmt0 : 0 < refs.length := by omega
 have hz0 : (w.alloc (.cells #[.int .i64 k, .string nm, .slice (some ⟨rb, ro, none⟩) refs.length rc, .slice na nums.length nc, .int .i64 bY, .bool al] 102)).cell? ⟨rb, ro, none⟩ = some (.string (refs.getD 0 ByteArray.empty)) := (World.cell?_alloc_lt _ _ _ hrb).trans hq0
 clear hq0
 generalize er0 : refs.getD 0 ByteArray.empty = r0 at *
 have ER0 := hide er0
 clear er0
 have htail : ∀ W, Below w.heap.size w W → Strs W W.heap.size (some ⟨rb, ro + 1, none⟩) refs.tail := by
  intro W hW
  have h1 := Reads.cut (k := 1) (cap := rc) ((hr.below hW).more hW.size) (by omega) hrc
  rw [if_neg (by omega)] at h1
  rw [← List.drop_one]
  unfold Strs
  simpa [add_none] using h1
 have HTL := hide htail
 clear htail
 have hcl : ∀ W, Below w.heap.size w W → Calls Tryz.prog 158 #[.slice (some ⟨rb, ro + 1, none⟩) (refs.length - 1) (rc - 1)] W fun e w' => e = .returned (.string (joinS refs.tail (⟨#[44, 32]⟩ : ByteArray))) ∧ Below W.heap.size W w' := by
  intro W hW
  have := list_any _ (rc - 1) refs.tail W (HTL.out W hW) (by simp; omega) (by simp; omega) hj
  rw [List.length_tail] at this
  exact this
 have HCL := hide hcl
 clear hcl
 have e1 : (1 : Int) ≤ (refs.length : Int) := by omega
 have e3 : ¬ rc = 1 := by omega
 have hsl : ∀ W, (Instr.sliceAt 22 (.slice (some ⟨rb, ro, none⟩) refs.length rc) (some (.int .i64 1)) none none).run Tryz.prog W = .ok (.slice (some ⟨rb, ro + 1, none⟩) (refs.length - 1) (rc - 1)) W := by
  intro W
  simp [go_sem, e1, e3]
 clear e1 e3
 go_enter Tryz.func170, Tryz.ntmps170
 go_wp2_with fail
 go_region_held3 (fun W => W.cell? ⟨w.heap.size, 0, none⟩ = some (.int .i64 k) ∧ W.cell? ⟨w.heap.size, 1, none⟩ = some (.string nm) ∧ W.cell? ⟨w.heap.size, 2, none⟩ = some (.slice (some ⟨rb, ro, none⟩) refs.length rc) ∧ W.cell? ⟨w.heap.size, 3, none⟩ = some (.slice na nums.length nc) ∧ W.cell? ⟨w.heap.size, 4, none⟩ = some (.int .i64 bY) ∧ W.cell? ⟨w.heap.size, 5, none⟩ = some (.bool al) ∧ W.cell? ⟨rb, ro, none⟩ = some (.string r0) ∧ w.heap.size < W.heap.size ∧ Below w.heap.size w W)
  (refine ⟨?_, ?_, ?_, ?_, ?_, ?_, ?_, ?_, ?_⟩ <;> (first | assumption | exact cell?_new _ _ _ _ | exact (World.cell?_alloc_lt _ _ _ (Nat.lt_of_lt_of_le hrb cB)).trans (by assumption) | exact (World.cell?_alloc_lt _ _ _ hrb).trans (by assumption) | exact (World.cell?_alloc_lt _ _ _ cz).trans (by assumption) | (simp; done) | (simp; omega) | exact ((Below.refl _ _).alloc (Nat.le_refl _) _).drew | exact hS1.alloc hS1.size _))
  ((first | (go_at_call 158; have hH := (by assumption : _ ∧ _ ∧ _ ∧ _ ∧ _ ∧ _ ∧ _ ∧ w.heap.size < _ ∧ Below w.heap.size w _); refine (HCL.out _ hH.2.2.2.2.2.2.2.2).mono ?_; rintro e w1 ⟨rfl, hb⟩; obtain ⟨a0, a1, a2, a3, a4, a5, b0, az, hS⟩ := hH; have c0 := (hb.cell (p := ⟨w.heap.size, 0, none⟩) az).trans a0; have c1 := (hb.cell (p := ⟨w.heap.size, 1, none⟩) az).trans a1; have c2 := (hb.cell (p := ⟨w.heap.size, 2, none⟩) az).trans a2; have c3 := (hb.cell (p := ⟨w.heap.size, 3, none⟩) az).trans a3; have c4 := (hb.cell (p := ⟨w.heap.size, 4, none⟩) az).trans a4; have c5 := (hb.cell (p := ⟨w.heap.size, 5, none⟩) az).trans a5; have q0 := (hb.cell (p := ⟨rb, ro, none⟩) (Nat.lt_of_lt_of_le hrb hS.size)).trans b0; have cz := Nat.lt_of_lt_of_le az hb.size; have hS1 := hS.trans (hb.mono hS.size); have cB := hS1.size; clear a0 a1 a2 a3 a4 a5 b0 az hS hb)))
 all_goals
  go_wp2_with fail
  go_ret
  exact ⟨_, rfl, OwnS.new _ [r0, (⟨#[111, 110]⟩ : ByteArray), joinS refs.tail (⟨#[44, 32]⟩ : ByteArray)] (by first | exact hS1.size | simp) (by unfold maxLen; simp), by first | exact hS1.alloc hS1.size _ | exact (((Below.refl _ _).alloc (Nat.le_refl _) _).drew).alloc (by simp) _⟩
end Go.Proofs.YtlnjaemdelnceaaGreatDoor
namespace Go.Proofs.YtlnjaemdelnceaaGreatDoor
open Go Go.RowKit Go.Proofs
def clsAll : List ByteArray := [(⟨#[109, 97, 99, 104, 105, 110, 101]⟩ : ByteArray), (⟨#[114, 97, 99, 107]⟩ : ByteArray), (⟨#[102, 101, 101, 100]⟩ : ByteArray)]
def clsTo (n : Nat) (k : Nat) : List ByteArray := (List.range k).filterMap fun i => if n / 2 ^ i % 2 = 1 then clsAll[i]? else none
def clsW (n : Nat) : List ByteArray := clsTo n 3
theorem classes_prog1 (w : World) :
    Calls Tryz.prog 165 #[.int .i64 1] w fun e w' => e = .returned (.string (joinS (clsW 1) (⟨#[44, 32]⟩ : ByteArray))) ∧ Below w.heap.size w w' := by
 go_enter Tryz.func165, Tryz.ntmps165
 go_wp2_with fail
 go_loopw [3, 8] (fun v i wr => ∃ j : Nat, j ≤ 3 ∧ i = .int .i64 j ∧ OwnS (w.heap.size + 1) wr v (clsTo 1 j) ∧ Below w.heap.size w wr ∧ w.heap.size < wr.heap.size ∧ Blk wr w.heap.size 9 #[.string (⟨#[109, 97, 99, 104, 105, 110, 101]⟩ : ByteArray), .string (⟨#[114, 97, 99, 107]⟩ : ByteArray), .string (⟨#[102, 101, 101, 100]⟩ : ByteArray)]) (fun _ i _ => 3 - (intOf i).toNat)
 case atStart => exact ⟨0, Nat.zero_le _, rfl, OwnS.nil_ _ _, (Below.refl _ _).alloc (Nat.le_refl _) _, by simp, Blk.new _ _ _⟩
 case round =>
  obtain ⟨j, hj, rfl, hO, hbr, hsz, hD⟩ := hrel
  have d0 := hD.cell 0
  have d1 := hD.cell 1
  have d2 := hD.cell 2
  simp at d0 d1 d2
  have hj3 : j = 0 ∨ j = 1 ∨ j = 2 ∨ j = 3 := by omega
  clear hj
  rcases hj3 with rfl | rfl | rfl | rfl
  · simp only [Int.cast_ofNat_Int] at *
    go_wp2_with (at_builtin; refine append_strs rfl _ _ rfl (w.heap.size + 1) u3 (clsTo 1 0) rfl (hO.alloc _) _ _ 1 [(⟨#[109, 97, 99, 104, 105, 110, 101]⟩ : ByteArray)] rfl (Strs.newRow wr 9 [(⟨#[109, 97, 99, 104, 105, 110, 101]⟩ : ByteArray)]) (by decide) (by simp; omega) ?_; intro v3 w3 hO3 hg3 _)
    have hg : (wr.alloc (.cells #[.string (⟨#[109, 97, 99, 104, 105, 110, 101]⟩ : ByteArray)] 9)).grownBy w3 u3.ownBlock := hg3
    have hlo := hO.lt
    have hs3 := hg.size
    simp at hs3
    exact ⟨⟨1, by omega, by go_num, hO3, (hbr.alloc hbr.size _).grown hg (by simp; omega) (fun q hq => by have := hlo q hq; omega), by omega, (hD.alloc _).grown hg (fun e => by have := hlo _ e.symm; omega)⟩, by simp [intOf]⟩
  · simp only [Int.cast_ofNat_Int] at *
    go_wp2_with fail
    exact ⟨⟨2, by omega, by go_num, hO, hbr, hsz, hD⟩, by simp [intOf]⟩
  · simp only [Int.cast_ofNat_Int] at *
    go_wp2_with fail
    exact ⟨⟨3, by omega, by go_num, hO, hbr, hsz, hD⟩, by simp [intOf]⟩
  · simp only [Int.cast_ofNat_Int] at *
    obtain ⟨A, c, rfl, hA, hc⟩ := hO.form2
    go_wp2_with (go_at_call 158; refine (list_any A c (clsW 1) wr hA hc (by decide) (by decide +kernel)).mono ?_; rintro e w1 ⟨rfl, hb⟩)
    go_ret
    exact ⟨rfl, hbr.trans (hb.mono hbr.size)⟩
theorem classes_prog2 (w : World) :
    Calls Tryz.prog 165 #[.int .i64 2] w fun e w' => e = .returned (.string (joinS (clsW 2) (⟨#[44, 32]⟩ : ByteArray))) ∧ Below w.heap.size w w' := by
 go_enter Tryz.func165, Tryz.ntmps165
 go_wp2_with fail
 go_loopw [3, 8] (fun v i wr => ∃ j : Nat, j ≤ 3 ∧ i = .int .i64 j ∧ OwnS (w.heap.size + 1) wr v (clsTo 2 j) ∧ Below w.heap.size w wr ∧ w.heap.size < wr.heap.size ∧ Blk wr w.heap.size 9 #[.string (⟨#[109, 97, 99, 104, 105, 110, 101]⟩ : ByteArray), .string (⟨#[114, 97, 99, 107]⟩ : ByteArray), .string (⟨#[102, 101, 101, 100]⟩ : ByteArray)]) (fun _ i _ => 3 - (intOf i).toNat)
 case atStart => exact ⟨0, Nat.zero_le _, rfl, OwnS.nil_ _ _, (Below.refl _ _).alloc (Nat.le_refl _) _, by simp, Blk.new _ _ _⟩
 case round =>
  obtain ⟨j, hj, rfl, hO, hbr, hsz, hD⟩ := hrel
  have d0 := hD.cell 0
  have d1 := hD.cell 1
  have d2 := hD.cell 2
  simp at d0 d1 d2
  have hj3 : j = 0 ∨ j = 1 ∨ j = 2 ∨ j = 3 := by omega
  clear hj
  rcases hj3 with rfl | rfl | rfl | rfl
  · simp only [Int.cast_ofNat_Int] at *
    go_wp2_with fail
    exact ⟨⟨1, by omega, by go_num, hO, hbr, hsz, hD⟩, by simp [intOf]⟩
  · simp only [Int.cast_ofNat_Int] at *
    go_wp2_with (at_builtin; refine append_strs rfl _ _ rfl (w.heap.size + 1) u3 (clsTo 2 1) rfl (hO.alloc _) _ _ 1 [(⟨#[114, 97, 99, 107]⟩ : ByteArray)] rfl (Strs.newRow wr 9 [(⟨#[114, 97, 99, 107]⟩ : ByteArray)]) (by decide) (by simp; omega) ?_; intro v3 w3 hO3 hg3 _)
    have hg : (wr.alloc (.cells #[.string (⟨#[114, 97, 99, 107]⟩ : ByteArray)] 9)).grownBy w3 u3.ownBlock := hg3
    have hlo := hO.lt
    have hs3 := hg.size
    simp at hs3
    exact ⟨⟨2, by omega, by go_num, hO3, (hbr.alloc hbr.size _).grown hg (by simp; omega) (fun q hq => by have := hlo q hq; omega), by omega, (hD.alloc _).grown hg (fun e => by have := hlo _ e.symm; omega)⟩, by simp [intOf]⟩
  · simp only [Int.cast_ofNat_Int] at *
    go_wp2_with fail
    exact ⟨⟨3, by omega, by go_num, hO, hbr, hsz, hD⟩, by simp [intOf]⟩
  · simp only [Int.cast_ofNat_Int] at *
    obtain ⟨A, c, rfl, hA, hc⟩ := hO.form2
    go_wp2_with (go_at_call 158; refine (list_any A c (clsW 2) wr hA hc (by decide) (by decide +kernel)).mono ?_; rintro e w1 ⟨rfl, hb⟩)
    go_ret
    exact ⟨rfl, hbr.trans (hb.mono hbr.size)⟩
theorem classes_prog3 (w : World) :
    Calls Tryz.prog 165 #[.int .i64 3] w fun e w' => e = .returned (.string (joinS (clsW 3) (⟨#[44, 32]⟩ : ByteArray))) ∧ Below w.heap.size w w' := by
 go_enter Tryz.func165, Tryz.ntmps165
 go_wp2_with fail
 go_loopw [3, 8] (fun v i wr => ∃ j : Nat, j ≤ 3 ∧ i = .int .i64 j ∧ OwnS (w.heap.size + 1) wr v (clsTo 3 j) ∧ Below w.heap.size w wr ∧ w.heap.size < wr.heap.size ∧ Blk wr w.heap.size 9 #[.string (⟨#[109, 97, 99, 104, 105, 110, 101]⟩ : ByteArray), .string (⟨#[114, 97, 99, 107]⟩ : ByteArray), .string (⟨#[102, 101, 101, 100]⟩ : ByteArray)]) (fun _ i _ => 3 - (intOf i).toNat)
 case atStart => exact ⟨0, Nat.zero_le _, rfl, OwnS.nil_ _ _, (Below.refl _ _).alloc (Nat.le_refl _) _, by simp, Blk.new _ _ _⟩
 case round =>
  obtain ⟨j, hj, rfl, hO, hbr, hsz, hD⟩ := hrel
  have d0 := hD.cell 0
  have d1 := hD.cell 1
  have d2 := hD.cell 2
  simp at d0 d1 d2
  have hj3 : j = 0 ∨ j = 1 ∨ j = 2 ∨ j = 3 := by omega
  clear hj
  rcases hj3 with rfl | rfl | rfl | rfl
  · simp only [Int.cast_ofNat_Int] at *
    go_wp2_with (at_builtin; refine append_strs rfl _ _ rfl (w.heap.size + 1) u3 (clsTo 3 0) rfl (hO.alloc _) _ _ 1 [(⟨#[109, 97, 99, 104, 105, 110, 101]⟩ : ByteArray)] rfl (Strs.newRow wr 9 [(⟨#[109, 97, 99, 104, 105, 110, 101]⟩ : ByteArray)]) (by decide) (by simp; omega) ?_; intro v3 w3 hO3 hg3 _)
    have hg : (wr.alloc (.cells #[.string (⟨#[109, 97, 99, 104, 105, 110, 101]⟩ : ByteArray)] 9)).grownBy w3 u3.ownBlock := hg3
    have hlo := hO.lt
    have hs3 := hg.size
    simp at hs3
    exact ⟨⟨1, by omega, by go_num, hO3, (hbr.alloc hbr.size _).grown hg (by simp; omega) (fun q hq => by have := hlo q hq; omega), by omega, (hD.alloc _).grown hg (fun e => by have := hlo _ e.symm; omega)⟩, by simp [intOf]⟩
  · simp only [Int.cast_ofNat_Int] at *
    go_wp2_with (at_builtin; refine append_strs rfl _ _ rfl (w.heap.size + 1) u3 (clsTo 3 1) rfl (hO.alloc _) _ _ 1 [(⟨#[114, 97, 99, 107]⟩ : ByteArray)] rfl (Strs.newRow wr 9 [(⟨#[114, 97, 99, 107]⟩ : ByteArray)]) (by decide) (by simp; omega) ?_; intro v3 w3 hO3 hg3 _)
    have hg : (wr.alloc (.cells #[.string (⟨#[114, 97, 99, 107]⟩ : ByteArray)] 9)).grownBy w3 u3.ownBlock := hg3
    have hlo := hO.lt
    have hs3 := hg.size
    simp at hs3
    exact ⟨⟨2, by omega, by go_num, hO3, (hbr.alloc hbr.size _).grown hg (by simp; omega) (fun q hq => by have := hlo q hq; omega), by omega, (hD.alloc _).grown hg (fun e => by have := hlo _ e.symm; omega)⟩, by simp [intOf]⟩
  · simp only [Int.cast_ofNat_Int] at *
    go_wp2_with fail
    exact ⟨⟨3, by omega, by go_num, hO, hbr, hsz, hD⟩, by simp [intOf]⟩
  · simp only [Int.cast_ofNat_Int] at *
    obtain ⟨A, c, rfl, hA, hc⟩ := hO.form2
    go_wp2_with (go_at_call 158; refine (list_any A c (clsW 3) wr hA hc (by decide) (by decide +kernel)).mono ?_; rintro e w1 ⟨rfl, hb⟩)
    go_ret
    exact ⟨rfl, hbr.trans (hb.mono hbr.size)⟩
theorem classes_prog4 (w : World) :
    Calls Tryz.prog 165 #[.int .i64 4] w fun e w' => e = .returned (.string (joinS (clsW 4) (⟨#[44, 32]⟩ : ByteArray))) ∧ Below w.heap.size w w' := by
 go_enter Tryz.func165, Tryz.ntmps165
 go_wp2_with fail
 go_loopw [3, 8] (fun v i wr => ∃ j : Nat, j ≤ 3 ∧ i = .int .i64 j ∧ OwnS (w.heap.size + 1) wr v (clsTo 4 j) ∧ Below w.heap.size w wr ∧ w.heap.size < wr.heap.size ∧ Blk wr w.heap.size 9 #[.string (⟨#[109, 97, 99, 104, 105, 110, 101]⟩ : ByteArray), .string (⟨#[114, 97, 99, 107]⟩ : ByteArray), .string (⟨#[102, 101, 101, 100]⟩ : ByteArray)]) (fun _ i _ => 3 - (intOf i).toNat)
 case atStart => exact ⟨0, Nat.zero_le _, rfl, OwnS.nil_ _ _, (Below.refl _ _).alloc (Nat.le_refl _) _, by simp, Blk.new _ _ _⟩
 case round =>
  obtain ⟨j, hj, rfl, hO, hbr, hsz, hD⟩ := hrel
  have d0 := hD.cell 0
  have d1 := hD.cell 1
  have d2 := hD.cell 2
  simp at d0 d1 d2
  have hj3 : j = 0 ∨ j = 1 ∨ j = 2 ∨ j = 3 := by omega
  clear hj
  rcases hj3 with rfl | rfl | rfl | rfl
  · simp only [Int.cast_ofNat_Int] at *
    go_wp2_with fail
    exact ⟨⟨1, by omega, by go_num, hO, hbr, hsz, hD⟩, by simp [intOf]⟩
  · simp only [Int.cast_ofNat_Int] at *
    go_wp2_with fail
    exact ⟨⟨2, by omega, by go_num, hO, hbr, hsz, hD⟩, by simp [intOf]⟩
  · simp only [Int.cast_ofNat_Int] at *
    go_wp2_with (at_builtin; refine append_strs rfl _ _ rfl (w.heap.size + 1) u3 (clsTo 4 2) rfl (hO.alloc _) _ _ 1 [(⟨#[102, 101, 101, 100]⟩ : ByteArray)] rfl (Strs.newRow wr 9 [(⟨#[102, 101, 101, 100]⟩ : ByteArray)]) (by decide) (by simp; omega) ?_; intro v3 w3 hO3 hg3 _)
    have hg : (wr.alloc (.cells #[.string (⟨#[102, 101, 101, 100]⟩ : ByteArray)] 9)).grownBy w3 u3.ownBlock := hg3
    have hlo := hO.lt
    have hs3 := hg.size
    simp at hs3
    exact ⟨⟨3, by omega, by go_num, hO3, (hbr.alloc hbr.size _).grown hg (by simp; omega) (fun q hq => by have := hlo q hq; omega), by omega, (hD.alloc _).grown hg (fun e => by have := hlo _ e.symm; omega)⟩, by simp [intOf]⟩
  · simp only [Int.cast_ofNat_Int] at *
    obtain ⟨A, c, rfl, hA, hc⟩ := hO.form2
    go_wp2_with (go_at_call 158; refine (list_any A c (clsW 4) wr hA hc (by decide) (by decide +kernel)).mono ?_; rintro e w1 ⟨rfl, hb⟩)
    go_ret
    exact ⟨rfl, hbr.trans (hb.mono hbr.size)⟩
theorem classes_prog5 (w : World) :
    Calls Tryz.prog 165 #[.int .i64 5] w fun e w' => e = .returned (.string (joinS (clsW 5) (⟨#[44, 32]⟩ : ByteArray))) ∧ Below w.heap.size w w' := by
 go_enter Tryz.func165, Tryz.ntmps165
 go_wp2_with fail
 go_loopw [3, 8] (fun v i wr => ∃ j : Nat, j ≤ 3 ∧ i = .int .i64 j ∧ OwnS (w.heap.size + 1) wr v (clsTo 5 j) ∧ Below w.heap.size w wr ∧ w.heap.size < wr.heap.size ∧ Blk wr w.heap.size 9 #[.string (⟨#[109, 97, 99, 104, 105, 110, 101]⟩ : ByteArray), .string (⟨#[114, 97, 99, 107]⟩ : ByteArray), .string (⟨#[102, 101, 101, 100]⟩ : ByteArray)]) (fun _ i _ => 3 - (intOf i).toNat)
 case atStart => exact ⟨0, Nat.zero_le _, rfl, OwnS.nil_ _ _, (Below.refl _ _).alloc (Nat.le_refl _) _, by simp, Blk.new _ _ _⟩
 case round =>
  obtain ⟨j, hj, rfl, hO, hbr, hsz, hD⟩ := hrel
  have d0 := hD.cell 0
  have d1 := hD.cell 1
  have d2 := hD.cell 2
  simp at d0 d1 d2
  have hj3 : j = 0 ∨ j = 1 ∨ j = 2 ∨ j = 3 := by omega
  clear hj
  rcases hj3 with rfl | rfl | rfl | rfl
  · simp only [Int.cast_ofNat_Int] at *
    go_wp2_with (at_builtin; refine append_strs rfl _ _ rfl (w.heap.size + 1) u3 (clsTo 5 0) rfl (hO.alloc _) _ _ 1 [(⟨#[109, 97, 99, 104, 105, 110, 101]⟩ : ByteArray)] rfl (Strs.newRow wr 9 [(⟨#[109, 97, 99, 104, 105, 110, 101]⟩ : ByteArray)]) (by decide) (by simp; omega) ?_; intro v3 w3 hO3 hg3 _)
    have hg : (wr.alloc (.cells #[.string (⟨#[109, 97, 99, 104, 105, 110, 101]⟩ : ByteArray)] 9)).grownBy w3 u3.ownBlock := hg3
    have hlo := hO.lt
    have hs3 := hg.size
    simp at hs3
    exact ⟨⟨1, by omega, by go_num, hO3, (hbr.alloc hbr.size _).grown hg (by simp; omega) (fun q hq => by have := hlo q hq; omega), by omega, (hD.alloc _).grown hg (fun e => by have := hlo _ e.symm; omega)⟩, by simp [intOf]⟩
  · simp only [Int.cast_ofNat_Int] at *
    go_wp2_with fail
    exact ⟨⟨2, by omega, by go_num, hO, hbr, hsz, hD⟩, by simp [intOf]⟩
  · simp only [Int.cast_ofNat_Int] at *
    go_wp2_with (at_builtin; refine append_strs rfl _ _ rfl (w.heap.size + 1) u3 (clsTo 5 2) rfl (hO.alloc _) _ _ 1 [(⟨#[102, 101, 101, 100]⟩ : ByteArray)] rfl (Strs.newRow wr 9 [(⟨#[102, 101, 101, 100]⟩ : ByteArray)]) (by decide) (by simp; omega) ?_; intro v3 w3 hO3 hg3 _)
    have hg : (wr.alloc (.cells #[.string (⟨#[102, 101, 101, 100]⟩ : ByteArray)] 9)).grownBy w3 u3.ownBlock := hg3
    have hlo := hO.lt
    have hs3 := hg.size
    simp at hs3
    exact ⟨⟨3, by omega, by go_num, hO3, (hbr.alloc hbr.size _).grown hg (by simp; omega) (fun q hq => by have := hlo q hq; omega), by omega, (hD.alloc _).grown hg (fun e => by have := hlo _ e.symm; omega)⟩, by simp [intOf]⟩
  · simp only [Int.cast_ofNat_Int] at *
    obtain ⟨A, c, rfl, hA, hc⟩ := hO.form2
    go_wp2_with (go_at_call 158; refine (list_any A c (clsW 5) wr hA hc (by decide) (by decide +kernel)).mono ?_; rintro e w1 ⟨rfl, hb⟩)
    go_ret
    exact ⟨rfl, hbr.trans (hb.mono hbr.size)⟩
theorem classes_prog6 (w : World) :
    Calls Tryz.prog 165 #[.int .i64 6] w fun e w' => e = .returned (.string (joinS (clsW 6) (⟨#[44, 32]⟩ : ByteArray))) ∧ Below w.heap.size w w' := by
 go_enter Tryz.func165, Tryz.ntmps165
 go_wp2_with fail
 go_loopw [3, 8] (fun v i wr => ∃ j : Nat, j ≤ 3 ∧ i = .int .i64 j ∧ OwnS (w.heap.size + 1) wr v (clsTo 6 j) ∧ Below w.heap.size w wr ∧ w.heap.size < wr.heap.size ∧ Blk wr w.heap.size 9 #[.string (⟨#[109, 97, 99, 104, 105, 110, 101]⟩ : ByteArray), .string (⟨#[114, 97, 99, 107]⟩ : ByteArray), .string (⟨#[102, 101, 101, 100]⟩ : ByteArray)]) (fun _ i _ => 3 - (intOf i).toNat)
 case atStart => exact ⟨0, Nat.zero_le _, rfl, OwnS.nil_ _ _, (Below.refl _ _).alloc (Nat.le_refl _) _, by simp, Blk.new _ _ _⟩
 case round =>
  obtain ⟨j, hj, rfl, hO, hbr, hsz, hD⟩ := hrel
  have d0 := hD.cell 0
  have d1 := hD.cell 1
  have d2 := hD.cell 2
  simp at d0 d1 d2
  have hj3 : j = 0 ∨ j = 1 ∨ j = 2 ∨ j = 3 := by omega
  clear hj
  rcases hj3 with rfl | rfl | rfl | rfl
  · simp only [Int.cast_ofNat_Int] at *
    go_wp2_with fail
    exact ⟨⟨1, by omega, by go_num, hO, hbr, hsz, hD⟩, by simp [intOf]⟩
  · simp only [Int.cast_ofNat_Int] at *
    go_wp2_with (at_builtin; refine append_strs rfl _ _ rfl (w.heap.size + 1) u3 (clsTo 6 1) rfl (hO.alloc _) _ _ 1 [(⟨#[114, 97, 99, 107]⟩ : ByteArray)] rfl (Strs.newRow wr 9 [(⟨#[114, 97, 99, 107]⟩ : ByteArray)]) (by decide) (by simp; omega) ?_; intro v3 w3 hO3 hg3 _)
    have hg : (wr.alloc (.cells #[.string (⟨#[114, 97, 99, 107]⟩ : ByteArray)] 9)).grownBy w3 u3.ownBlock := hg3
    have hlo := hO.lt
    have hs3 := hg.size
    simp at hs3
    exact ⟨⟨2, by omega, by go_num, hO3, (hbr.alloc hbr.size _).grown hg (by simp; omega) (fun q hq => by have := hlo q hq; omega), by omega, (hD.alloc _).grown hg (fun e => by have := hlo _ e.symm; omega)⟩, by simp [intOf]⟩
  · simp only [Int.cast_ofNat_Int] at *
    go_wp2_with (at_builtin; refine append_strs rfl _ _ rfl (w.heap.size + 1) u3 (clsTo 6 2) rfl (hO.alloc _) _ _ 1 [(⟨#[102, 101, 101, 100]⟩ : ByteArray)] rfl (Strs.newRow wr 9 [(⟨#[102, 101, 101, 100]⟩ : ByteArray)]) (by decide) (by simp; omega) ?_; intro v3 w3 hO3 hg3 _)
    have hg : (wr.alloc (.cells #[.string (⟨#[102, 101, 101, 100]⟩ : ByteArray)] 9)).grownBy w3 u3.ownBlock := hg3
    have hlo := hO.lt
    have hs3 := hg.size
    simp at hs3
    exact ⟨⟨3, by omega, by go_num, hO3, (hbr.alloc hbr.size _).grown hg (by simp; omega) (fun q hq => by have := hlo q hq; omega), by omega, (hD.alloc _).grown hg (fun e => by have := hlo _ e.symm; omega)⟩, by simp [intOf]⟩
  · simp only [Int.cast_ofNat_Int] at *
    obtain ⟨A, c, rfl, hA, hc⟩ := hO.form2
    go_wp2_with (go_at_call 158; refine (list_any A c (clsW 6) wr hA hc (by decide) (by decide +kernel)).mono ?_; rintro e w1 ⟨rfl, hb⟩)
    go_ret
    exact ⟨rfl, hbr.trans (hb.mono hbr.size)⟩
theorem classes_prog7 (w : World) :
    Calls Tryz.prog 165 #[.int .i64 7] w fun e w' => e = .returned (.string (joinS (clsW 7) (⟨#[44, 32]⟩ : ByteArray))) ∧ Below w.heap.size w w' := by
 go_enter Tryz.func165, Tryz.ntmps165
 go_wp2_with fail
 go_loopw [3, 8] (fun v i wr => ∃ j : Nat, j ≤ 3 ∧ i = .int .i64 j ∧ OwnS (w.heap.size + 1) wr v (clsTo 7 j) ∧ Below w.heap.size w wr ∧ w.heap.size < wr.heap.size ∧ Blk wr w.heap.size 9 #[.string (⟨#[109, 97, 99, 104, 105, 110, 101]⟩ : ByteArray), .string (⟨#[114, 97, 99, 107]⟩ : ByteArray), .string (⟨#[102, 101, 101, 100]⟩ : ByteArray)]) (fun _ i _ => 3 - (intOf i).toNat)
 case atStart => exact ⟨0, Nat.zero_le _, rfl, OwnS.nil_ _ _, (Below.refl _ _).alloc (Nat.le_refl _) _, by simp, Blk.new _ _ _⟩
 case round =>
  obtain ⟨j, hj, rfl, hO, hbr, hsz, hD⟩ := hrel
  have d0 := hD.cell 0
  have d1 := hD.cell 1
  have d2 := hD.cell 2
  simp at d0 d1 d2
  have hj3 : j = 0 ∨ j = 1 ∨ j = 2 ∨ j = 3 := by omega
  clear hj
  rcases hj3 with rfl | rfl | rfl | rfl
  · simp only [Int.cast_ofNat_Int] at *
    go_wp2_with (at_builtin; refine append_strs rfl _ _ rfl (w.heap.size + 1) u3 (clsTo 7 0) rfl (hO.alloc _) _ _ 1 [(⟨#[109, 97, 99, 104, 105, 110, 101]⟩ : ByteArray)] rfl (Strs.newRow wr 9 [(⟨#[109, 97, 99, 104, 105, 110, 101]⟩ : ByteArray)]) (by decide) (by simp; omega) ?_; intro v3 w3 hO3 hg3 _)
    have hg : (wr.alloc (.cells #[.string (⟨#[109, 97, 99, 104, 105, 110, 101]⟩ : ByteArray)] 9)).grownBy w3 u3.ownBlock := hg3
    have hlo := hO.lt
    have hs3 := hg.size
    simp at hs3
    exact ⟨⟨1, by omega, by go_num, hO3, (hbr.alloc hbr.size _).grown hg (by simp; omega) (fun q hq => by have := hlo q hq; omega), by omega, (hD.alloc _).grown hg (fun e => by have := hlo _ e.symm; omega)⟩, by simp [intOf]⟩
  · simp only [Int.cast_ofNat_Int] at *
    go_wp2_with (at_builtin; refine append_strs rfl _ _ rfl (w.heap.size + 1) u3 (clsTo 7 1) rfl (hO.alloc _) _ _ 1 [(⟨#[114, 97, 99, 107]⟩ : ByteArray)] rfl (Strs.newRow wr 9 [(⟨#[114, 97, 99, 107]⟩ : ByteArray)]) (by decide) (by simp; omega) ?_; intro v3 w3 hO3 hg3 _)
    have hg : (wr.alloc (.cells #[.string (⟨#[114, 97, 99, 107]⟩ : ByteArray)] 9)).grownBy w3 u3.ownBlock := hg3
    have hlo := hO.lt
    have hs3 := hg.size
    simp at hs3
    exact ⟨⟨2, by omega, by go_num, hO3, (hbr.alloc hbr.size _).grown hg (by simp; omega) (fun q hq => by have := hlo q hq; omega), by omega, (hD.alloc _).grown hg (fun e => by have := hlo _ e.symm; omega)⟩, by simp [intOf]⟩
  · simp only [Int.cast_ofNat_Int] at *
    go_wp2_with (at_builtin; refine append_strs rfl _ _ rfl (w.heap.size + 1) u3 (clsTo 7 2) rfl (hO.alloc _) _ _ 1 [(⟨#[102, 101, 101, 100]⟩ : ByteArray)] rfl (Strs.newRow wr 9 [(⟨#[102, 101, 101, 100]⟩ : ByteArray)]) (by decide) (by simp; omega) ?_; intro v3 w3 hO3 hg3 _)
    have hg : (wr.alloc (.cells #[.string (⟨#[102, 101, 101, 100]⟩ : ByteArray)] 9)).grownBy w3 u3.ownBlock := hg3
    have hlo := hO.lt
    have hs3 := hg.size
    simp at hs3
    exact ⟨⟨3, by omega, by go_num, hO3, (hbr.alloc hbr.size _).grown hg (by simp; omega) (fun q hq => by have := hlo q hq; omega), by omega, (hD.alloc _).grown hg (fun e => by have := hlo _ e.symm; omega)⟩, by simp [intOf]⟩
  · simp only [Int.cast_ofNat_Int] at *
    obtain ⟨A, c, rfl, hA, hc⟩ := hO.form2
    go_wp2_with (go_at_call 158; refine (list_any A c (clsW 7) wr hA hc (by decide) (by decide +kernel)).mono ?_; rintro e w1 ⟨rfl, hb⟩)
    go_ret
    exact ⟨rfl, hbr.trans (hb.mono hbr.size)⟩
end Go.Proofs.YtlnjaemdelnceaaGreatDoor
