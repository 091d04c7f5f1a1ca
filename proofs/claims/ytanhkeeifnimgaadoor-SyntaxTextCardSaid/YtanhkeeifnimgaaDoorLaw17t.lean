/- The walk of exoduslaw17.SyntaxText: it answers true. Printed by wip/gen_law17.py. Conditions: the tables are laid; lengths that fit memory. -/
import Derived.Test.YtanhkeeifnimgaaDoorAwake17
import Derived.Test.YtanhkeeifnimgaaDoorRef17k
import Derived.Test.YtanhkeeifnimgaaDoorRef17g
namespace Go.Proofs.YtanhkeeifnimgaaDoor
open Go Go.RowKit Go.Proofs

set_option maxRecDepth 100000 in
set_option maxHeartbeats 4000000 in
theorem syntaxText_walk (k : Int) (nm : ByteArray) (ra : Option Addr) (refs : List ByteArray) (rc : Nat) (na : Option Addr) (nums : List Int) (nc : Nat) (bY : Int) (al : Bool) (w : World) (ha : Asc w) (hp : Pow w) (hs : nm.size ≤ 9223372036854775807) (hf : Fit refs) (hl : refs.length ≤ 9223372036854775807) (hm : nums.length ≤ 9223372036854775807) (hrc : refs.length ≤ rc) (hnc : nums.length ≤ nc) (hr : Strs w w.heap.size ra refs) (hn : Ints w w.heap.size na nums) :
    Calls Tryd.prog 6 #[.agg #[.int .i64 k, .string nm, .slice ra refs.length rc, .slice na nums.length nc, .int .i64 bY, .bool al]] w fun e w' => e = .returned (.bool true) ∧ Below w.heap.size w w' := by
  have hB0 : Below w.heap.size w (w.alloc (.cells #[.int .i64 k, .string nm, .slice ra refs.length rc, .slice na nums.length nc, .int .i64 bY, .bool al] 38)) := (Below.refl _ _).alloc (Nat.le_refl _) _
  have HW := hide (awake17 _ (Asc.below ha (Nat.le_refl _) hB0) (Pow.below hp (Nat.le_refl _) hB0))
  have HA := hide ha
  have HP := hide hp
  clear ha hp
  have HFW := fun (A : Option Addr) (X : World) (h : Decls X X.heap.size A [⟨k, nm, refs, nums, bY, al⟩]) => few_ref A 1 _ X h (by simp)
  have HTP := (fun X h1 h2 h3 h4 => text_prog k nm ra refs rc na nums nc bY al X h1 h2 hs hf hl hm hrc h3 h4)
  have HTR := (fun X h2 h3 => text_ref k nm ra refs rc na nums nc bY al X hs hf hl hm hrc hnc h2 h3)
  generalize textB k nm refs nums bY al = v at HTP HTR
  have HTP := hide HTP
  have HTR := hide HTR
  have HKP := (fun X => kindName_prog k X)
  have HKR := (fun X => kindName_ref k X)
  generalize kindName k = u at HKP HKR
  have HKP := hide HKP
  have HKR := hide HKR
  have hv1 : (v.toList == v.toList) = true := by simp
  have hv2 : (u.toList == u.toList) = true := by simp
  generalize fewB [⟨k, nm, refs, nums, bY, al⟩] = q at HFW
  have HFW := hide HFW
  cases q
  rotate_left
  · go_enter Tryd.func6, Tryd.ntmps6
    go_wp2_with (go_at_call 14; refine HW.out.mono ?_; rintro e w1 ⟨rfl, hb1⟩)
    have eB : Below w.heap.size w w1 := hB0.trans (hb1.mono hB0.size)
    have hD := (Blk.new w 38 #[.int .i64 k, .string nm, .slice ra refs.length rc, .slice na nums.length nc, .int .i64 bY, .bool al]).below hb1 (by simp)
    have eZ := hD.lt
    have d0 := hD.cell 0
    have d1 := hD.cell 1
    have d2 := hD.cell 2
    have d3 := hD.cell 3
    have d4 := hD.cell 4
    have d5 := hD.cell 5
    simp at d0 d1 d2 d3 d4 d5
    clear hb1 hD hB0
    first | (go_region_held3 (fun X => X.cell? ⟨w.heap.size, 0, none⟩ = some (.int .i64 k) ∧ X.cell? ⟨w.heap.size, 1, none⟩ = some (.string nm) ∧ X.cell? ⟨w.heap.size, 2, none⟩ = some (.slice ra refs.length rc) ∧ X.cell? ⟨w.heap.size, 3, none⟩ = some (.slice na nums.length nc) ∧ X.cell? ⟨w.heap.size, 4, none⟩ = some (.int .i64 bY) ∧ X.cell? ⟨w.heap.size, 5, none⟩ = some (.bool al) ∧ w.heap.size < X.heap.size ∧ Below w.heap.size w X) ((first | (go_keep; done) | (refine ⟨?_, ?_, ?_, ?_, ?_, ?_, ?_, ?_⟩ <;> (first | assumption | exact eB.drew | exact eZ | exact d0 | exact d1 | exact d2 | exact d3 | exact d4 | exact d5 | (simp; done) | (simp; omega) | exact (World.cell?_alloc_lt _ _ _ eZ).trans (by assumption) | exact (World.cell?_alloc_lt _ _ _ cZ).trans (by assumption) | exact (World.cell?_alloc_lt _ _ _ (Nat.lt_of_succ_lt eZ)).trans (by assumption) | exact (World.cell?_alloc_lt _ _ _ (Nat.lt_of_succ_lt cZ)).trans (by assumption) | exact eB.drew.alloc eB.size _ | exact cB.alloc cB.size _ | (trace_state; fail))))) ((first | (go_at_call 15; have hH := (by assumption : _ ∧ _ ∧ _ ∧ _ ∧ _ ∧ _ ∧ w.heap.size < _ ∧ Below w.heap.size w _); obtain ⟨a0, a1, a2, a3, a4, a5, aZ, aB⟩ := hH; have sr := (hr.below aB).more aB.size; have sn := (hn.below aB).more aB.size; refine (HFW.out _ _ ((Decls.new1 _ ⟨k, nm, refs, nums, bY, al⟩ ra rc na nc ⟨hrc, hnc⟩ ((hr.below eB.drew).more eB.size) ((hn.below eB.drew).more eB.size) ⟨hs, hf, hl, hm⟩ 38).more (by simp))).mono ?_; rintro e w2 ⟨rfl, rfl⟩) | (go_at_call 18; have hH := (by assumption : _ ∧ _ ∧ _ ∧ _ ∧ _ ∧ _ ∧ w.heap.size < _ ∧ Below w.heap.size w _); obtain ⟨a0, a1, a2, a3, a4, a5, aZ, aB⟩ := hH; have sr := (hr.below aB).more aB.size; have sn := (hn.below aB).more aB.size; refine (HTP.out _ (Asc.below HA.out (Nat.le_refl _) aB) (Pow.below HP.out (Nat.le_refl _) aB) sr sn).mono ?_; rintro e w3 ⟨rfl, hb⟩; have c0 := (hb.cell (p := ⟨w.heap.size, 0, none⟩) (by simp; omega)).trans a0; have c1 := (hb.cell (p := ⟨w.heap.size, 1, none⟩) (by simp; omega)).trans a1; have c2 := (hb.cell (p := ⟨w.heap.size, 2, none⟩) (by simp; omega)).trans a2; have c3 := (hb.cell (p := ⟨w.heap.size, 3, none⟩) (by simp; omega)).trans a3; have c4 := (hb.cell (p := ⟨w.heap.size, 4, none⟩) (by simp; omega)).trans a4; have c5 := (hb.cell (p := ⟨w.heap.size, 5, none⟩) (by simp; omega)).trans a5; have cZ := Nat.lt_of_lt_of_le aZ hb.size; have cB := aB.trans (hb.mono aB.size); clear a0 a1 a2 a3 a4 a5 aZ aB hb) | (go_at_call 19; have hH := (by assumption : _ ∧ _ ∧ _ ∧ _ ∧ _ ∧ _ ∧ w.heap.size < _ ∧ Below w.heap.size w _); obtain ⟨a0, a1, a2, a3, a4, a5, aZ, aB⟩ := hH; have sr := (hr.below aB).more aB.size; have sn := (hn.below aB).more aB.size; refine (HTR.out _ sr sn).mono ?_; rintro e w3 ⟨rfl, hb⟩; have c0 := (hb.cell (p := ⟨w.heap.size, 0, none⟩) (by simp; omega)).trans a0; have c1 := (hb.cell (p := ⟨w.heap.size, 1, none⟩) (by simp; omega)).trans a1; have c2 := (hb.cell (p := ⟨w.heap.size, 2, none⟩) (by simp; omega)).trans a2; have c3 := (hb.cell (p := ⟨w.heap.size, 3, none⟩) (by simp; omega)).trans a3; have c4 := (hb.cell (p := ⟨w.heap.size, 4, none⟩) (by simp; omega)).trans a4; have c5 := (hb.cell (p := ⟨w.heap.size, 5, none⟩) (by simp; omega)).trans a5; have cZ := Nat.lt_of_lt_of_le aZ hb.size; have cB := aB.trans (hb.mono aB.size); clear a0 a1 a2 a3 a4 a5 aZ aB hb) | (go_at_call 20; have hH := (by assumption : _ ∧ _ ∧ _ ∧ _ ∧ _ ∧ _ ∧ w.heap.size < _ ∧ Below w.heap.size w _); obtain ⟨a0, a1, a2, a3, a4, a5, aZ, aB⟩ := hH; have sr := (hr.below aB).more aB.size; have sn := (hn.below aB).more aB.size; refine (HKP.out _).mono ?_; rintro e w3 ⟨rfl, hb⟩; have c0 := (hb.cell (p := ⟨w.heap.size, 0, none⟩) (by simp; omega)).trans a0; have c1 := (hb.cell (p := ⟨w.heap.size, 1, none⟩) (by simp; omega)).trans a1; have c2 := (hb.cell (p := ⟨w.heap.size, 2, none⟩) (by simp; omega)).trans a2; have c3 := (hb.cell (p := ⟨w.heap.size, 3, none⟩) (by simp; omega)).trans a3; have c4 := (hb.cell (p := ⟨w.heap.size, 4, none⟩) (by simp; omega)).trans a4; have c5 := (hb.cell (p := ⟨w.heap.size, 5, none⟩) (by simp; omega)).trans a5; have cZ := Nat.lt_of_lt_of_le aZ hb.size; have cB := aB.trans (hb.mono aB.size); clear a0 a1 a2 a3 a4 a5 aZ aB hb) | (go_at_call 21; have hH := (by assumption : _ ∧ _ ∧ _ ∧ _ ∧ _ ∧ _ ∧ w.heap.size < _ ∧ Below w.heap.size w _); obtain ⟨a0, a1, a2, a3, a4, a5, aZ, aB⟩ := hH; have sr := (hr.below aB).more aB.size; have sn := (hn.below aB).more aB.size; refine (HKR.out _).mono ?_; rintro e w3 ⟨rfl, hb⟩; have c0 := (hb.cell (p := ⟨w.heap.size, 0, none⟩) (by simp; omega)).trans a0; have c1 := (hb.cell (p := ⟨w.heap.size, 1, none⟩) (by simp; omega)).trans a1; have c2 := (hb.cell (p := ⟨w.heap.size, 2, none⟩) (by simp; omega)).trans a2; have c3 := (hb.cell (p := ⟨w.heap.size, 3, none⟩) (by simp; omega)).trans a3; have c4 := (hb.cell (p := ⟨w.heap.size, 4, none⟩) (by simp; omega)).trans a4; have c5 := (hb.cell (p := ⟨w.heap.size, 5, none⟩) (by simp; omega)).trans a5; have cZ := Nat.lt_of_lt_of_le aZ hb.size; have cB := aB.trans (hb.mono aB.size); clear a0 a1 a2 a3 a4 a5 aZ aB hb)))) | fail
    all_goals
      go_wp2_with fail
      go_ret
      exact ⟨by first | rfl | exact ret_congr (by simp [*]), by first | exact cB | exact eB.drew.alloc eB.size _ | exact eB⟩
  · go_enter Tryd.func6, Tryd.ntmps6
    go_wp2_with (go_at_call 14; refine HW.out.mono ?_; rintro e w1 ⟨rfl, hb1⟩)
    have eB : Below w.heap.size w w1 := hB0.trans (hb1.mono hB0.size)
    have hD := (Blk.new w 38 #[.int .i64 k, .string nm, .slice ra refs.length rc, .slice na nums.length nc, .int .i64 bY, .bool al]).below hb1 (by simp)
    have eZ := hD.lt
    have d0 := hD.cell 0
    have d1 := hD.cell 1
    have d2 := hD.cell 2
    have d3 := hD.cell 3
    have d4 := hD.cell 4
    have d5 := hD.cell 5
    simp at d0 d1 d2 d3 d4 d5
    clear hb1 hD hB0
    have hU : undef = Value.tuple #[] := rfl
    first | (go_region_with ((first | (go_at_call 15; refine (HFW.out _ _ ((Decls.new1 _ ⟨k, nm, refs, nums, bY, al⟩ ra rc na nc ⟨hrc, hnc⟩ ((hr.below eB.drew).more eB.size) ((hn.below eB.drew).more eB.size) ⟨hs, hf, hl, hm⟩ 38).more (by simp))).mono ?_; rintro e w2 ⟨rfl, rfl⟩)))) | fail
    all_goals
      go_wp2_with fail
      go_ret
      exact ⟨by first | rfl | exact ret_congr (by simp [*]), by first | exact cB | exact eB.drew.alloc eB.size _ | exact eB⟩
end Go.Proofs.YtanhkeeifnimgaaDoor
