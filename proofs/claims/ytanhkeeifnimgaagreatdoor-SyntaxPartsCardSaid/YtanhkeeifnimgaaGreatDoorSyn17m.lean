/- The walk of the closure 'text' of 'only'. Printed by wip/gen_texts3.py. Conditions: lengths that fit memory; the tables are laid. -/
import Derived.Test.YtanhkeeifnimgaaGreatDoorSyn17l
namespace Go.Proofs.YtanhkeeifnimgaaGreatDoor
open Go Go.RowKit Go.Proofs

theorem OwnS.form2 {B : Nat} {w : World} {v : Value} {l : List ByteArray} (h : OwnS B w v l) : ∃ A c, v = .slice A l.length c ∧ Strs w w.heap.size A l ∧ l.length ≤ c := by
  have h2 := h
  rcases h2.2 with ⟨rfl, h0⟩ | ⟨g, cap, cur, rfl, _, _, hc, _⟩
  · have : l = [] := List.eq_nil_of_length_eq_zero h0
    subst this
    exact ⟨none, 0, rfl, Reads.none_, Nat.le_refl _⟩
  · exact ⟨_, _, rfl, Reads.of_own h, hc⟩

set_option maxHeartbeats 4000000 in
theorem text_only (k : Int) (nm : ByteArray) (ra : Option Addr) (refs : List ByteArray) (rc : Nat) (na : Option Addr) (nums : List Int) (nc : Nat) (bY : Int) (al : Bool) (w : World) (_hp : Pow w)
    (hr : Strs w w.heap.size ra refs) (hrc : refs.length ≤ rc) (hrl : refs.length ≤ 140737488355328) (_hl2 : nums.length ≤ 9223372036854775807) (_hall : nums.all numOk = true) (_hn : Ints w w.heap.size na nums) (hj : (Lib.join (refs.tail.map (·.data.toList)) [44, 32]).length ≤ 140737488355328) (hlen : 2 ≤ refs.length) :
    Calls Tryz.prog 78 #[.agg #[.int .i64 k, .string nm, .slice ra refs.length rc, .slice na nums.length nc, .int .i64 bY, .bool al]] w fun e w' => ∃ v, e = .returned v ∧ OwnS w.heap.size w' v [refs.getD 0 ByteArray.empty, (⟨#[111, 110]⟩ : ByteArray), joinS refs.tail (⟨#[44, 32]⟩ : ByteArray)] ∧ Below w.heap.size w w' := by
  obtain ⟨rb, ro, rfl, hrb, hrc0⟩ := hr.form (by intro h; simp [h] at hlen)
  have hq0 := hrc0 0 (by omega)
  simp only [Nat.add_zero] at hq0
  clear hrc0
  have hlt0 : (0 : Int) < (refs.length : Int) := by omega
  have hmt0 : 0 < refs.length := by omega
  have hz0 : (w.alloc (.cells #[.int .i64 k, .string nm, .slice (some ⟨rb, ro, none⟩) refs.length rc, .slice na nums.length nc, .int .i64 bY, .bool al] 25)).cell? ⟨rb, ro, none⟩ = some (.string (refs.getD 0 ByteArray.empty)) := (World.cell?_alloc_lt _ _ _ hrb).trans hq0
  clear hq0
  generalize er0 : refs.getD 0 ByteArray.empty = r0 at *
  have ER0 := hide er0
  clear er0
  have htail : ∀ W, Below w.heap.size w W → Strs W W.heap.size (some ⟨rb, ro + 1, none⟩) refs.tail := by
    intro W hW
    have h1 := Reads.cut (k := 1) (cap := rc) ((hr.below hW).more hW.size) (by omega) hrc
    rw [if_neg (by omega)] at h1
    rw [← List.drop_one]
    unfold Strs
    simpa [add_none] using h1
  have HTL := hide htail
  clear htail
  have hcl : ∀ W, Below w.heap.size w W → Calls Tryz.prog 66 #[.slice (some ⟨rb, ro + 1, none⟩) (refs.length - 1) (rc - 1)] W fun e w' => e = .returned (.string (joinS refs.tail (⟨#[44, 32]⟩ : ByteArray))) ∧ Below W.heap.size W w' := by
    intro W hW
    have := list_any _ (rc - 1) refs.tail W (HTL.out W hW) (by simp; omega) (by simp; omega) hj
    rw [List.length_tail] at this
    exact this
  have HCL := hide hcl
  clear hcl
  have e1 : (1 : Int) ≤ (refs.length : Int) := by omega
  have e3 : ¬ rc = 1 := by omega
  have hsl : ∀ W, (Instr.sliceAt 22 (.slice (some ⟨rb, ro, none⟩) refs.length rc) (some (.int .i64 1)) none none).run Tryz.prog W = .ok (.slice (some ⟨rb, ro + 1, none⟩) (refs.length - 1) (rc - 1)) W := by
    intro W
    simp [go_sem, e1, e3]
  clear e1 e3
  go_enter Tryz.func78, Tryz.ntmps78
  go_wp2_with fail
  go_region_held3 (fun W => W.cell? ⟨w.heap.size, 0, none⟩ = some (.int .i64 k) ∧ W.cell? ⟨w.heap.size, 1, none⟩ = some (.string nm) ∧ W.cell? ⟨w.heap.size, 2, none⟩ = some (.slice (some ⟨rb, ro, none⟩) refs.length rc) ∧ W.cell? ⟨w.heap.size, 3, none⟩ = some (.slice na nums.length nc) ∧ W.cell? ⟨w.heap.size, 4, none⟩ = some (.int .i64 bY) ∧ W.cell? ⟨w.heap.size, 5, none⟩ = some (.bool al) ∧ W.cell? ⟨rb, ro, none⟩ = some (.string r0) ∧ w.heap.size < W.heap.size ∧ Below w.heap.size w W)
    (refine ⟨?_, ?_, ?_, ?_, ?_, ?_, ?_, ?_, ?_⟩ <;> (first | assumption | exact cell?_new _ _ _ _ | exact (World.cell?_alloc_lt _ _ _ (Nat.lt_of_lt_of_le hrb cB)).trans (by assumption) | exact (World.cell?_alloc_lt _ _ _ hrb).trans (by assumption) | exact (World.cell?_alloc_lt _ _ _ cz).trans (by assumption) | (simp; done) | (simp; omega) | exact ((Below.refl _ _).alloc (Nat.le_refl _) _).drew | exact hS1.alloc hS1.size _))
    ((first | (go_at_call 66; have hH := (by assumption : _ ∧ _ ∧ _ ∧ _ ∧ _ ∧ _ ∧ _ ∧ w.heap.size < _ ∧ Below w.heap.size w _); refine (HCL.out _ hH.2.2.2.2.2.2.2.2).mono ?_; rintro e w1 ⟨rfl, hb⟩; obtain ⟨a0, a1, a2, a3, a4, a5, b0, az, hS⟩ := hH; have c0 := (hb.cell (p := ⟨w.heap.size, 0, none⟩) az).trans a0; have c1 := (hb.cell (p := ⟨w.heap.size, 1, none⟩) az).trans a1; have c2 := (hb.cell (p := ⟨w.heap.size, 2, none⟩) az).trans a2; have c3 := (hb.cell (p := ⟨w.heap.size, 3, none⟩) az).trans a3; have c4 := (hb.cell (p := ⟨w.heap.size, 4, none⟩) az).trans a4; have c5 := (hb.cell (p := ⟨w.heap.size, 5, none⟩) az).trans a5; have q0 := (hb.cell (p := ⟨rb, ro, none⟩) (Nat.lt_of_lt_of_le hrb hS.size)).trans b0; have cz := Nat.lt_of_lt_of_le az hb.size; have hS1 := hS.trans (hb.mono hS.size); have cB := hS1.size; clear a0 a1 a2 a3 a4 a5 b0 az hS hb)))
  all_goals
    go_wp2_with fail
    go_ret
    exact ⟨_, rfl, OwnS.new _ [r0, (⟨#[111, 110]⟩ : ByteArray), joinS refs.tail (⟨#[44, 32]⟩ : ByteArray)] (by first | exact hS1.size | simp) (by unfold maxLen; simp), by first | exact hS1.alloc hS1.size _ | exact (((Below.refl _ _).alloc (Nat.le_refl _) _).drew).alloc (by simp) _⟩
end Go.Proofs.YtanhkeeifnimgaaGreatDoor
