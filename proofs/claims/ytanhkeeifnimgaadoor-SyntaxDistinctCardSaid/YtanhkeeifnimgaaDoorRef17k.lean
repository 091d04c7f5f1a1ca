/- The walks of exodusref17.Text and Format. Conditions: lengths that fit memory. -/
import Derived.Test.YtanhkeeifnimgaaDoorRef17j
namespace Go.Proofs.YtanhkeeifnimgaaDoor
open Go Go.RowKit Go.Proofs

theorem kindName_form {k : Int} {f : Form} (h : form? k = some f) : kindName k = f.word := by unfold kindName; rw [h]
theorem textB_eq {k : Int} {f : Form} (hfm : form? k = some f) (nm : ByteArray) (refs : List ByteArray) (nums : List Int) (bY : Int) (al : Bool) (hv : validB k nm refs nums bY al = true) :
    textB k nm refs nums bY al = f.word ++ (⟨#[32]⟩ : ByteArray) ++ bodyB k nm refs nums bY al ++ (⟨#[59]⟩ : ByteArray) := by
  unfold textB textS
  rw [hv, hfm, ← body_eq hfm nm refs nums bY al hv]
  rfl

set_option maxRecDepth 100000 in
set_option maxHeartbeats 2000000 in
theorem text_ref (k : Int) (nm : ByteArray) (ra : Option Addr) (refs : List ByteArray) (rc : Nat) (na : Option Addr) (nums : List Int) (nc : Nat) (bY : Int) (al : Bool) (w : World)
    (hs : nm.size ≤ 9223372036854775807) (hf : Fit refs) (hl1 : refs.length ≤ 9223372036854775807) (hl2 : nums.length ≤ 9223372036854775807) (hrc : refs.length ≤ rc) (hnc : nums.length ≤ nc) (hr : Strs w w.heap.size ra refs) (hn : Ints w w.heap.size na nums) :
    Calls Tryd.prog 19 #[.agg #[.int .i64 k, .string nm, .slice ra refs.length rc, .slice na nums.length nc, .int .i64 bY, .bool al]] w
      fun e w' => e = .returned (.string (textB k nm refs nums bY al)) ∧ Below w.heap.size w w' := by
  have hB0 : Below w.heap.size w (w.alloc (.cells #[.int .i64 k, .string nm, .slice ra refs.length rc, .slice na nums.length nc, .int .i64 bY, .bool al] 38)) := (Below.refl _ _).alloc (Nat.le_refl _) _
  have HVP := hide (valid_ref k nm ra refs rc na nums nc bY al _ hs hf hl1 hl2 ((hr.below hB0).more hB0.size) ((hn.below hB0).more hB0.size))
  cases hv : validB k nm refs nums bY al with
  | false =>
    rw [hv] at HVP
    have HT := hide (show textB k nm refs nums bY al = ⟨#[]⟩ by simp [textB, hv])
    clear hv hB0
    go_enter Tryd.func19, Tryd.ntmps19
    go_wp2_with (go_at_call 17; refine Calls.mono HVP.out ?_; rintro e w1 ⟨rfl, hb⟩)
    go_ret
    exact ⟨ret_congr (by rw [HT.out]; rfl), ((Below.refl _ _).alloc (Nat.le_refl _) _).trans (hb.mono (by simp))⟩
  | true =>
    rw [hv] at HVP
    cases hfm : form? k with
    | none => rw [validB_none hfm] at hv; cases hv
    | some f =>
      have HT := hide (textB_eq hfm nm refs nums bY al hv)
      have hts := textS_size hfm (words_small hfm hv)
      have hw := word_size hfm
      have he := body_eq hfm nm refs nums bY al hv
      unfold textS at hts
      rw [he] at hts
      have hbz : (bodyB k nm refs nums bY al).size ≤ 40050 := by simp only [ByteArray.size_append] at hts; omega
      have HKN := (fun X => kindName_ref k X)
      rw [kindName_form hfm] at HKN
      have HKN := hide HKN
      have HBR := hide (fun X hX hY => body_ref hfm nm ra refs rc na nums nc bY al X hv hrc hnc hX hY)
      clear he hts hfm hv
      generalize bodyB k nm refs nums bY al = b at HT HBR hbz
      generalize f.word = fw at HT HKN hw
      go_enter Tryd.func19, Tryd.ntmps19
      go_wp2_with (go_at_call 17; refine Calls.mono HVP.out ?_; rintro e w1 ⟨rfl, hb⟩)
      have eB : Below w.heap.size w w1 := hB0.trans (hb.mono hB0.size)
      have hD := (Blk.new w 38 #[.int .i64 k, .string nm, .slice ra refs.length rc, .slice na nums.length nc, .int .i64 bY, .bool al]).below hb (by simp)
      have eZ := hD.lt
      have d0 := hD.cell 0
      have d1 := hD.cell 1
      have d2 := hD.cell 2
      have d3 := hD.cell 3
      have d4 := hD.cell 4
      have d5 := hD.cell 5
      simp at d0 d1 d2 d3 d4 d5
      clear hb hD hB0 HVP
      have h1 : ((⟨#[32]⟩ : ByteArray) : ByteArray).size ≤ 1 := Nat.le_refl _
      have h2 : ((⟨#[59]⟩ : ByteArray) : ByteArray).size ≤ 1 := Nat.le_refl _
      have q1 : ∀ W, (Op.stringOp .add fw (⟨#[32]⟩ : ByteArray)).run Tryd.prog W = .ok (.string (fw ++ (⟨#[32]⟩ : ByteArray))) W := fun W => run_string_add_sum W _ _ (by omega)
      have q2 : ∀ W, (Op.stringOp .add (fw ++ (⟨#[32]⟩ : ByteArray)) b).run Tryd.prog W = .ok (.string (fw ++ (⟨#[32]⟩ : ByteArray) ++ b)) W := fun W => run_string_add_sum W _ _ (by simp only [ByteArray.size_append]; omega)
      have q3 : ∀ W, (Op.stringOp .add (fw ++ (⟨#[32]⟩ : ByteArray) ++ b) (⟨#[59]⟩ : ByteArray)).run Tryd.prog W = .ok (.string (fw ++ (⟨#[32]⟩ : ByteArray) ++ b ++ (⟨#[59]⟩ : ByteArray))) W := fun W => run_string_add_sum W _ _ (by simp only [ByteArray.size_append]; omega)
      go_region_held3 (fun X => X.cell? ⟨w.heap.size, 0, none⟩ = some (.int .i64 k) ∧ X.cell? ⟨w.heap.size, 1, none⟩ = some (.string nm) ∧ X.cell? ⟨w.heap.size, 2, none⟩ = some (.slice ra refs.length rc) ∧ X.cell? ⟨w.heap.size, 3, none⟩ = some (.slice na nums.length nc) ∧ X.cell? ⟨w.heap.size, 4, none⟩ = some (.int .i64 bY) ∧ X.cell? ⟨w.heap.size, 5, none⟩ = some (.bool al) ∧ w.heap.size < X.heap.size ∧ Below w.heap.size w X)
        ((first | (go_keep; done) | (refine ⟨?_, ?_, ?_, ?_, ?_, ?_, ?_, ?_⟩ <;> (first | assumption | exact eB.drew | exact d0 | exact d1 | exact d2 | exact d3 | exact d4 | exact d5 | exact eZ))))
        ((first
          | (go_at_call 21; have hH := (by assumption : _ ∧ _ ∧ _ ∧ _ ∧ _ ∧ _ ∧ w.heap.size < _ ∧ Below w.heap.size w _); obtain ⟨a0, a1, a2, a3, a4, a5, aZ, aB⟩ := hH; refine (HKN.out _).mono ?_; rintro e w2 ⟨rfl, hb⟩; have c0 := (hb.cell (p := ⟨w.heap.size, 0, none⟩) (by simp; omega)).trans a0; have c1 := (hb.cell (p := ⟨w.heap.size, 1, none⟩) (by simp; omega)).trans a1; have c2 := (hb.cell (p := ⟨w.heap.size, 2, none⟩) (by simp; omega)).trans a2; have c3 := (hb.cell (p := ⟨w.heap.size, 3, none⟩) (by simp; omega)).trans a3; have c4 := (hb.cell (p := ⟨w.heap.size, 4, none⟩) (by simp; omega)).trans a4; have c5 := (hb.cell (p := ⟨w.heap.size, 5, none⟩) (by simp; omega)).trans a5; have cZ := Nat.lt_of_lt_of_le aZ hb.size; have cB := aB.trans (hb.mono aB.size); clear a0 a1 a2 a3 a4 a5 aZ aB hb)
          | (go_at_call 43; have hH := (by assumption : _ ∧ _ ∧ _ ∧ _ ∧ _ ∧ _ ∧ w.heap.size < _ ∧ Below w.heap.size w _); obtain ⟨a0, a1, a2, a3, a4, a5, aZ, aB⟩ := hH; refine (HBR.out _ ((hr.below aB).more aB.size) ((hn.below aB).more aB.size)).mono ?_; rintro e w2 ⟨rfl, hb⟩; have c0 := (hb.cell (p := ⟨w.heap.size, 0, none⟩) (by simp; omega)).trans a0; have c1 := (hb.cell (p := ⟨w.heap.size, 1, none⟩) (by simp; omega)).trans a1; have c2 := (hb.cell (p := ⟨w.heap.size, 2, none⟩) (by simp; omega)).trans a2; have c3 := (hb.cell (p := ⟨w.heap.size, 3, none⟩) (by simp; omega)).trans a3; have c4 := (hb.cell (p := ⟨w.heap.size, 4, none⟩) (by simp; omega)).trans a4; have c5 := (hb.cell (p := ⟨w.heap.size, 5, none⟩) (by simp; omega)).trans a5; have cZ := Nat.lt_of_lt_of_le aZ hb.size; have cB := aB.trans (hb.mono aB.size); clear a0 a1 a2 a3 a4 a5 aZ aB hb)))
      all_goals
        go_wp2_with fail
        go_ret
        exact ⟨ret_congr (by rw [HT.out]; rfl), cB⟩
end Go.Proofs.YtanhkeeifnimgaaDoor
