/- The walk of exodusref17.Format. Conditions: lengths that fit memory. -/
import Derived.Test.YtanhkeeifnimgaaDoorRef17k
namespace Go.Proofs.YtanhkeeifnimgaaDoor
open Go Go.RowKit Go.Proofs

theorem S_cat_size {l : List Decl} (h : l.all okD = true) (hl : l.length ≤ 65536) : (S (cat l)).size ≤ 65536 * 40051 := by
  have := cat_len l h
  have h2 : l.length * 40051 ≤ 65536 * 40051 := Nat.mul_le_mul hl (Nat.le_refl _)
  show (cat l).toArray.size ≤ _
  simp; omega

set_option maxRecDepth 100000 in
set_option maxHeartbeats 4000000 in
theorem format_ref (A : Option Addr) (c : Nat) (l : List Decl) (w : World) (h : Decls w w.heap.size A l) (hl : l.length ≤ 65536) :
    Calls Tryd.prog 23 #[.slice A l.length c] w fun e w' => e = .returned (.string (S (formatL l))) ∧ Below w.heap.size w w' := by
  go_enter Tryd.func23, Tryd.ntmps23
  go_wp2_with fail
  go_loopw [3, 4] (fun s i wr => ∃ k : Nat, k ≤ l.length ∧ i = .int .i64 k ∧ s = .string (S (cat (l.take k))) ∧ Below w.heap.size w wr ∧ Hid ((l.take k).all okD = true)) (fun _ i _ => l.length - (intOf i).toNat)
  case atStart => exact ⟨0, Nat.zero_le _, rfl, rfl, Below.refl _ _, hide (by simp)⟩
  case round =>
    obtain ⟨k, hk, rfl, rfl, hbr, hall⟩ := hrel
    by_cases hlt : k < l.length
    · have hltI : (k : Int) < (l.length : Int) := by omega
      obtain ⟨b1, o1, ra, rc, na, nc, rfl, hb1, x0, x1, x2, x3, x4, x5, ⟨hrc, hnc⟩, hr, hn, hf⟩ := Decls.at2_ (h.below hbr) hlt
      have hb1' : b1 < wr.heap.size := Nat.lt_of_lt_of_le hb1 hbr.size
      have HVR := (fun (X : World) (h2 : Strs X X.heap.size ra l[k].refs) (h3 : Ints X X.heap.size na l[k].nums) => valid_ref l[k].kind l[k].name ra l[k].refs rc na l[k].nums nc l[k].by_ l[k].always X hf.1 hf.2.1 hf.2.2.1 hf.2.2.2 h2 h3)
      have HTR := (fun (X : World) (h2 : Strs X X.heap.size ra l[k].refs) (h3 : Ints X X.heap.size na l[k].nums) => text_ref l[k].kind l[k].name ra l[k].refs rc na l[k].nums nc l[k].by_ l[k].always X hf.1 hf.2.1 hf.2.2.1 hf.2.2.2 hrc hnc h2 h3)
      have hr' := hr.more hbr.size
      have hn' := hn.more hbr.size
      have ht := S_cat_size (l := l.take k) hall.out (by simp; omega)
      cases hv : okD l[k]
      · have HF := hide (show formatL l = [] by simp [formatL, all_false_at hlt hv])
        have hv' : validB l[k].kind l[k].name l[k].refs l[k].nums l[k].by_ l[k].always = false := hv
        rw [hv'] at HVR
        have HVR := hide HVR
        clear hv hv' HTR
        go_wp2_with (go_at_call 17; refine (HVR.out _ hr' hn').mono ?_; rintro e w3 ⟨rfl, hb3⟩)
        go_ret
        exact ⟨ret_congr (by rw [HF.out]; rfl), hbr.trans (hb3.mono hbr.size)⟩
      · have hsz := textD_valid hv
        have HC := hide (cat_take hlt)
        have hv' : validB l[k].kind l[k].name l[k].refs l[k].nums l[k].by_ l[k].always = true := hv
        rw [hv'] at HVR
        have HVR := hide HVR
        have hte : textB l[k].kind l[k].name l[k].refs l[k].nums l[k].by_ l[k].always = textD l[k] := rfl
        rw [hte] at HTR
        have HTR := hide HTR
        have HV := hide hv
        clear hte hv hv'
        generalize textD l[k] = t at HTR hsz HC
        generalize hs : S (cat (l.take k)) = s at ht
        have HS := hide hs
        clear hs
        have h1 : ((⟨#[10]⟩ : ByteArray) : ByteArray).size ≤ 1 := Nat.le_refl _
        have q1 : ∀ W, (Op.stringOp .add s t).run Tryd.prog W = .ok (.string (s ++ t)) W := fun W => run_string_add_sum W _ _ (by omega)
        have q2 : ∀ W, (Op.stringOp .add (s ++ t) (⟨#[10]⟩ : ByteArray)).run Tryd.prog W = .ok (.string (s ++ t ++ (⟨#[10]⟩ : ByteArray))) W := fun W => run_string_add_sum W _ _ (by simp only [ByteArray.size_append]; omega)
        go_wp2_with (first
          | (go_at_call 17; refine (HVR.out _ hr' hn').mono ?_; rintro e w3 ⟨rfl, hb3⟩; have hbr3 := hbr.trans (hb3.mono hbr.size); have y0 := (hb3.cell (p := ⟨b1, o1 + k * 6, none⟩) hb1').trans x0; have y1 := (hb3.cell (p := ⟨b1, o1 + k * 6 + 1, none⟩) hb1').trans x1; have y2 := (hb3.cell (p := ⟨b1, o1 + k * 6 + 2, none⟩) hb1').trans x2; have y3 := (hb3.cell (p := ⟨b1, o1 + k * 6 + 3, none⟩) hb1').trans x3; have y4 := (hb3.cell (p := ⟨b1, o1 + k * 6 + 4, none⟩) hb1').trans x4; have y5 := (hb3.cell (p := ⟨b1, o1 + k * 6 + 5, none⟩) hb1').trans x5)
          | (go_at_call 19; refine (HTR.out _ ((hr'.below hb3).more hb3.size) ((hn'.below hb3).more hb3.size)).mono ?_; rintro e w4 ⟨rfl, hb4⟩))
        go_roundw
        case rel => exact ⟨k + 1, by omega, by go_num, by rw [HC.out, S_append, S_append, HS.out, data_S]; rw [ByteArray.append_assoc]; rfl, hbr3.trans (hb4.mono hbr3.size), hide (by rw [take_snoc l k hlt, List.all_append]; simp only [List.all_cons, List.all_nil, Bool.and_true]; rw [hall.out, HV.out]; rfl)⟩
        case measure => simp [intOf]; omega
    · have hkl : l.take k = l := List.take_of_length_le (by omega)
      have HF := hide (show S (formatL l) = S (cat (l.take k)) by rw [hkl] at hall ⊢; unfold formatL; rw [hall.out]; rfl)
      clear hkl
      go_wp2_with fail
      go_ret
      exact ⟨ret_congr (by rw [HF.out]; rfl), hbr⟩
end Go.Proofs.YtanhkeeifnimgaaDoor
