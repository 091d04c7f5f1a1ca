/- The walk of exoduslaw18.ParserTexts: it answers true. Conditions: the tables are laid; lengths that fit memory. -/
import Derived.Test.YtanhkeeifnimgaaGreatDoorAw18
import Derived.Test.YtanhkeeifnimgaaGreatDoorRef17g
import Derived.Test.YtanhkeeifnimgaaGreatDoorSyn17u
namespace Go.Proofs.YtanhkeeifnimgaaGreatDoor
open Go Go.RowKit Go.Proofs

theorem sameL_refl2 (l : List Decl) : sameL l l = true := sameL_true l l rfl fun _ _ _ => by simp [sameD]
/-- Valid of a declaration as it lies in a slice -/
theorem valid_at (d : Decl) (ra : Option Addr) (rc : Nat) (na : Option Addr) (nc : Nat) (w : World) (hf : Fine d) (hr : Strs w w.heap.size ra d.refs) (hn : Ints w w.heap.size na d.nums) :
    Calls Tryz.prog 9 #[.agg #[.int .i64 d.kind, .string d.name, .slice ra d.refs.length rc, .slice na d.nums.length nc, .int .i64 d.by_, .bool d.always]] w fun e w' => e = .returned (.bool (okD d)) ∧ Below w.heap.size w w' :=
  valid_ref d.kind d.name ra d.refs rc na d.nums nc d.by_ d.always w hf.1 hf.2.1 hf.2.2.1 hf.2.2.2 hr hn

set_option maxRecDepth 100000 in
set_option maxHeartbeats 4000000 in
theorem parserTexts_walk (A : Option Addr) (c : Nat) (l : List Decl) (w : World) (ha : Asc w) (hp : Pow w) (h : Decls w w.heap.size A l) (hl : l.length ≤ 9223372036854775807) :
    Calls Tryz.prog 6 #[.slice A l.length c] w fun e w' => e = .returned (.bool true) ∧ Below w.heap.size w w' := by
  have HW := hide (awake18 w ha)
  have HA := hide ha
  have HP := hide hp
  have HD := hide h
  have HFW := fun X (h : Decls X X.heap.size A l) => few_ref A c l X h hl
  clear ha hp h
  cases hq : fewB l
  · rw [hq] at HFW
    have HFW := hide HFW
    clear hq
    go_enter Tryz.func6, Tryz.ntmps6
    go_wp2_with (first
      | (go_at_call 16; refine HW.out.mono ?_; rintro e w1 ⟨rfl, hb1⟩; have hd1 := (HD.out.below hb1).more hb1.size)
      | (go_at_call 19; refine (HFW.out _ hd1).mono ?_; rintro e x1 ⟨rfl, rfl⟩))
    go_ret
    exact ⟨rfl, hb1⟩
  · rw [hq] at HFW
    have HFW := hide HFW
    have hl2 : l.length ≤ 120 := by
      unfold fewB at hq
      simp only [Bool.and_eq_true, decide_eq_true_eq] at hq
      omega
    clear hq hl
    have HFP := hide fun X (h1 : Asc X) (h2 : Pow X) (h : Decls X X.heap.size A l) => format_prog A c l X h1 h2 h (by omega)
    have hzs : (S (formatL l)).size ≤ 9223372036854775807 ∨ True := .inr trivial
    clear hzs
    go_enter Tryz.func6, Tryz.ntmps6
    go_wp2_with (first
      | (go_at_call 16; refine HW.out.mono ?_; rintro e w1 ⟨rfl, hb1⟩; have hd1 := (HD.out.below hb1).more hb1.size)
      | (go_at_call 19; refine (HFW.out _ hd1).mono ?_; rintro e x1 ⟨rfl, rfl⟩))
    go_loopw [3] (fun i wr => ∃ k : Nat, i = .int .i64 k ∧ k ≤ l.length ∧ Below w.heap.size w wr ∧ Hid (∀ j (hj : j < l.length), j < k → okD l[j] = true)) (fun i _ => l.length - (intOf i).toNat)
    case atStart => exact ⟨0, rfl, Nat.zero_le _, hb1, hide fun j hj h0 => absurd h0 (by omega)⟩
    case round =>
      clear hd1 HW HFW
      obtain ⟨k, rfl, hk, hB, hall⟩ := hrel
      by_cases hlt : k < l.length
      · have hD := (HD.out.below hB).more hB.size
        obtain ⟨b, off, ra, rc, na, nc, rfl, hb, y0, y1, y2, y3, y4, y5, hcc, hr, hn, hfine⟩ := hD.at2_ hlt
        clear hD
        generalize hdk : l[k] = d at y0 y1 y2 y3 y4 y5 hcc hr hn hfine
        have HV := valid_at d ra rc na nc wr hfine hr hn
        cases hv : okD d
        · rw [hv] at HV
          have HV := hide HV
          clear hdk hv hr hn hfine
          go_wp2_with (go_at_call 9; refine HV.out.mono ?_; rintro e w2 ⟨rfl, hb2⟩)
          go_ret
          exact ⟨rfl, hB.trans (hb2.mono hB.size)⟩
        · rw [hv] at HV
          have HV := hide HV
          have HK := hide (show okD l[k] = true by rw [hdk]; exact hv)
          clear hdk hv hr hn hfine
          go_wp2_with (go_at_call 9; refine HV.out.mono ?_; rintro e w2 ⟨rfl, hb2⟩)
          go_roundw
          case rel => exact ⟨k + 1, by go_num, by omega, hB.trans (hb2.mono hB.size), hide fun j hj h1 => by
            rcases Nat.lt_or_ge j k with h2 | h2
            · exact hall.out j hj h2
            · obtain rfl : j = k := by omega
              exact HK.out⟩
          case measure => simp [intOf]; omega
      · have hok : l.all okD = true := by
          rw [List.all_eq_true]
          intro x hx
          obtain ⟨j, hj, rfl⟩ := List.getElem_of_mem hx
          exact hall.out j hj (by omega)
        have hfl : formatL l = cat l := by unfold formatL; rw [if_pos hok]
        rw [hfl] at HFP
        have hpt : (S (cat l)).size ≤ 16384 → parseT (S (cat l)) = (l, 0, 0) := fun hz => parse_texts hok hz (by omega)
        have hD := (HD.out.below hB).more hB.size
        have HFC := hide (HFP.out wr (Asc.below HA.out (Nat.le_refl _) hB) (Pow.below HP.out (Nat.le_refl _) hB) hD)
        clear hfl hok hall HFP hD
        generalize S (cat l) = s at HFC hpt
        have hkI : ¬ (k : Int) < (l.length : Int) := by omega
        by_cases hz : s.size ≤ 16384
        · have hzI : ¬ (16384 : Int) < (s.size : Int) := by omega
          have hpt := hpt hz
          have HPS := fun (X : World) (hX : Asc X) => parse_any s X hX (by omega)
          rw [hpt] at HPS
          have HPS := hide HPS
          clear hpt
          go_wp2_with (first
            | (go_at_call 20; refine HFC.out.mono ?_; rintro e w2 ⟨rfl, hb2⟩; have hb12 := hB.trans (hb2.mono hB.size))
            | (go_at_call 21; refine (HPS.out _ (Asc.below HA.out (Nat.le_refl _) hb12)).mono ?_; rintro e w3 ⟨A3, c3, L3, rfl, hL3, hc3, hD3, hb3⟩; have hb123 := hb12.trans (hb3.mono hb12.size); have hd3 := (HD.out.below hb123).more hb123.size
               have hln : L3.length ≤ 9223372036854775807 := (by have := congrArg List.length hL3; simp at this; omega)
               have hsm := same_dv A3 A c3 c L3 l rfl w3 hD3 hd3 hln (by omega)
               rw [hL3] at hsm
               simp only [sameL_refl2] at hsm
               have HSM := hide hsm
               clear hsm hd3 hL3 hD3)
            | (go_at_call 22; refine HSM.out.mono ?_; rintro e w4 ⟨rfl, hb4⟩))
          go_ret
          exact ⟨rfl, hb123.trans (hb4.mono hb123.size)⟩
        · have hzI : (16384 : Int) < (s.size : Int) := by omega
          clear hpt
          go_wp2_with (go_at_call 20; refine HFC.out.mono ?_; rintro e w2 ⟨rfl, hb2⟩)
          go_ret
          exact ⟨rfl, hB.trans (hb2.mono hB.size)⟩
end Go.Proofs.YtanhkeeifnimgaaGreatDoor
