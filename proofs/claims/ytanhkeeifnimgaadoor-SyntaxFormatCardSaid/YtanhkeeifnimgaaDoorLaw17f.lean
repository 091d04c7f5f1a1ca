/- The walk of exoduslaw17.SyntaxFormat: it answers true. Printed by wip/gen_law17.py. Conditions: the tables are laid; lengths that fit memory. -/
import Derived.Test.YtanhkeeifnimgaaDoorAwake17
import Derived.Test.YtanhkeeifnimgaaDoorRef17l
import Derived.Test.YtanhkeeifnimgaaDoorRef17g
namespace Go.Proofs.YtanhkeeifnimgaaDoor
open Go Go.RowKit Go.Proofs

set_option maxRecDepth 100000 in
set_option maxHeartbeats 4000000 in
theorem syntaxFormat_walk (A : Option Addr) (c : Nat) (l : List Decl) (w : World) (ha : Asc w) (hp : Pow w) (h : Decls w w.heap.size A l) (hl : l.length ≤ 9223372036854775807) :
    Calls Tryd.prog 7 #[.slice A l.length c] w fun e w' => e = .returned (.bool true) ∧ Below w.heap.size w w' := by
  have HW := hide (awake17 w ha hp)
  have HA := hide ha
  have HP := hide hp
  have HD := hide h
  have HFW := fun X (h : Decls X X.heap.size A l) => few_ref A c l X h hl
  clear ha hp h
  cases hq : fewB l
  · rw [hq] at HFW
    have HFW := hide HFW
    clear hq
    go_enter Tryd.func7, Tryd.ntmps7
    go_wp2_with (first
      | (go_at_call 14; refine HW.out.mono ?_; rintro e w1 ⟨rfl, hb1⟩; have hd1 := (HD.out.below hb1).more hb1.size)
      | (go_at_call 15; refine (HFW.out _ hd1).mono ?_; rintro e x1 ⟨rfl, rfl⟩))
    go_ret
    exact ⟨rfl, hb1⟩
  · rw [hq] at HFW
    have HFW := hide HFW
    have hl2 : l.length ≤ 65536 := by
      unfold fewB at hq
      simp only [Bool.and_eq_true, decide_eq_true_eq] at hq
      omega
    clear hq
    have HFP := fun X (h1 : Asc X) (h2 : Pow X) (h : Decls X X.heap.size A l) => format_prog A c l X h1 h2 h hl2
    have HFR := fun X (h : Decls X X.heap.size A l) => format_ref A c l X h hl2
    generalize S (formatL l) = v at HFP HFR
    have HFP := hide HFP
    have HFR := hide HFR
    have hv : (v.toList == v.toList) = true := by simp
    go_enter Tryd.func7, Tryd.ntmps7
    go_wp2_with (first
      | (go_at_call 14; refine HW.out.mono ?_; rintro e w1 ⟨rfl, hb1⟩; have hd1 := (HD.out.below hb1).more hb1.size)
      | (go_at_call 15; refine (HFW.out _ hd1).mono ?_; rintro e x1 ⟨rfl, rfl⟩)
      | (go_at_call 22; refine (HFP.out _ (Asc.below HA.out (Nat.le_refl _) hb1) (Pow.below HP.out (Nat.le_refl _) hb1) hd1).mono ?_; rintro e w2 ⟨rfl, hb2⟩; have hb12 := hb1.trans (hb2.mono hb1.size); have hd2 := (HD.out.below hb12).more hb12.size)
      | (go_at_call 23; refine (HFR.out _ hd2).mono ?_; rintro e w3 ⟨rfl, hb3⟩))
    go_ret
    exact ⟨rfl, hb12.trans (hb3.mono hb12.size)⟩
end Go.Proofs.YtanhkeeifnimgaaDoor
