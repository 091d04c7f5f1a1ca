/- The walk of exoduslaw17.SyntaxSame: it answers true. Conditions: the tables are laid; lengths that fit memory. -/
import Derived.Test.YtanhkeeifnimgaaDoorAwake17
import Derived.Test.YtanhkeeifnimgaaDoorRef17f
import Derived.Test.YtanhkeeifnimgaaDoorRef17g
namespace Go.Proofs.YtanhkeeifnimgaaDoor
open Go Go.RowKit Go.Proofs

theorem sameD_refl (a : Decl) : sameD a a = true := by simp [sameD]
theorem sameL_refl (l : List Decl) : sameL l l = true := sameL_true l l rfl fun _ _ _ => sameD_refl _

set_option maxRecDepth 100000 in
set_option maxHeartbeats 4000000 in
theorem syntaxSame_walk (A1 A2 : Option Addr) (c1 c2 : Nat) (l m : List Decl) (w : World) (ha : Asc w) (hp : Pow w) (h1 : Decls w w.heap.size A1 l) (h2 : Decls w w.heap.size A2 m) (hl : l.length ≤ 9223372036854775807) (hm : m.length ≤ 9223372036854775807) :
    Calls Tryd.prog 8 #[.slice A1 l.length c1, .slice A2 m.length c2] w fun e w' => e = .returned (.bool true) ∧ Below w.heap.size w w' := by
  have HW := hide (awake17 w ha hp)
  have HD := hide (And.intro h1 h2)
  have HS := (fun X ha hb => same_prog A1 A2 c1 c2 l m X ha hb hl hm)
  have HR := (fun X ha hb => same_ref A1 A2 c1 c2 l m X ha hb hl hm)
  have HT := (fun X ha => same_prog A1 A1 c1 c1 l l X ha ha hl hl)
  rw [sameL_refl] at HT
  have HF1 := (fun X ha => few_ref A1 c1 l X ha hl)
  have HF2 := (fun X ha => few_ref A2 c2 m X ha hm)
  generalize hq : sameL l m = q at HS HR
  have HS := hide HS
  have HR := hide HR
  have HT := hide HT
  have HF1 := hide HF1
  have HF2 := hide HF2
  clear hq ha hp h1 h2
  cases q
  all_goals
    go_enter Tryd.func8, Tryd.ntmps8
    go_wp2_with (first
      | (go_at_call 14; refine HW.out.mono ?_; rintro e w1 ⟨rfl, hb1⟩; have hd1 := (HD.out.1.below hb1).more hb1.size; have hd2 := (HD.out.2.below hb1).more hb1.size)
      | (go_at_call_of 15 (Value.slice A1 l.length c1); refine (HF1.out _ hd1).mono ?_; rintro e x1 ⟨b1, rfl, rfl⟩)
      | (go_at_call_of 15 (Value.slice A2 m.length c2); refine (HF2.out _ hd2).mono ?_; rintro e x2 ⟨b2, rfl, rfl⟩)
      | (go_at_call 24; refine (HS.out _ hd1 hd2).mono ?_; rintro e w2 ⟨rfl, hb2⟩; have hb12 := hb1.trans (hb2.mono hb1.size); have he1 := (HD.out.1.below hb12).more hb12.size; have he2 := (HD.out.2.below hb12).more hb12.size)
      | (go_at_call 12; refine (HR.out _ he1 he2).mono ?_; rintro e w3 ⟨rfl, hb3⟩; have hb123 := hb12.trans (hb3.mono hb12.size); have hf1 := (HD.out.1.below hb123).more hb123.size)
      | (go_at_call 24; refine (HT.out _ hf1).mono ?_; rintro e w4 ⟨rfl, hb4⟩))
    all_goals
      go_ret
      exact ⟨by first | rfl | exact ret_congr (by simp [*]), by first | exact hb123.trans (hb4.mono hb123.size) | exact hb1⟩
end Go.Proofs.YtanhkeeifnimgaaDoor
