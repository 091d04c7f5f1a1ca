/- SyntaxSame: exoduslaw17.SyntaxSame answers true for every two lists of declarations and leaves them as they were. Conditions: the row's own (the listed tables of the library are laid as the text says). -/
import Derived.Test.YtanhkeeifnimgaaDoorFr17b
import Derived.Test.YtanhkeeifnimgaaDoorLaw17s
import Derived.Test.YtanhkeeifnimgaaDoorTie
import Derived.Test.YtanhkeeifnimgaaDoorCards
namespace Go.Proofs.YtanhkeeifnimgaaDoor
open Go Go.Proofs Go.RowKit Go.ChangeShapes Go.WideShapes Go.ChangeAt Go.WideMaps Go.WideElems

set_option maxRecDepth 100000 in
theorem syntaxSame_lifted (os : Os) (started : os.Started) (H : Type) (enc : TypeId × Value → H) :
    ReturnsInHanded {} Tryd.checked os 8 .any (fun w args => (Rows.syntaxSameSpec.pre enc Tryd.prog Tryd.f8 [] false w args ∧ laidMetH Tryd.prog laid17 w) ∧ sizedMet enc Tryd.prog Tryd.f8 (OpenSpec.ofChange Rows.syntaxSameSpec) false w args)
      (Rows.syntaxSameSpec.post enc Tryd.prog Tryd.f8 false true false false) := by
  refine returnsInHanded_of_change_and (C := Tryd.checked) (X := fun w _ => laidMetH Tryd.prog laid17 w) (fun _ _ _ hh h => h.of_heap hh) own started (by kernel_rfl) Tryd.func8
    (ChangeSpec.witness_shaped (enc := enc) (C := Tryd.checked) (os := os) (X := fun w _ => laidMetH Tryd.prog laid17 w) false (World.doorLaid Tryd.prog 400 os) #[.slice none 0 0, .slice none 0 0] 8 rfl (World.shaped_of_RefB (by kernel_rfl) (by kernel_rfl)) (by kernel_rfl) (by kernel_rfl) (by kernel_rfl) (door_met os _)) ?_
  intro W base args ds gs before hval0 hW _ _ hL _
  have hval : ∀ (j : Nat) t v, Tryd.f8.params[j]? = some t → args[j]? = some v → Value.okWide Tryd.prog W .any base t v := hval0
  have hW' := hW
  obtain ⟨p, q, hA0, hV, rfl, hfz, hnd⟩ := hW
  have hA : DataW.TrodAll enc Tryd.prog W 0 (fun _ => true) true Tryd.f8.params.toList args.toList ds p := hA0
  rw [Tryd.params8] at hA hval
  obtain ⟨v0, v1, d0, d1, p0, p1, rfl, rfl, rfl, h0, h1⟩ := trodAll_two hA
  obtain ⟨rfl, rfl⟩ := trodVars_none hV
  obtain ⟨A1, c1, l, rfl, hl1, hm1, hd1, _⟩ := opens_decls (hval 0 23 v0 rfl rfl) h0
  obtain ⟨A2, c2, m, rfl, hl2, hm2, hd2, _⟩ := opens_decls (hval 1 23 v1 rfl rfl) h1
  obtain ⟨ha, hp⟩ := of_laid hL
  have hx : maxLen = 9223372036854775807 := by decide
  clear hA0 hval0
  refine (syntaxSame_walk A1 A2 c1 c2 l m W ha hp hd1 hd2 (by omega) (by omega)).mono fun e W' ⟨he, hb⟩ => ?_
  subst he
  exact ⟨_, rfl, post_of_below (pa := p0 ++ p1) (pv := []) hW' (fun _ _ _ => trodAll_mk1 (shut_bool Tryd.underlying4 true)) (fun sp hsp => trodAll_mk2 (arg_stays (by kernel_rfl) (of_decide_eq_true (by kernel_rfl)) h0 hb (fun x hx => hW'.lt x (by simp [hx])) (fun x hx => hsp x (by simp [hx]))) (arg_stays (by kernel_rfl) (of_decide_eq_true (by kernel_rfl)) h1 hb (fun x hx => hW'.lt x (by simp [hx])) (fun x hx => hsp x (by simp [hx])))) (fun _ _ => rfl) (by simp) hb (ok_one (by kernel_rfl) rfl (okWide_bool_mk Tryd.underlying4 _))⟩

theorem syntaxSame_holds : Rows.SyntaxSameSaid :=
  OpenClaim.holds_of_wide 8 Tryd.f8 rfl rfl rfl rfl rfl rfl rfl ⟨rfl, rfl, rfl, rfl, rfl⟩ rfl rfl rfl rfl rfl (by kernel_rfl) Tryd.func8 (by kernel_rfl)
    (of_decide_eq_true (by kernel_rfl)) (by unfold Func.isWrapper; first | (rw [if_pos (by decide +kernel)]; kernel_rfl) | (rw [if_neg (by decide +kernel)]; exact ⟨rfl, rfl⟩))
    (fun os started H enc _ => syntaxSame_lifted os started H enc)
#print axioms syntaxSame_holds
end Go.Proofs.YtanhkeeifnimgaaDoor
