/- ParserSingle: exoduslaw18.ParserSingle answers true for every two declarations and leaves them as they were. Conditions: the row's own (the listed tables of the library are laid as the text says). -/
import Derived.Test.YtanhkeeifnimgaaGreatDoorFr17c
import Derived.ChangeMaps5
import Derived.Test.YtanhkeeifnimgaaGreatDoorLaw18s
import Derived.Test.YtanhkeeifnimgaaGreatDoorTie
import Derived.Test.YtanhkeeifnimgaaGreatDoorCards
namespace Go.Proofs.YtanhkeeifnimgaaGreatDoor
open Go Go.Proofs Go.RowKit Go.ChangeShapes Go.WideShapes Go.ChangeAt Go.WideMaps Go.WideElems

set_option maxRecDepth 100000 in
theorem parserSingle_lifted (os : Os) (started : os.Started) (H : Type) (enc : TypeId × Value → H) :
    ReturnsInHanded {} Tryz.checked os 5 .any (fun w args => (Rows.parserSingleSpec.pre enc Tryz.prog Tryz.f5 [] false w args ∧ laidMetH Tryz.prog laid17 w) ∧ sizedMet enc Tryz.prog Tryz.f5 (OpenSpec.ofChange Rows.parserSingleSpec) false w args)
      (Rows.parserSingleSpec.post enc Tryz.prog Tryz.f5 false true false false) := by
  refine returnsInHanded_of_change_and (C := Tryz.checked) (X := fun w _ => laidMetH Tryz.prog laid17 w) (fun _ _ _ hh h => h.of_heap hh) own started (by kernel_rfl) Tryz.func5
    (ChangeSpec.witness_shaped (enc := enc) (C := Tryz.checked) (os := os) (X := fun w _ => laidMetH Tryz.prog laid17 w) false (World.doorLaid Tryz.prog 400 os) #[.agg #[.int .i64 0, .string ⟨#[]⟩, .slice none 0 0, .slice none 0 0, .int .i64 0, .bool false], .agg #[.int .i64 0, .string ⟨#[]⟩, .slice none 0 0, .slice none 0 0, .int .i64 0, .bool false]] 8 rfl (World.shaped_of_RefB (by kernel_rfl) (by kernel_rfl)) (by kernel_rfl) (by kernel_rfl) (by kernel_rfl) (door_met os _)) ?_
  intro W base args ds gs before hval0 hW _ _ hL _
  have hval : ∀ (j : Nat) t v, Tryz.f5.params[j]? = some t → args[j]? = some v → Value.okWide Tryz.prog W .any base t v := hval0
  have hW' := hW
  obtain ⟨p, q, hA0, hV, rfl, hfz, hnd⟩ := hW
  have hA : DataW.TrodAll enc Tryz.prog W 0 (fun _ => true) true Tryz.f5.params.toList args.toList ds p := hA0
  rw [Tryz.params5] at hA hval
  obtain ⟨v0, v1, d0, d1, p0, p1, rfl, rfl, rfl, h0, h1⟩ := trodAll_two hA
  obtain ⟨rfl, rfl⟩ := trodVars_none hV
  obtain ⟨x0, ra0, rc0, na0, nc0, rfl, hc0, hr0, hn0, hf0, _⟩ := opens_decl (hval 0 25 v0 rfl rfl) h0
  obtain ⟨x1, ra1, rc1, na1, nc1, rfl, hc1, hr1, hn1, hf1, _⟩ := opens_decl (hval 1 25 v1 rfl rfl) h1
  obtain ⟨ha, hp⟩ := of_laid hL
  have hx : maxLen = 9223372036854775807 := by decide
  clear hA0 hval0
  refine (parserSingle_walk x0 x1 ra0 rc0 na0 nc0 ra1 rc1 na1 nc1 W ha hp hf0 hf1 hc0 hc1 hr0 hn0 hr1 hn1).mono fun e W' ⟨he, hb⟩ => ?_
  subst he
  exact ⟨_, rfl, post_of_below (pa := p0 ++ p1) (pv := []) hW' (fun _ _ _ => trodAll_mk1 (shut_bool Tryz.underlying4 true)) (fun sp hsp => trodAll_mk2 (arg_stays (by kernel_rfl) (of_decide_eq_true (by kernel_rfl)) h0 hb (fun x hx => hW'.lt x (by simp [hx])) (fun x hx => hsp x (by simp [hx]))) (arg_stays (by kernel_rfl) (of_decide_eq_true (by kernel_rfl)) h1 hb (fun x hx => hW'.lt x (by simp [hx])) (fun x hx => hsp x (by simp [hx])))) (fun _ _ => rfl) (by simp) hb (ok_one (by kernel_rfl) rfl (okWide_bool_mk Tryz.underlying4 _))⟩

theorem parserSingle_holds : Rows.ParserSingleSaid :=
  OpenClaim.holds_of_wide 5 Tryz.f5 rfl rfl rfl rfl rfl rfl rfl ⟨rfl, rfl, rfl, rfl, rfl⟩ rfl rfl rfl rfl rfl (by kernel_rfl) Tryz.func5 (by kernel_rfl)
    (of_decide_eq_true (by kernel_rfl)) (by unfold Func.isWrapper; first | (rw [if_pos (by decide +kernel)]; kernel_rfl) | (rw [if_neg (by decide +kernel)]; exact ⟨rfl, rfl⟩))
    (fun os started H enc _ => parserSingle_lifted os started H enc)
#print axioms parserSingle_holds
end Go.Proofs.YtanhkeeifnimgaaGreatDoor
