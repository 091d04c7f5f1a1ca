/- CensusSummaries: exoduslaw58.CensusSummaries answers true for every model, every list of events and every item, and leaves them as they were. Conditions: the row's own (the listed tables of the library are laid as the text says). -/
import Derived.Test.YtfemlajeomohhaaGreatDoorUFrGZ
import Derived.ChangeMaps5
import Derived.Test.YtfemlajeomohhaaGreatDoorUOpens58Z
import Derived.Test.YtfemlajeomohhaaGreatDoorULawS58Z
import Derived.Test.YtfemlajeomohhaaGreatDoorTie
import Derived.Test.YtfemlajeomohhaaGreatDoorCards

set_option maxRecDepth 100000
set_option maxHeartbeats 16000000
namespace Go.Proofs.YtfemlajeomohhaaGreatDoor
open Go Go.Proofs Go.RowKit Go.ChangeShapes Go.WideShapes Go.ChangeAt Go.WideMaps Go.WideElems
theorem censusSummaries_lifted (os : Os) (started : os.Started) (H : Type) (enc : TypeId × Value → H) :
    ReturnsInHanded {} Tryz.checked os 3 .any (fun w args => (Rows.censusSummariesSpec.pre enc Tryz.prog Tryz.f3 [] false w args ∧ laidMetH Tryz.prog GL w) ∧ sizedMet enc Tryz.prog Tryz.f3 (OpenSpec.ofChange Rows.censusSummariesSpec) false w args)
     (Rows.censusSummariesSpec.post enc Tryz.prog Tryz.f3 false true false false) := by
 refine returnsInHanded_of_change_and (C := Tryz.checked) (X := fun w _ => laidMetH Tryz.prog GL w) (fun _ _ _ hh h => h.of_heap hh) own started (by kernel_rfl) Tryz.func3
  (ChangeSpec.witness_shaped (enc := enc) (C := Tryz.checked) (os := os) (X := fun w _ => laidMetH Tryz.prog GL w) false (World.doorLaid Tryz.prog 400 os) #[.agg #[.slice none 0 0, .slice none 0 0, .slice none 0 0, .slice none 0 0, .slice none 0 0, .slice none 0 0, .int .i64 0, .int .i64 0, .int .i64 0, .int .i64 0, .slice none 0 0], .slice none 0 0, .int .i64 0] 8 rfl (World.shaped_of_RefB (by kernel_rfl) (by kernel_rfl)) (by kernel_rfl) (by kernel_rfl) (by kernel_rfl) (Rf os _)) ?_
 intro W base args ds gs before hval0 hW _ _ hL _
 have hval : ∀ (j : Nat) t v, Tryz.f3.params[j]? = some t → args[j]? = some v → Value.okWide Tryz.prog W .any base t v := hval0
 have hW' := hW
 obtain ⟨p, q, hA0, hV, rfl, hfz, hnd⟩ := hW
 have hA : DataW.TrodAll enc Tryz.prog W 0 (fun _ => true) true Tryz.f3.params.toList args.toList ds p := hA0
 rw [Tryz.params3] at hA hval
 obtain ⟨v0, v1, v2, d0, d1, d2, p0, p1, p2, rfl, rfl, rfl, h0, h1, h2⟩ := trodAll_three hA
 obtain ⟨rfl, rfl⟩ := trodVars_none hV
 obtain ⟨h0m, m0, rfl, hd0, hk0⟩ := OJ (hval 0 29 v0 rfl rfl) h0
 obtain ⟨A1, c1, l1, rfl, hl1, hc1, hE1⟩ := M9 (hval 1 30 v1 rfl rfl) h1
 obtain ⟨n2, rfl, _, _, hw2⟩ := open_int Tryz.underlying3 (hval 2 3 v2 rfl rfl) h2
 obtain ⟨ha, hp⟩ := TZ hL
 have hx : maxLen = 9223372036854775807 := by decide
 clear hA0 hval0
 refine (Hz h0m m0 l1 A1 c1 n2 W hd0 hk0.cr.1 hk0.cm.1 hk0.cl.1 hE1 (by omega) hl1 hc1 ha hp).mono fun e W' ⟨he, hb⟩ => ?_
 subst he
 exact ⟨_, rfl, Lv (pa := p0 ++ (p1 ++ p2)) (pv := []) hW' (fun _ _ _ => trodAll_mk1 (shut_bool Tryz.underlying4 true)) (fun sp hsp => trodAll_mk3 (Ib (by kernel_rfl) (of_decide_eq_true (by kernel_rfl)) h0 hb (fun x hx => hW'.lt x (by simp [hx])) (fun x hx => hsp x (by simp [hx]))) (Ib (by kernel_rfl) (of_decide_eq_true (by kernel_rfl)) h1 hb (fun x hx => hW'.lt x (by simp [hx])) (fun x hx => hsp x (by simp [hx]))) (Ib (by kernel_rfl) (of_decide_eq_true (by kernel_rfl)) h2 hb (fun x hx => hW'.lt x (by simp [hx])) (fun x hx => hsp x (by simp [hx])))) (fun _ _ => rfl) (by simp) hb (ok_one (by kernel_rfl) rfl (okWide_bool_mk Tryz.underlying4 _))⟩
theorem censusSummaries_holds : Rows.CensusSummariesSaid :=
 OpenClaim.holds_of_wide 3 Tryz.f3 rfl rfl rfl rfl rfl rfl rfl ⟨rfl, rfl, rfl, rfl, rfl⟩ rfl rfl rfl rfl rfl (by kernel_rfl) Tryz.func3 (by kernel_rfl)
  (of_decide_eq_true (by kernel_rfl)) (by unfold Func.isWrapper; first | (rw [if_pos (by decide +kernel)]; kernel_rfl) | (rw [if_neg (by decide +kernel)]; exact ⟨rfl, rfl⟩))
  (fun os started H enc _ => censusSummaries_lifted os started H enc)
#print axioms censusSummaries_holds
end Go.Proofs.YtfemlajeomohhaaGreatDoor
