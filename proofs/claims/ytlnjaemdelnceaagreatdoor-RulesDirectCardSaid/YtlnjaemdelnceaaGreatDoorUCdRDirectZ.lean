/- A part of the claim: see its last text. -/
import Derived.Test.YtlnjaemdelnceaaGreatDoorUClRDirectZ
import Derived.Test.YtlnjaemdelnceaaGreatDoorTie
import Derived.Test.YtlnjaemdelnceaaGreatDoorCards
import Derived.SevenTiedAt

set_option maxRecDepth 100000
set_option maxHeartbeats 16000000
namespace Go.Proofs.YtlnjaemdelnceaaGreatDoor
open Go
theorem rulesDirect_card : Rows.RulesDirectCardSaid :=
 Claim7.holds_tied_plain_at .later [] [.data, .data, .data, .listed, .data] true (true, "2f39c5dfc35db4567d4f1ce249dde0d7424ecd534dc1a3451a10355cc842a256") false
  rulesDirect_holds (fun _ h => by cases h) (by kernel_rfl) (fun _ h => by cases h) rulesDirect_row_tie rfl ⟨rfl, rfl⟩ (by kernel_rfl) rfl
  (fun f fn hf hfn => by
    obtain rfl : f = 7 := Option.some.inj ((show Tryz.prog.funcNamed "exodus/exoduslaw22.RulesDirect" = some 7 by kernel_rfl).symm.trans hf) |>.symm
    obtain rfl : fn = Tryz.f7 := (Option.some.inj (Tryz.func7.symm.trans hfn)).symm
    exact ⟨by kernel_rfl, fun j t ht => by
     rw [Tryz.params7] at ht
     rcases j with _ | j
     · have h3 : t = 29 := by simpa using ht.symm
       subst h3
       exact (show Tryz.prog.wantsStandIn 29 = false by kernel_rfl)
     · skip
       rcases j with _ | j
       · have h3 : t = 35 := by simpa using ht.symm
         subst h3
         exact (show Tryz.prog.wantsStandIn 35 = false by kernel_rfl)
       · simp at ht⟩)
  (by kernel_rfl)
#print axioms rulesDirect_card
end Go.Proofs.YtlnjaemdelnceaaGreatDoor
