/- SyntaxTokens: exoduslaw17.SyntaxTokens answers true for every declaration and leaves it as it was. The card: the listed tables of the library are tied to the program's text. Conditions: none beyond the row's own. -/
import Derived.Test.YtanhkeeifnimgaaGreatDoorClTokens
import Derived.Test.YtanhkeeifnimgaaGreatDoorTie
import Derived.Test.YtanhkeeifnimgaaGreatDoorCards
import Derived.SevenTiedAt
namespace Go.Proofs.YtanhkeeifnimgaaGreatDoor
open Go
theorem syntaxTokens_card : Rows.SyntaxTokensCardSaid :=
  Claim7.holds_tied_plain_at .later [] [.data, .data, .data, .listed, .data] true (true, "502995226b4b3e438c53b56cb10eb609b9985d7ab5ea840ce9223babc5b31ab4") false
    syntaxTokens_holds (fun _ h => by cases h) (by kernel_rfl) (fun _ h => by cases h) syntaxTokens_row_tie rfl ⟨rfl, rfl⟩ (by kernel_rfl) rfl
    (fun f fn hf hfn => by
      obtain rfl : f = 4 := Option.some.inj ((show Tryz.prog.funcNamed "exodus/exoduslaw17.SyntaxTokens" = some 4 by kernel_rfl).symm.trans hf) |>.symm
      obtain rfl : fn = Tryz.f4 := (Option.some.inj (Tryz.func4.symm.trans hfn)).symm
      exact ⟨by kernel_rfl, fun j t ht => by
        rw [Tryz.params4] at ht
        have h3 : t = 25 := by
          rcases j with _ | j
          · simpa using ht.symm
          · simp at ht
        subst h3
        exact (show Tryz.prog.wantsStandIn 25 = false by kernel_rfl)⟩)
    (by kernel_rfl)
#print axioms syntaxTokens_card
end Go.Proofs.YtanhkeeifnimgaaGreatDoor
