/- ParserTexts: exoduslaw18.ParserTexts answers true for every list of declarations and leaves it as it was. The card: the listed tables of the library are tied to the program's text. Conditions: none beyond the row's own. -/
import Derived.Test.YtanhkeeifnimgaaGreatDoorClPTexts
import Derived.Test.YtanhkeeifnimgaaGreatDoorTie
import Derived.Test.YtanhkeeifnimgaaGreatDoorCards
import Derived.SevenTiedAt
namespace Go.Proofs.YtanhkeeifnimgaaGreatDoor
open Go
theorem parserTexts_card : Rows.ParserTextsCardSaid :=
  Claim7.holds_tied_plain_at .later [] [.data, .data, .data, .listed, .data] true (true, "502995226b4b3e438c53b56cb10eb609b9985d7ab5ea840ce9223babc5b31ab4") false
    parserTexts_holds (fun _ h => by cases h) (by kernel_rfl) (fun _ h => by cases h) parserTexts_row_tie rfl ⟨rfl, rfl⟩ (by kernel_rfl) rfl
    (fun f fn hf hfn => by
      obtain rfl : f = 6 := Option.some.inj ((show Tryz.prog.funcNamed "exodus/exoduslaw18.ParserTexts" = some 6 by kernel_rfl).symm.trans hf) |>.symm
      obtain rfl : fn = Tryz.f6 := (Option.some.inj (Tryz.func6.symm.trans hfn)).symm
      exact ⟨by kernel_rfl, fun j t ht => by
        rw [Tryz.params6] at ht
        have h3 : t = 42 := by
          rcases j with _ | j
          · simpa using ht.symm
          · simp at ht
        subst h3
        exact (show Tryz.prog.wantsStandIn 42 = false by kernel_rfl)⟩)
    (by kernel_rfl)
#print axioms parserTexts_card
end Go.Proofs.YtanhkeeifnimgaaGreatDoor
