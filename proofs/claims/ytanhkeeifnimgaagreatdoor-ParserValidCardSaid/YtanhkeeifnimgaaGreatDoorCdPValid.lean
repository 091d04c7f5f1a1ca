/- ParserValid: exoduslaw18.ParserValid answers true for every string. The card: the listed tables of the library are tied to the program's text. Conditions: none beyond the row's own. -/
import Derived.Test.YtanhkeeifnimgaaGreatDoorClPValid
import Derived.Test.YtanhkeeifnimgaaGreatDoorTie
import Derived.Test.YtanhkeeifnimgaaGreatDoorCards
import Derived.SevenTiedAt
namespace Go.Proofs.YtanhkeeifnimgaaGreatDoor
open Go
theorem parserValid_card : Rows.ParserValidCardSaid :=
  Claim7.holds_tied_plain_at .later [] [.data, .data, .data, .listed, .data] true (true, "502995226b4b3e438c53b56cb10eb609b9985d7ab5ea840ce9223babc5b31ab4") false
    parserValid_holds (fun _ h => by cases h) (by kernel_rfl) (fun _ h => by cases h) parserValid_row_tie rfl ⟨rfl, rfl⟩ (by kernel_rfl) rfl
    (fun f fn hf hfn => by
      obtain rfl : f = 7 := Option.some.inj ((show Tryz.prog.funcNamed "exodus/exoduslaw18.ParserValid" = some 7 by kernel_rfl).symm.trans hf) |>.symm
      obtain rfl : fn = Tryz.f7 := (Option.some.inj (Tryz.func7.symm.trans hfn)).symm
      exact ⟨by kernel_rfl, fun j t ht => by
        rw [Tryz.params7] at ht
        have h3 : t = 9 := by
          rcases j with _ | j
          · simpa using ht.symm
          · simp at ht
        subst h3
        exact (show Tryz.prog.wantsStandIn 9 = false by kernel_rfl)⟩)
    (by kernel_rfl)
#print axioms parserValid_card
end Go.Proofs.YtanhkeeifnimgaaGreatDoor
