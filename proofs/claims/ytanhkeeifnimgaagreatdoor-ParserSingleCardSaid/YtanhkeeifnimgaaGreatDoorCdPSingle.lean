/- ParserSingle: exoduslaw18.ParserSingle answers true for every two declarations and leaves them as they were. The card: the listed tables of the library are tied to the program's text. Conditions: none beyond the row's own. -/
import Derived.Test.YtanhkeeifnimgaaGreatDoorClPSingle
import Derived.Test.YtanhkeeifnimgaaGreatDoorTie
import Derived.Test.YtanhkeeifnimgaaGreatDoorCards
import Derived.SevenTiedAt
namespace Go.Proofs.YtanhkeeifnimgaaGreatDoor
open Go
theorem parserSingle_card : Rows.ParserSingleCardSaid :=
  Claim7.holds_tied_plain_at .later [] [.data, .data, .data, .listed, .data] true (true, "502995226b4b3e438c53b56cb10eb609b9985d7ab5ea840ce9223babc5b31ab4") false
    parserSingle_holds (fun _ h => by cases h) (by kernel_rfl) (fun _ h => by cases h) parserSingle_row_tie rfl ⟨rfl, rfl⟩ (by kernel_rfl) rfl
    (fun f fn hf hfn => by
      obtain rfl : f = 5 := Option.some.inj ((show Tryz.prog.funcNamed "exodus/exoduslaw18.ParserSingle" = some 5 by kernel_rfl).symm.trans hf) |>.symm
      obtain rfl : fn = Tryz.f5 := (Option.some.inj (Tryz.func5.symm.trans hfn)).symm
      exact ⟨by kernel_rfl, fun j t ht => by
        rw [Tryz.params5] at ht
        have h3 : t = 25 := by
          rcases j with _ | j
          · simpa using ht.symm
          · rcases j with _ | j
            · simpa using ht.symm
            · simp at ht
        subst h3
        exact (show Tryz.prog.wantsStandIn 25 = false by kernel_rfl)⟩)
    (by kernel_rfl)
#print axioms parserSingle_card
end Go.Proofs.YtanhkeeifnimgaaGreatDoor
