/- ParserPlaces: exoduslaw18.ParserPlaces answers true for every string. The card: the listed tables of the library are tied to the program's text. Conditions: none beyond the row's own. -/
import Derived.Test.YtanhkeeifnimgaaDoorClPPlaces
import Derived.Test.YtanhkeeifnimgaaDoorTie
import Derived.Test.YtanhkeeifnimgaaDoorCards
import Derived.SevenTiedAt
namespace Go.Proofs.YtanhkeeifnimgaaDoor
open Go
theorem parserPlaces_card : Rows.ParserPlacesCardSaid :=
  Claim7.holds_tied_plain_at .later [] [.listed, .data] true (true, "6baa46e61a8980a232a3dc1835542c3cbfd3ead03a5ef5d23688cd43ea1410cc") false
    parserPlaces_holds (fun _ h => by cases h) (by kernel_rfl) (fun _ h => by cases h) parserPlaces_row_tie rfl ⟨rfl, rfl⟩ (by kernel_rfl) rfl
    (fun f fn hf hfn => by
      obtain rfl : f = 4 := Option.some.inj ((show Tryd.prog.funcNamed "exodus/exoduslaw18.ParserPlaces" = some 4 by kernel_rfl).symm.trans hf) |>.symm
      obtain rfl : fn = Tryd.f4 := (Option.some.inj (Tryd.func4.symm.trans hfn)).symm
      exact ⟨by kernel_rfl, fun j t ht => by
        rw [Tryd.params4] at ht
        have h3 : t = 9 := by
          rcases j with _ | j
          · simpa using ht.symm
          · simp at ht
        subst h3
        exact (show Tryd.prog.wantsStandIn 9 = false by kernel_rfl)⟩)
    (by kernel_rfl)
#print axioms parserPlaces_card
end Go.Proofs.YtanhkeeifnimgaaDoor
