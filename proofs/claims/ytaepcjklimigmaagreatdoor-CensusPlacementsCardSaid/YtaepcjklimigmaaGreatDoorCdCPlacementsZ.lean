/- CensusPlacements: exoduslaw58.CensusPlacements answers true for every model and every list of events, and leaves them as they were. The card: the listed tables of the library are tied to the program's text. Conditions: none beyond the row's own. -/
import Derived.Test.YtaepcjklimigmaaGreatDoorClCPlacementsZ
import Derived.Test.YtaepcjklimigmaaGreatDoorTie
import Derived.Test.YtaepcjklimigmaaGreatDoorCards
import Derived.SevenTiedAt

namespace Go.Proofs.YtaepcjklimigmaaGreatDoor
open Go
theorem censusPlacements_card : Rows.CensusPlacementsCardSaid :=
  Claim7.holds_tied_plain_at .later [] [.data, .data, .data, .listed, .data] true (true, "a482780b2b57bce22dd8a5d8558dd0218d816135664a8483446a02c6cab92523") false
    censusPlacements_holds (fun _ h => by cases h) (by kernel_rfl) (fun _ h => by cases h) censusPlacements_row_tie rfl ⟨rfl, rfl⟩ (by kernel_rfl) rfl
    (fun f fn hf hfn => by
      obtain rfl : f = 3 := Option.some.inj ((show Tryz.prog.funcNamed "exodus/exoduslaw58.CensusPlacements" = some 3 by kernel_rfl).symm.trans hf) |>.symm
      obtain rfl : fn = Tryz.f3 := (Option.some.inj (Tryz.func3.symm.trans hfn)).symm
      exact ⟨by kernel_rfl, fun j t ht => by
        rw [Tryz.params3] at ht
        rcases j with _ | j
        · have h3 : t = 29 := by simpa using ht.symm
          subst h3
          exact (show Tryz.prog.wantsStandIn 29 = false by kernel_rfl)
        · skip
          rcases j with _ | j
          · have h3 : t = 30 := by simpa using ht.symm
            subst h3
            exact (show Tryz.prog.wantsStandIn 30 = false by kernel_rfl)
          · simp at ht⟩)
    (by kernel_rfl)
#print axioms censusPlacements_card
end Go.Proofs.YtaepcjklimigmaaGreatDoor
