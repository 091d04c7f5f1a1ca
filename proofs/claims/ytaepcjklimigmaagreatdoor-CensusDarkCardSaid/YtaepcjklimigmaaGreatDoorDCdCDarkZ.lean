/- A part of the claim: see its last text. -/
import Derived.Test.YtaepcjklimigmaaGreatDoorDClCDarkZ
import Derived.Test.YtaepcjklimigmaaGreatDoorTie
import Derived.Test.YtaepcjklimigmaaGreatDoorCards
import Derived.SevenTiedAt

set_option maxRecDepth 100000
set_option maxHeartbeats 16000000
namespace Go.Proofs.YtaepcjklimigmaaGreatDoor
open Go
theorem censusDark_card : Rows.CensusDarkCardSaid :=
 Claim7.holds_tied_plain_at .later [] [.data, .data, .data, .listed, .data] true (true, "a482780b2b57bce22dd8a5d8558dd0218d816135664a8483446a02c6cab92523") false
  censusDark_holds (fun _ h => by cases h) (by kernel_rfl) (fun _ h => by cases h) censusDark_row_tie rfl ⟨rfl, rfl⟩ (by kernel_rfl) rfl
  (fun f fn hf hfn => by
    obtain rfl : f = 7 := Option.some.inj ((show Tryz.prog.funcNamed "exodus/exoduslaw58.CensusDark" = some 7 by kernel_rfl).symm.trans hf) |>.symm
    obtain rfl : fn = Tryz.f7 := (Option.some.inj (Tryz.func7.symm.trans hfn)).symm
    exact ⟨by kernel_rfl, fun j t ht => by
     rw [Tryz.params7] at ht
     rcases j with _ | j
     · have h3 : t = 29 := by simpa using ht.symm
       subst h3
       exact (show Tryz.prog.wantsStandIn 29 = false by kernel_rfl)
     · simp at ht⟩)
  (by kernel_rfl)
#print axioms censusDark_card
end Go.Proofs.YtaepcjklimigmaaGreatDoor
