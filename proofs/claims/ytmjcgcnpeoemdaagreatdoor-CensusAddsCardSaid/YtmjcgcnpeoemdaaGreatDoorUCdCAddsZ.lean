/- A part of the claim: see its last text. -/
import Derived.Test.YtmjcgcnpeoemdaaGreatDoorUClCAddsZ
import Derived.Test.YtmjcgcnpeoemdaaGreatDoorTie
import Derived.Test.YtmjcgcnpeoemdaaGreatDoorCards
import Derived.SevenTiedAt

set_option maxRecDepth 100000
set_option maxHeartbeats 16000000
namespace Go.Proofs.YtmjcgcnpeoemdaaGreatDoor
open Go
theorem censusAdds_card : Rows.CensusAddsCardSaid :=
 Claim7.holds_tied_plain_at .later [] [.data, .data, .data, .listed, .data] true (true, "fb5e916d8bfffd85317c25045e5bce7d6870a6946426e47a42eaab72bf0cf52f") false
  censusAdds_holds (fun _ h => by cases h) (by kernel_rfl) (fun _ h => by cases h) censusAdds_row_tie rfl ⟨rfl, rfl⟩ (by kernel_rfl) rfl
  (fun f fn hf hfn => by
    obtain rfl : f = 3 := Option.some.inj ((show Tryz.prog.funcNamed "exodus/exoduslaw58.CensusAdds" = some 3 by kernel_rfl).symm.trans hf) |>.symm
    obtain rfl : fn = Tryz.f3 := (Option.some.inj (Tryz.func3.symm.trans hfn)).symm
    exact ⟨by kernel_rfl, fun j t ht => by
     rw [Tryz.params3] at ht
     rcases j with _ | j
     · have h3 : t = 29 := by simpa using ht.symm
       subst h3
       exact (show Tryz.prog.wantsStandIn 29 = false by kernel_rfl)
     · skip
       rcases j with _ | j
       · have h3 : t = 30 := by simpa using ht.symm
         subst h3
         exact (show Tryz.prog.wantsStandIn 30 = false by kernel_rfl)
       · skip
         rcases j with _ | j
         · have h3 : t = 30 := by simpa using ht.symm
           subst h3
           exact (show Tryz.prog.wantsStandIn 30 = false by kernel_rfl)
         · simp at ht⟩)
  (by kernel_rfl)
#print axioms censusAdds_card
end Go.Proofs.YtmjcgcnpeoemdaaGreatDoor
