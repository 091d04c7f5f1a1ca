/- A part of the claim: see its last text. -/
import Derived.Test.YtmjcgcnpeoemdaaGreatDoorUClCKeepsZ
import Derived.Test.YtmjcgcnpeoemdaaGreatDoorTie
import Derived.Test.YtmjcgcnpeoemdaaGreatDoorCards
import Derived.SevenTiedAt

set_option maxRecDepth 100000
set_option maxHeartbeats 16000000
namespace Go.Proofs.YtmjcgcnpeoemdaaGreatDoor
open Go
theorem censusKeeps_card : Rows.CensusKeepsCardSaid :=
 Claim7.holds_tied_plain_at .later [] [.data, .data, .data, .listed, .data] true (true, "fb5e916d8bfffd85317c25045e5bce7d6870a6946426e47a42eaab72bf0cf52f") false
  censusKeeps_holds (fun _ h => by cases h) (by kernel_rfl) (fun _ h => by cases h) censusKeeps_row_tie rfl ⟨rfl, rfl⟩ (by kernel_rfl) rfl
  (fun f fn hf hfn => by
    obtain rfl : f = 4 := Option.some.inj ((show Tryz.prog.funcNamed "exodus/exoduslaw58.CensusKeeps" = some 4 by kernel_rfl).symm.trans hf) |>.symm
    obtain rfl : fn = Tryz.f4 := (Option.some.inj (Tryz.func4.symm.trans hfn)).symm
    exact ⟨by kernel_rfl, fun j t ht => by
     rw [Tryz.params4] at ht
     rcases j with _ | j
     · have h3 : t = 29 := by simpa using ht.symm
       subst h3
       exact (show Tryz.prog.wantsStandIn 29 = false by kernel_rfl)
     · skip
       rcases j with _ | j
       · have h3 : t = 30 := by simpa using ht.symm
         subst h3
         exact (show Tryz.prog.wantsStandIn 30 = false by kernel_rfl)
       · skip
         rcases j with _ | j
         · have h3 : t = 5 := by simpa using ht.symm
           subst h3
           exact (show Tryz.prog.wantsStandIn 5 = false by kernel_rfl)
         · skip
           rcases j with _ | j
           · have h3 : t = 5 := by simpa using ht.symm
             subst h3
             exact (show Tryz.prog.wantsStandIn 5 = false by kernel_rfl)
           · simp at ht⟩)
  (by kernel_rfl)
#print axioms censusKeeps_card
end Go.Proofs.YtmjcgcnpeoemdaaGreatDoor
