/- CensusSummaries: exoduslaw58.CensusSummaries answers true for every model, every list of events and every item, and leaves them as they were. The card: the listed tables of the library are tied to the program's text. Conditions: none beyond the row's own. -/
import Derived.Test.YtfemlajeomohhaaGreatDoorUClCSummariesZ
import Derived.SevenTiedAt

set_option maxRecDepth 100000
set_option maxHeartbeats 16000000
namespace Go.Proofs.YtfemlajeomohhaaGreatDoor
open Go
theorem censusSummaries_card : Rows.CensusSummariesCardSaid :=
 Claim7.holds_tied_plain_at .later [] [.data, .data, .data, .listed, .data] true (true, "8c31d2367225410c2d4f6d8ebb7e70a882dbd6cd58f492ee38f9a94c198b83c6") false
  censusSummaries_holds (fun _ h => by cases h) (by kernel_rfl) (fun _ h => by cases h) censusSummaries_row_tie rfl ⟨rfl, rfl⟩ (by kernel_rfl) rfl
  (fun f fn hf hfn => by
    obtain rfl : f = 3 := Option.some.inj ((show Tryz.prog.funcNamed "exodus/exoduslaw58.CensusSummaries" = some 3 by kernel_rfl).symm.trans hf) |>.symm
    obtain rfl : fn = Tryz.f3 := (Option.some.inj (Tryz.func3.symm.trans hfn)).symm
    exact ⟨by kernel_rfl, fun j t ht => by
     rw [Tryz.params3] at ht
     rcases j with _ | j
     · have h3 : t = 29 := by simpa using ht.symm
       subst h3
       exact (show Tryz.prog.wantsStandIn 29 = false by kernel_rfl)
     · skip
       rcases j with _ | j
       · have h3 : t = 30 := by simpa using ht.symm
         subst h3
         exact (show Tryz.prog.wantsStandIn 30 = false by kernel_rfl)
       · skip
         rcases j with _ | j
         · have h3 : t = 3 := by simpa using ht.symm
           subst h3
           exact (show Tryz.prog.wantsStandIn 3 = false by kernel_rfl)
         · simp at ht⟩)
  (by kernel_rfl)
#print axioms censusSummaries_card
end Go.Proofs.YtfemlajeomohhaaGreatDoor
