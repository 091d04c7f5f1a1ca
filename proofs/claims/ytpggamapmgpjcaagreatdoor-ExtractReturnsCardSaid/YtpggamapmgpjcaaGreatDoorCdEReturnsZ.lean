/- ExtractReturns: exoduslaw27.ExtractReturns answers true for every model and all numbers, and leaves them as they were. The card: the listed tables of the library are tied to the program's text. Conditions: none beyond the row's own. -/
import Derived.Test.YtpggamapmgpjcaaGreatDoorClEReturnsZ
import Derived.Test.YtpggamapmgpjcaaGreatDoorTie
import Derived.Test.YtpggamapmgpjcaaGreatDoorCards
import Derived.SevenTiedAt

namespace Go.Proofs.YtpggamapmgpjcaaGreatDoor
open Go
theorem extractReturns_card : Rows.ExtractReturnsCardSaid :=
  Claim7.holds_tied_plain_at .later [] [.listed, .data] true (true, "c12a512c21d033e1d1b8e63d3bef4adf9aa1a7e3e546543cd6cb2beda0ccfde4") false
    extractReturns_holds (fun _ h => by cases h) (by kernel_rfl) (fun _ h => by cases h) extractReturns_row_tie rfl ⟨rfl, rfl⟩ (by kernel_rfl) rfl
    (fun f fn hf hfn => by
      obtain rfl : f = 5 := Option.some.inj ((show Tryz.prog.funcNamed "exodus/exoduslaw27.ExtractReturns" = some 5 by kernel_rfl).symm.trans hf) |>.symm
      obtain rfl : fn = Tryz.f5 := (Option.some.inj (Tryz.func5.symm.trans hfn)).symm
      exact ⟨by kernel_rfl, fun j t ht => by
        rw [Tryz.params5] at ht
        rcases j with _ | j
        · have h3 : t = 29 := by simpa using ht.symm
          subst h3
          exact (show Tryz.prog.wantsStandIn 29 = false by kernel_rfl)
        · skip
          rcases j with _ | j
          · have h3 : t = 30 := by simpa using ht.symm
            subst h3
            exact (show Tryz.prog.wantsStandIn 30 = false by kernel_rfl)
          · simp at ht⟩)
    (by kernel_rfl)
#print axioms extractReturns_card
end Go.Proofs.YtpggamapmgpjcaaGreatDoor
