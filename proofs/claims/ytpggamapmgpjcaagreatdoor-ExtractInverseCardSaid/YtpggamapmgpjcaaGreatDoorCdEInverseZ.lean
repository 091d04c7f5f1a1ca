/- ExtractInverse: exoduslaw27.ExtractInverse answers true for every model and every plan, and leaves them as they were. The card: the listed tables of the library are tied to the program's text. Conditions: none beyond the row's own. -/
import Derived.Test.YtpggamapmgpjcaaGreatDoorClEInverseZ
import Derived.Test.YtpggamapmgpjcaaGreatDoorTie
import Derived.Test.YtpggamapmgpjcaaGreatDoorCards
import Derived.SevenTiedAt

namespace Go.Proofs.YtpggamapmgpjcaaGreatDoor
open Go
theorem extractInverse_card : Rows.ExtractInverseCardSaid :=
  Claim7.holds_tied_plain_at .later [] [.listed, .data] true (true, "c12a512c21d033e1d1b8e63d3bef4adf9aa1a7e3e546543cd6cb2beda0ccfde4") false
    extractInverse_holds (fun _ h => by cases h) (by kernel_rfl) (fun _ h => by cases h) extractInverse_row_tie rfl ⟨rfl, rfl⟩ (by kernel_rfl) rfl
    (fun f fn hf hfn => by
      obtain rfl : f = 6 := Option.some.inj ((show Tryz.prog.funcNamed "exodus/exoduslaw27.ExtractInverse" = some 6 by kernel_rfl).symm.trans hf) |>.symm
      obtain rfl : fn = Tryz.f6 := (Option.some.inj (Tryz.func6.symm.trans hfn)).symm
      exact ⟨by kernel_rfl, fun j t ht => by
        rw [Tryz.params6] at ht
        rcases j with _ | j
        · have h3 : t = 29 := by simpa using ht.symm
          subst h3
          exact (show Tryz.prog.wantsStandIn 29 = false by kernel_rfl)
        · skip
          rcases j with _ | j
          · have h3 : t = 35 := by simpa using ht.symm
            subst h3
            exact (show Tryz.prog.wantsStandIn 35 = false by kernel_rfl)
          · simp at ht⟩)
    (by kernel_rfl)
#print axioms extractInverse_card
end Go.Proofs.YtpggamapmgpjcaaGreatDoor
