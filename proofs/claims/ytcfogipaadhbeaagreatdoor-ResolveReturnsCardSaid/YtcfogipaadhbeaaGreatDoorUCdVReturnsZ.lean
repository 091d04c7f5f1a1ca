/- ResolveReturns: exoduslaw19.ResolveReturns answers true for every model, and leaves it as it was. The card: the listed tables of the library are tied to the program's text. Conditions: none beyond the row's own. -/
import Derived.Test.YtcfogipaadhbeaaGreatDoorUClVReturnsZ
import Derived.Test.YtcfogipaadhbeaaGreatDoorTie
import Derived.Test.YtcfogipaadhbeaaGreatDoorCards
import Derived.SevenTiedAt

set_option maxRecDepth 100000
set_option maxHeartbeats 16000000
namespace Go.Proofs.YtcfogipaadhbeaaGreatDoor
open Go
theorem resolveReturns_card : Rows.ResolveReturnsCardSaid :=
 Claim7.holds_tied_plain_at .later [] [.data, .data, .data, .listed, .data] true (true, "5456e35d3baa7466810dd76d43cae9f03119c70c2bc55508a19052f7be8bdbaa") false
  resolveReturns_holds (fun _ h => by cases h) (by kernel_rfl) (fun _ h => by cases h) resolveReturns_row_tie rfl ⟨rfl, rfl⟩ (by kernel_rfl) rfl
  (fun f fn hf hfn => by
    obtain rfl : f = 5 := Option.some.inj ((show Tryz.prog.funcNamed "exodus/exoduslaw19.ResolveReturns" = some 5 by kernel_rfl).symm.trans hf) |>.symm
    obtain rfl : fn = Tryz.f5 := (Option.some.inj (Tryz.func5.symm.trans hfn)).symm
    exact ⟨by kernel_rfl, fun j t ht => by
     rw [Tryz.params5] at ht
     rcases j with _ | j
     · have h3 : t = 32 := by simpa using ht.symm
       subst h3
       exact (show Tryz.prog.wantsStandIn 32 = false by kernel_rfl)
     · simp at ht⟩)
  (by kernel_rfl)
#print axioms resolveReturns_card
end Go.Proofs.YtcfogipaadhbeaaGreatDoor
