/- ResolveValid: exoduslaw19.ResolveValid answers true for every list of declarations, and leaves it as it was. The card: the listed tables of the library are tied to the program's text. Conditions: none beyond the row's own. -/
import Derived.Test.YtcfogipaadhbeaaGreatDoorUClVValidZ
import Derived.Test.YtcfogipaadhbeaaGreatDoorTie
import Derived.Test.YtcfogipaadhbeaaGreatDoorCards
import Derived.SevenTiedAt

set_option maxRecDepth 100000
set_option maxHeartbeats 16000000
namespace Go.Proofs.YtcfogipaadhbeaaGreatDoor
open Go
theorem resolveValid_card : Rows.ResolveValidCardSaid :=
 Claim7.holds_tied_plain_at .later [] [.data, .data, .data, .listed, .data] true (true, "5456e35d3baa7466810dd76d43cae9f03119c70c2bc55508a19052f7be8bdbaa") false
  resolveValid_holds (fun _ h => by cases h) (by kernel_rfl) (fun _ h => by cases h) resolveValid_row_tie rfl ⟨rfl, rfl⟩ (by kernel_rfl) rfl
  (fun f fn hf hfn => by
    obtain rfl : f = 6 := Option.some.inj ((show Tryz.prog.funcNamed "exodus/exoduslaw19.ResolveValid" = some 6 by kernel_rfl).symm.trans hf) |>.symm
    obtain rfl : fn = Tryz.f6 := (Option.some.inj (Tryz.func6.symm.trans hfn)).symm
    exact ⟨by kernel_rfl, fun j t ht => by
     rw [Tryz.params6] at ht
     rcases j with _ | j
     · have h3 : t = 22 := by simpa using ht.symm
       subst h3
       exact (show Tryz.prog.wantsStandIn 22 = false by kernel_rfl)
     · simp at ht⟩)
  (by kernel_rfl)
#print axioms resolveValid_card
end Go.Proofs.YtcfogipaadhbeaaGreatDoor
