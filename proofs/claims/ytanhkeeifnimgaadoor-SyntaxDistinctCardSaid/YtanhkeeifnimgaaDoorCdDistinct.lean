/- SyntaxDistinct: exoduslaw17.SyntaxDistinct answers true for every two declarations and leaves them as they were. The card: the listed tables of the library are tied to the program's text. Conditions: none beyond the row's own. -/
import Derived.Test.YtanhkeeifnimgaaDoorClDistinct
import Derived.Test.YtanhkeeifnimgaaDoorTie
import Derived.Test.YtanhkeeifnimgaaDoorCards
import Derived.SevenTiedAt
namespace Go.Proofs.YtanhkeeifnimgaaDoor
open Go
theorem syntaxDistinct_card : Rows.SyntaxDistinctCardSaid :=
  Claim7.holds_tied_plain_at .later [] [.data, .data, .data, .listed, .data] true (true, "6baa46e61a8980a232a3dc1835542c3cbfd3ead03a5ef5d23688cd43ea1410cc") false
    syntaxDistinct_holds (fun _ h => by cases h) (by kernel_rfl) (fun _ h => by cases h) syntaxDistinct_row_tie rfl ⟨rfl, rfl⟩ (by kernel_rfl) rfl
    (fun f fn hf hfn => by
      obtain rfl : f = 9 := Option.some.inj ((show Tryd.prog.funcNamed "exodus/exoduslaw17.SyntaxDistinct" = some 9 by kernel_rfl).symm.trans hf) |>.symm
      obtain rfl : fn = Tryd.f9 := (Option.some.inj (Tryd.func9.symm.trans hfn)).symm
      exact ⟨by kernel_rfl, fun j t ht => by
        rw [Tryd.params9] at ht
        have h3 : t = 38 := by
          rcases j with _ | j
          · simpa using ht.symm
          · rcases j with _ | j
            · simpa using ht.symm
            · simp at ht
        subst h3
        exact (show Tryd.prog.wantsStandIn 38 = false by kernel_rfl)⟩)
    (by kernel_rfl)
#print axioms syntaxDistinct_card
end Go.Proofs.YtanhkeeifnimgaaDoor
