/-
  DERIVED. GIVEN WITH THE SEED: THE CARDS: each row of YtfemlajeomohhaaGreatDoorRows.lean that lists a variable, with what it lists TIED to the program's text (the seventh form; the later family's looks); each row that meets fmt, with fmt's text TOLD by the authors' own Lean function (tested against real Go, not proved from fmt's source: count such statements apart). THE CARD IS WHAT COUNTS. Prove the row's statement (the work); the ties are given (YtfemlajeomohhaaGreatDoorTie.lean); close each card by the builder's one call (the guide's Derived/Test/ToyasCard.lean, 'card_holds'). Laid BY PROGRAM, IN A SANDBOX (cutbox-door.mjs). By AI agents, Wed Nov 11 2026. No macro, syntax, notation, axiom, sorry.
-/
import Derived.Test.YtfemlajeomohhaaGreatDoorRows
import GoSem.ClaimSeven
namespace Go.Proofs.YtfemlajeomohhaaGreatDoor
namespace Rows

/-- THE TIED CARD OF 'exoduslaw58.CensusSummaries'. -/
def censusSummariesCard : Claim7 := { stood := { row := censusSummariesRow, standIns := [], harness := (true, "8c31d2367225410c2d4f6d8ebb7e70a882dbd6cd58f492ee38f9a94c198b83c6"), looks := false }, kinds := [], alts := [], laidByText := true, laidKinds := [.data, .data, .data, .listed, .data], laidTests := true, laidLooks := .later }
def CensusSummariesCardSaid : Prop := Claim7.holds Tryz.pinned (.plain (OpenSpec.ofChange censusSummariesSpec)) censusSummariesCard

/-- THE SECOND FORM's CARD OF 'exoduslaw58.CensusSummaries'. -/
def censusSummariesUptoCard : Claim7 := { stood := { row := censusSummariesUptoRow, standIns := [], harness := (true, "8c31d2367225410c2d4f6d8ebb7e70a882dbd6cd58f492ee38f9a94c198b83c6"), looks := false }, kinds := [], alts := [], laidByText := true, laidKinds := [.data, .data, .data, .listed, .data], laidTests := true, laidLooks := .later }
def CensusSummariesUptoCardSaid : Prop := Claim7.holds Tryz.pinned (.plain (OpenSpec.upto censusSummariesSpec)) censusSummariesUptoCard
end Rows
end Go.Proofs.YtfemlajeomohhaaGreatDoor
