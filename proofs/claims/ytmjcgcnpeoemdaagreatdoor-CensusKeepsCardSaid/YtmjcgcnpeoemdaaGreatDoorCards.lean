/-
  DERIVED. GIVEN WITH THE SEED: THE CARDS: each row of YtmjcgcnpeoemdaaGreatDoorRows.lean that lists a variable, with what it lists TIED to the program's text (the seventh form; the later family's looks); each row that meets fmt, with fmt's text TOLD by the authors' own Lean function (tested against real Go, not proved from fmt's source: count such statements apart). THE CARD IS WHAT COUNTS. Prove the row's statement (the work); the ties are given (YtmjcgcnpeoemdaaGreatDoorTie.lean); close each card by the builder's one call (the guide's Derived/Test/ToyasCard.lean, 'card_holds'). Laid BY PROGRAM, IN A SANDBOX (cutbox-door.mjs). By AI agents, Wed Nov 11 2026. No macro, syntax, notation, axiom, sorry.
-/
import Derived.Test.YtmjcgcnpeoemdaaGreatDoorRows
import GoSem.ClaimSeven
namespace Go.Proofs.YtmjcgcnpeoemdaaGreatDoor
namespace Rows

/-- THE TIED CARD OF 'exoduslaw58.CensusAdds'. -/
def censusAddsCard : Claim7 := { stood := { row := censusAddsRow, standIns := [], harness := (true, "fb5e916d8bfffd85317c25045e5bce7d6870a6946426e47a42eaab72bf0cf52f"), looks := false }, kinds := [], alts := [], laidByText := true, laidKinds := [.data, .data, .data, .listed, .data], laidTests := true, laidLooks := .later }
def CensusAddsCardSaid : Prop := Claim7.holds Tryz.pinned (.plain (OpenSpec.ofChange censusAddsSpec)) censusAddsCard

/-- THE TIED CARD OF 'exoduslaw58.CensusKeeps'. -/
def censusKeepsCard : Claim7 := { stood := { row := censusKeepsRow, standIns := [], harness := (true, "fb5e916d8bfffd85317c25045e5bce7d6870a6946426e47a42eaab72bf0cf52f"), looks := false }, kinds := [], alts := [], laidByText := true, laidKinds := [.data, .data, .data, .listed, .data], laidTests := true, laidLooks := .later }
def CensusKeepsCardSaid : Prop := Claim7.holds Tryz.pinned (.plain (OpenSpec.ofChange censusKeepsSpec)) censusKeepsCard

/-- THE SECOND FORM's CARD OF 'exoduslaw58.CensusAdds'. -/
def censusAddsUptoCard : Claim7 := { stood := { row := censusAddsUptoRow, standIns := [], harness := (true, "fb5e916d8bfffd85317c25045e5bce7d6870a6946426e47a42eaab72bf0cf52f"), looks := false }, kinds := [], alts := [], laidByText := true, laidKinds := [.data, .data, .data, .listed, .data], laidTests := true, laidLooks := .later }
def CensusAddsUptoCardSaid : Prop := Claim7.holds Tryz.pinned (.plain (OpenSpec.upto censusAddsSpec)) censusAddsUptoCard

/-- THE SECOND FORM's CARD OF 'exoduslaw58.CensusKeeps'. -/
def censusKeepsUptoCard : Claim7 := { stood := { row := censusKeepsUptoRow, standIns := [], harness := (true, "fb5e916d8bfffd85317c25045e5bce7d6870a6946426e47a42eaab72bf0cf52f"), looks := false }, kinds := [], alts := [], laidByText := true, laidKinds := [.data, .data, .data, .listed, .data], laidTests := true, laidLooks := .later }
def CensusKeepsUptoCardSaid : Prop := Claim7.holds Tryz.pinned (.plain (OpenSpec.upto censusKeepsSpec)) censusKeepsUptoCard
end Rows
end Go.Proofs.YtmjcgcnpeoemdaaGreatDoor
