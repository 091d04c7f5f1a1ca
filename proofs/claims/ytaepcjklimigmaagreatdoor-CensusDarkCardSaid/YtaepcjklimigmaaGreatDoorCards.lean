/-
  DERIVED. GIVEN WITH THE SEED: THE CARDS: each row of YtaepcjklimigmaaGreatDoorRows.lean that lists a variable, with what it lists TIED to the program's text (the seventh form; the later family's looks); each row that meets fmt, with fmt's text TOLD by the authors' own Lean function (tested against real Go, not proved from fmt's source: count such statements apart). THE CARD IS WHAT COUNTS. Prove the row's statement (the work); the ties are given (YtaepcjklimigmaaGreatDoorTie.lean); close each card by the builder's one call (the guide's Derived/Test/ToyasCard.lean, 'card_holds'). Laid BY PROGRAM, IN A SANDBOX (cutbox-door.mjs). By AI agents, Wed Nov 11 2026. No macro, syntax, notation, axiom, sorry.
-/
import Derived.Test.YtaepcjklimigmaaGreatDoorRows
import GoSem.ClaimSeven
namespace Go.Proofs.YtaepcjklimigmaaGreatDoor
namespace Rows

/-- THE TIED CARD OF 'exoduslaw58.CensusPlacements'. -/
def censusPlacementsCard : Claim7 := { stood := { row := censusPlacementsRow, standIns := [], harness := (true, "a482780b2b57bce22dd8a5d8558dd0218d816135664a8483446a02c6cab92523"), looks := false }, kinds := [], alts := [], laidByText := true, laidKinds := [.data, .data, .data, .listed, .data], laidTests := true, laidLooks := .later }
def CensusPlacementsCardSaid : Prop := Claim7.holds Tryz.pinned (.plain (OpenSpec.ofChange censusPlacementsSpec)) censusPlacementsCard

/-- THE TIED CARD OF 'exoduslaw58.CensusBreaches'. -/
def censusBreachesCard : Claim7 := { stood := { row := censusBreachesRow, standIns := [], harness := (true, "a482780b2b57bce22dd8a5d8558dd0218d816135664a8483446a02c6cab92523"), looks := false }, kinds := [], alts := [], laidByText := true, laidKinds := [.data, .data, .data, .listed, .data], laidTests := true, laidLooks := .later }
def CensusBreachesCardSaid : Prop := Claim7.holds Tryz.pinned (.plain (OpenSpec.ofChange censusBreachesSpec)) censusBreachesCard

/-- THE TIED CARD OF 'exoduslaw58.CensusAdds'. -/
def censusAddsCard : Claim7 := { stood := { row := censusAddsRow, standIns := [], harness := (true, "a482780b2b57bce22dd8a5d8558dd0218d816135664a8483446a02c6cab92523"), looks := false }, kinds := [], alts := [], laidByText := true, laidKinds := [.data, .data, .data, .listed, .data], laidTests := true, laidLooks := .later }
def CensusAddsCardSaid : Prop := Claim7.holds Tryz.pinned (.plain (OpenSpec.ofChange censusAddsSpec)) censusAddsCard

/-- THE TIED CARD OF 'exoduslaw58.CensusKeeps'. -/
def censusKeepsCard : Claim7 := { stood := { row := censusKeepsRow, standIns := [], harness := (true, "a482780b2b57bce22dd8a5d8558dd0218d816135664a8483446a02c6cab92523"), looks := false }, kinds := [], alts := [], laidByText := true, laidKinds := [.data, .data, .data, .listed, .data], laidTests := true, laidLooks := .later }
def CensusKeepsCardSaid : Prop := Claim7.holds Tryz.pinned (.plain (OpenSpec.ofChange censusKeepsSpec)) censusKeepsCard

/-- THE TIED CARD OF 'exoduslaw58.CensusDark'. -/
def censusDarkCard : Claim7 := { stood := { row := censusDarkRow, standIns := [], harness := (true, "a482780b2b57bce22dd8a5d8558dd0218d816135664a8483446a02c6cab92523"), looks := false }, kinds := [], alts := [], laidByText := true, laidKinds := [.data, .data, .data, .listed, .data], laidTests := true, laidLooks := .later }
def CensusDarkCardSaid : Prop := Claim7.holds Tryz.pinned (.plain (OpenSpec.ofChange censusDarkSpec)) censusDarkCard

/-- THE TIED CARD OF 'exoduslaw58.CensusOutages'. -/
def censusOutagesCard : Claim7 := { stood := { row := censusOutagesRow, standIns := [], harness := (true, "a482780b2b57bce22dd8a5d8558dd0218d816135664a8483446a02c6cab92523"), looks := false }, kinds := [], alts := [], laidByText := true, laidKinds := [.data, .data, .data, .listed, .data], laidTests := true, laidLooks := .later }
def CensusOutagesCardSaid : Prop := Claim7.holds Tryz.pinned (.plain (OpenSpec.ofChange censusOutagesSpec)) censusOutagesCard

/-- THE TIED CARD OF 'exoduslaw58.CensusSummaries'. -/
def censusSummariesCard : Claim7 := { stood := { row := censusSummariesRow, standIns := [], harness := (true, "a482780b2b57bce22dd8a5d8558dd0218d816135664a8483446a02c6cab92523"), looks := false }, kinds := [], alts := [], laidByText := true, laidKinds := [.data, .data, .data, .listed, .data], laidTests := true, laidLooks := .later }
def CensusSummariesCardSaid : Prop := Claim7.holds Tryz.pinned (.plain (OpenSpec.ofChange censusSummariesSpec)) censusSummariesCard

/-- THE SECOND FORM's CARD OF 'exoduslaw58.CensusPlacements'. -/
def censusPlacementsUptoCard : Claim7 := { stood := { row := censusPlacementsUptoRow, standIns := [], harness := (true, "a482780b2b57bce22dd8a5d8558dd0218d816135664a8483446a02c6cab92523"), looks := false }, kinds := [], alts := [], laidByText := true, laidKinds := [.data, .data, .data, .listed, .data], laidTests := true, laidLooks := .later }
def CensusPlacementsUptoCardSaid : Prop := Claim7.holds Tryz.pinned (.plain (OpenSpec.upto censusPlacementsSpec)) censusPlacementsUptoCard

/-- THE SECOND FORM's CARD OF 'exoduslaw58.CensusBreaches'. -/
def censusBreachesUptoCard : Claim7 := { stood := { row := censusBreachesUptoRow, standIns := [], harness := (true, "a482780b2b57bce22dd8a5d8558dd0218d816135664a8483446a02c6cab92523"), looks := false }, kinds := [], alts := [], laidByText := true, laidKinds := [.data, .data, .data, .listed, .data], laidTests := true, laidLooks := .later }
def CensusBreachesUptoCardSaid : Prop := Claim7.holds Tryz.pinned (.plain (OpenSpec.upto censusBreachesSpec)) censusBreachesUptoCard

/-- THE SECOND FORM's CARD OF 'exoduslaw58.CensusAdds'. -/
def censusAddsUptoCard : Claim7 := { stood := { row := censusAddsUptoRow, standIns := [], harness := (true, "a482780b2b57bce22dd8a5d8558dd0218d816135664a8483446a02c6cab92523"), looks := false }, kinds := [], alts := [], laidByText := true, laidKinds := [.data, .data, .data, .listed, .data], laidTests := true, laidLooks := .later }
def CensusAddsUptoCardSaid : Prop := Claim7.holds Tryz.pinned (.plain (OpenSpec.upto censusAddsSpec)) censusAddsUptoCard

/-- THE SECOND FORM's CARD OF 'exoduslaw58.CensusKeeps'. -/
def censusKeepsUptoCard : Claim7 := { stood := { row := censusKeepsUptoRow, standIns := [], harness := (true, "a482780b2b57bce22dd8a5d8558dd0218d816135664a8483446a02c6cab92523"), looks := false }, kinds := [], alts := [], laidByText := true, laidKinds := [.data, .data, .data, .listed, .data], laidTests := true, laidLooks := .later }
def CensusKeepsUptoCardSaid : Prop := Claim7.holds Tryz.pinned (.plain (OpenSpec.upto censusKeepsSpec)) censusKeepsUptoCard

/-- THE SECOND FORM's CARD OF 'exoduslaw58.CensusDark'. -/
def censusDarkUptoCard : Claim7 := { stood := { row := censusDarkUptoRow, standIns := [], harness := (true, "a482780b2b57bce22dd8a5d8558dd0218d816135664a8483446a02c6cab92523"), looks := false }, kinds := [], alts := [], laidByText := true, laidKinds := [.data, .data, .data, .listed, .data], laidTests := true, laidLooks := .later }
def CensusDarkUptoCardSaid : Prop := Claim7.holds Tryz.pinned (.plain (OpenSpec.upto censusDarkSpec)) censusDarkUptoCard

/-- THE SECOND FORM's CARD OF 'exoduslaw58.CensusOutages'. -/
def censusOutagesUptoCard : Claim7 := { stood := { row := censusOutagesUptoRow, standIns := [], harness := (true, "a482780b2b57bce22dd8a5d8558dd0218d816135664a8483446a02c6cab92523"), looks := false }, kinds := [], alts := [], laidByText := true, laidKinds := [.data, .data, .data, .listed, .data], laidTests := true, laidLooks := .later }
def CensusOutagesUptoCardSaid : Prop := Claim7.holds Tryz.pinned (.plain (OpenSpec.upto censusOutagesSpec)) censusOutagesUptoCard

/-- THE SECOND FORM's CARD OF 'exoduslaw58.CensusSummaries'. -/
def censusSummariesUptoCard : Claim7 := { stood := { row := censusSummariesUptoRow, standIns := [], harness := (true, "a482780b2b57bce22dd8a5d8558dd0218d816135664a8483446a02c6cab92523"), looks := false }, kinds := [], alts := [], laidByText := true, laidKinds := [.data, .data, .data, .listed, .data], laidTests := true, laidLooks := .later }
def CensusSummariesUptoCardSaid : Prop := Claim7.holds Tryz.pinned (.plain (OpenSpec.upto censusSummariesSpec)) censusSummariesUptoCard
end Rows
end Go.Proofs.YtaepcjklimigmaaGreatDoor
