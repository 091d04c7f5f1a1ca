/-
  DERIVED. GIVEN WITH THE SEED: THE CARDS: each row of YtpggamapmgpjcaaGreatDoorRows.lean that lists a variable, with what it lists TIED to the program's text (the seventh form; the later family's looks); each row that meets fmt, with fmt's text TOLD by the authors' own Lean function (tested against real Go, not proved from fmt's source: count such statements apart). THE CARD IS WHAT COUNTS. Prove the row's statement (the work); the ties are given (YtpggamapmgpjcaaGreatDoorTie.lean); close each card by the builder's one call (the guide's Derived/Test/ToyasCard.lean, 'card_holds'). Laid BY PROGRAM, IN A SANDBOX (cutbox-door.mjs). By AI agents, Wed Nov 11 2026. No macro, syntax, notation, axiom, sorry.
-/
import Derived.Test.YtpggamapmgpjcaaGreatDoorRows
import GoSem.ClaimSeven
namespace Go.Proofs.YtpggamapmgpjcaaGreatDoor
namespace Rows

/-- THE TIED CARD OF 'exoduslaw27.ExtractPlans'. -/
def extractPlansCard : Claim7 := { stood := { row := extractPlansRow, standIns := [], harness := (true, "c12a512c21d033e1d1b8e63d3bef4adf9aa1a7e3e546543cd6cb2beda0ccfde4"), looks := false }, kinds := [], alts := [], laidByText := true, laidKinds := [.listed, .data], laidTests := true, laidLooks := .later }
def ExtractPlansCardSaid : Prop := Claim7.holds Tryz.pinned (.plain (OpenSpec.ofChange extractPlansSpec)) extractPlansCard

/-- THE TIED CARD OF 'exoduslaw27.ExtractPoints'. -/
def extractPointsCard : Claim7 := { stood := { row := extractPointsRow, standIns := [], harness := (true, "c12a512c21d033e1d1b8e63d3bef4adf9aa1a7e3e546543cd6cb2beda0ccfde4"), looks := false }, kinds := [], alts := [], laidByText := true, laidKinds := [.listed, .data], laidTests := true, laidLooks := .later }
def ExtractPointsCardSaid : Prop := Claim7.holds Tryz.pinned (.plain (OpenSpec.ofChange extractPointsSpec)) extractPointsCard

/-- THE TIED CARD OF 'exoduslaw27.ExtractReturns'. -/
def extractReturnsCard : Claim7 := { stood := { row := extractReturnsRow, standIns := [], harness := (true, "c12a512c21d033e1d1b8e63d3bef4adf9aa1a7e3e546543cd6cb2beda0ccfde4"), looks := false }, kinds := [], alts := [], laidByText := true, laidKinds := [.listed, .data], laidTests := true, laidLooks := .later }
def ExtractReturnsCardSaid : Prop := Claim7.holds Tryz.pinned (.plain (OpenSpec.ofChange extractReturnsSpec)) extractReturnsCard

/-- THE TIED CARD OF 'exoduslaw27.ExtractInverse'. -/
def extractInverseCard : Claim7 := { stood := { row := extractInverseRow, standIns := [], harness := (true, "c12a512c21d033e1d1b8e63d3bef4adf9aa1a7e3e546543cd6cb2beda0ccfde4"), looks := false }, kinds := [], alts := [], laidByText := true, laidKinds := [.listed, .data], laidTests := true, laidLooks := .later }
def ExtractInverseCardSaid : Prop := Claim7.holds Tryz.pinned (.plain (OpenSpec.ofChange extractInverseSpec)) extractInverseCard

/-- THE SECOND FORM's CARD OF 'exoduslaw27.ExtractPlans'. -/
def extractPlansUptoCard : Claim7 := { stood := { row := extractPlansUptoRow, standIns := [], harness := (true, "c12a512c21d033e1d1b8e63d3bef4adf9aa1a7e3e546543cd6cb2beda0ccfde4"), looks := false }, kinds := [], alts := [], laidByText := true, laidKinds := [.listed, .data], laidTests := true, laidLooks := .later }
def ExtractPlansUptoCardSaid : Prop := Claim7.holds Tryz.pinned (.plain (OpenSpec.upto extractPlansSpec)) extractPlansUptoCard

/-- THE SECOND FORM's CARD OF 'exoduslaw27.ExtractPoints'. -/
def extractPointsUptoCard : Claim7 := { stood := { row := extractPointsUptoRow, standIns := [], harness := (true, "c12a512c21d033e1d1b8e63d3bef4adf9aa1a7e3e546543cd6cb2beda0ccfde4"), looks := false }, kinds := [], alts := [], laidByText := true, laidKinds := [.listed, .data], laidTests := true, laidLooks := .later }
def ExtractPointsUptoCardSaid : Prop := Claim7.holds Tryz.pinned (.plain (OpenSpec.upto extractPointsSpec)) extractPointsUptoCard

/-- THE SECOND FORM's CARD OF 'exoduslaw27.ExtractReturns'. -/
def extractReturnsUptoCard : Claim7 := { stood := { row := extractReturnsUptoRow, standIns := [], harness := (true, "c12a512c21d033e1d1b8e63d3bef4adf9aa1a7e3e546543cd6cb2beda0ccfde4"), looks := false }, kinds := [], alts := [], laidByText := true, laidKinds := [.listed, .data], laidTests := true, laidLooks := .later }
def ExtractReturnsUptoCardSaid : Prop := Claim7.holds Tryz.pinned (.plain (OpenSpec.upto extractReturnsSpec)) extractReturnsUptoCard

/-- THE SECOND FORM's CARD OF 'exoduslaw27.ExtractInverse'. -/
def extractInverseUptoCard : Claim7 := { stood := { row := extractInverseUptoRow, standIns := [], harness := (true, "c12a512c21d033e1d1b8e63d3bef4adf9aa1a7e3e546543cd6cb2beda0ccfde4"), looks := false }, kinds := [], alts := [], laidByText := true, laidKinds := [.listed, .data], laidTests := true, laidLooks := .later }
def ExtractInverseUptoCardSaid : Prop := Claim7.holds Tryz.pinned (.plain (OpenSpec.upto extractInverseSpec)) extractInverseUptoCard
end Rows
end Go.Proofs.YtpggamapmgpjcaaGreatDoor
