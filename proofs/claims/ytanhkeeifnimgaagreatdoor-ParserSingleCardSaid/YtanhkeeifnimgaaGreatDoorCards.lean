/-
  DERIVED. GIVEN WITH THE SEED: THE CARDS: each row of YtanhkeeifnimgaaGreatDoorRows.lean that lists a variable, with what it lists TIED to the program's text (the seventh form; the later family's looks); each row that meets fmt, with fmt's text TOLD by the authors' own Lean function (tested against real Go, not proved from fmt's source: count such statements apart). THE CARD IS WHAT COUNTS. Prove the row's statement (the work); the ties are given (YtanhkeeifnimgaaGreatDoorTie.lean); close each card by the builder's one call (the guide's Derived/Test/ToyasCard.lean, 'card_holds'). Laid BY PROGRAM, IN A SANDBOX (cutbox-door.mjs). By AI agents, Wed Nov 11 2026. No macro, syntax, notation, axiom, sorry.
-/
import Derived.Test.YtanhkeeifnimgaaGreatDoorRows
import GoSem.ClaimSeven
namespace Go.Proofs.YtanhkeeifnimgaaGreatDoor
namespace Rows

/-- THE TIED CARD OF 'exoduslaw17.SyntaxParts'. -/
def syntaxPartsCard : Claim7 := { stood := { row := syntaxPartsRow, standIns := [], harness := (true, "502995226b4b3e438c53b56cb10eb609b9985d7ab5ea840ce9223babc5b31ab4"), looks := false }, kinds := [], alts := [], laidByText := true, laidKinds := [.data, .data, .data, .listed, .data], laidTests := true, laidLooks := .later }
def SyntaxPartsCardSaid : Prop := Claim7.holds Tryz.pinned (.plain (OpenSpec.ofChange syntaxPartsSpec)) syntaxPartsCard

/-- THE TIED CARD OF 'exoduslaw17.SyntaxTokens'. -/
def syntaxTokensCard : Claim7 := { stood := { row := syntaxTokensRow, standIns := [], harness := (true, "502995226b4b3e438c53b56cb10eb609b9985d7ab5ea840ce9223babc5b31ab4"), looks := false }, kinds := [], alts := [], laidByText := true, laidKinds := [.data, .data, .data, .listed, .data], laidTests := true, laidLooks := .later }
def SyntaxTokensCardSaid : Prop := Claim7.holds Tryz.pinned (.plain (OpenSpec.ofChange syntaxTokensSpec)) syntaxTokensCard

/-- THE TIED CARD OF 'exoduslaw18.ParserSingle'. -/
def parserSingleCard : Claim7 := { stood := { row := parserSingleRow, standIns := [], harness := (true, "502995226b4b3e438c53b56cb10eb609b9985d7ab5ea840ce9223babc5b31ab4"), looks := false }, kinds := [], alts := [], laidByText := true, laidKinds := [.data, .data, .data, .listed, .data], laidTests := true, laidLooks := .later }
def ParserSingleCardSaid : Prop := Claim7.holds Tryz.pinned (.plain (OpenSpec.ofChange parserSingleSpec)) parserSingleCard

/-- THE TIED CARD OF 'exoduslaw18.ParserTexts'. -/
def parserTextsCard : Claim7 := { stood := { row := parserTextsRow, standIns := [], harness := (true, "502995226b4b3e438c53b56cb10eb609b9985d7ab5ea840ce9223babc5b31ab4"), looks := false }, kinds := [], alts := [], laidByText := true, laidKinds := [.data, .data, .data, .listed, .data], laidTests := true, laidLooks := .later }
def ParserTextsCardSaid : Prop := Claim7.holds Tryz.pinned (.plain (OpenSpec.ofChange parserTextsSpec)) parserTextsCard

/-- THE TIED CARD OF 'exoduslaw18.ParserValid'. -/
def parserValidCard : Claim7 := { stood := { row := parserValidRow, standIns := [], harness := (true, "502995226b4b3e438c53b56cb10eb609b9985d7ab5ea840ce9223babc5b31ab4"), looks := false }, kinds := [], alts := [], laidByText := true, laidKinds := [.data, .data, .data, .listed, .data], laidTests := true, laidLooks := .later }
def ParserValidCardSaid : Prop := Claim7.holds Tryz.pinned (.plain (OpenSpec.ofChange parserValidSpec)) parserValidCard

/-- THE SECOND FORM's CARD OF 'exoduslaw17.SyntaxParts'. -/
def syntaxPartsUptoCard : Claim7 := { stood := { row := syntaxPartsUptoRow, standIns := [], harness := (true, "502995226b4b3e438c53b56cb10eb609b9985d7ab5ea840ce9223babc5b31ab4"), looks := false }, kinds := [], alts := [], laidByText := true, laidKinds := [.data, .data, .data, .listed, .data], laidTests := true, laidLooks := .later }
def SyntaxPartsUptoCardSaid : Prop := Claim7.holds Tryz.pinned (.plain (OpenSpec.upto syntaxPartsSpec)) syntaxPartsUptoCard

/-- THE SECOND FORM's CARD OF 'exoduslaw17.SyntaxTokens'. -/
def syntaxTokensUptoCard : Claim7 := { stood := { row := syntaxTokensUptoRow, standIns := [], harness := (true, "502995226b4b3e438c53b56cb10eb609b9985d7ab5ea840ce9223babc5b31ab4"), looks := false }, kinds := [], alts := [], laidByText := true, laidKinds := [.data, .data, .data, .listed, .data], laidTests := true, laidLooks := .later }
def SyntaxTokensUptoCardSaid : Prop := Claim7.holds Tryz.pinned (.plain (OpenSpec.upto syntaxTokensSpec)) syntaxTokensUptoCard

/-- THE SECOND FORM's CARD OF 'exoduslaw18.ParserSingle'. -/
def parserSingleUptoCard : Claim7 := { stood := { row := parserSingleUptoRow, standIns := [], harness := (true, "502995226b4b3e438c53b56cb10eb609b9985d7ab5ea840ce9223babc5b31ab4"), looks := false }, kinds := [], alts := [], laidByText := true, laidKinds := [.data, .data, .data, .listed, .data], laidTests := true, laidLooks := .later }
def ParserSingleUptoCardSaid : Prop := Claim7.holds Tryz.pinned (.plain (OpenSpec.upto parserSingleSpec)) parserSingleUptoCard

/-- THE SECOND FORM's CARD OF 'exoduslaw18.ParserTexts'. -/
def parserTextsUptoCard : Claim7 := { stood := { row := parserTextsUptoRow, standIns := [], harness := (true, "502995226b4b3e438c53b56cb10eb609b9985d7ab5ea840ce9223babc5b31ab4"), looks := false }, kinds := [], alts := [], laidByText := true, laidKinds := [.data, .data, .data, .listed, .data], laidTests := true, laidLooks := .later }
def ParserTextsUptoCardSaid : Prop := Claim7.holds Tryz.pinned (.plain (OpenSpec.upto parserTextsSpec)) parserTextsUptoCard

/-- THE SECOND FORM's CARD OF 'exoduslaw18.ParserValid'. -/
def parserValidUptoCard : Claim7 := { stood := { row := parserValidUptoRow, standIns := [], harness := (true, "502995226b4b3e438c53b56cb10eb609b9985d7ab5ea840ce9223babc5b31ab4"), looks := false }, kinds := [], alts := [], laidByText := true, laidKinds := [.data, .data, .data, .listed, .data], laidTests := true, laidLooks := .later }
def ParserValidUptoCardSaid : Prop := Claim7.holds Tryz.pinned (.plain (OpenSpec.upto parserValidSpec)) parserValidUptoCard
end Rows
end Go.Proofs.YtanhkeeifnimgaaGreatDoor
