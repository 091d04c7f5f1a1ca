/-
  DERIVED. GIVEN WITH THE SEED: THE CARDS: each row of YtanhkeeifnimgaaDoorRows.lean that lists a variable, with what it lists TIED to the program's text (the seventh form; the later family's looks); each row that meets fmt, with fmt's text TOLD by the authors' own Lean function (tested against real Go, not proved from fmt's source: count such statements apart). THE CARD IS WHAT COUNTS. Prove the row's statement (the work); the ties are given (YtanhkeeifnimgaaDoorTie.lean); close each card by the builder's one call (the guide's Derived/Test/ToyasCard.lean, 'card_holds'). Laid BY PROGRAM, IN A SANDBOX (cutbox-door.mjs). By AI agents, Wed Nov 11 2026. No macro, syntax, notation, axiom, sorry.
-/
import Derived.Test.YtanhkeeifnimgaaDoorRows
import GoSem.ClaimSeven
namespace Go.Proofs.YtanhkeeifnimgaaDoor
namespace Rows

/-- THE TIED CARD OF 'exoduslaw18.ParserJoins'. -/
def parserJoinsCard : Claim7 := { stood := { row := parserJoinsRow, standIns := [], harness := (true, "6baa46e61a8980a232a3dc1835542c3cbfd3ead03a5ef5d23688cd43ea1410cc"), looks := false }, kinds := [], alts := [], laidByText := true, laidKinds := [.listed, .data], laidTests := true, laidLooks := .later }
def ParserJoinsCardSaid : Prop := Claim7.holds Tryd.pinned (.plain (OpenSpec.ofChange parserJoinsSpec)) parserJoinsCard

/-- THE TIED CARD OF 'exoduslaw18.ParserPlaces'. -/
def parserPlacesCard : Claim7 := { stood := { row := parserPlacesRow, standIns := [], harness := (true, "6baa46e61a8980a232a3dc1835542c3cbfd3ead03a5ef5d23688cd43ea1410cc"), looks := false }, kinds := [], alts := [], laidByText := true, laidKinds := [.listed, .data], laidTests := true, laidLooks := .later }
def ParserPlacesCardSaid : Prop := Claim7.holds Tryd.pinned (.plain (OpenSpec.ofChange parserPlacesSpec)) parserPlacesCard

/-- THE TIED CARD OF 'exoduslaw17.SyntaxValid'. -/
def syntaxValidCard : Claim7 := { stood := { row := syntaxValidRow, standIns := [], harness := (true, "6baa46e61a8980a232a3dc1835542c3cbfd3ead03a5ef5d23688cd43ea1410cc"), looks := false }, kinds := [], alts := [], laidByText := true, laidKinds := [.data, .data, .data, .listed, .data], laidTests := true, laidLooks := .later }
def SyntaxValidCardSaid : Prop := Claim7.holds Tryd.pinned (.plain (OpenSpec.ofChange syntaxValidSpec)) syntaxValidCard

/-- THE TIED CARD OF 'exoduslaw17.SyntaxText'. -/
def syntaxTextCard : Claim7 := { stood := { row := syntaxTextRow, standIns := [], harness := (true, "6baa46e61a8980a232a3dc1835542c3cbfd3ead03a5ef5d23688cd43ea1410cc"), looks := false }, kinds := [], alts := [], laidByText := true, laidKinds := [.data, .data, .data, .listed, .data], laidTests := true, laidLooks := .later }
def SyntaxTextCardSaid : Prop := Claim7.holds Tryd.pinned (.plain (OpenSpec.ofChange syntaxTextSpec)) syntaxTextCard

/-- THE TIED CARD OF 'exoduslaw17.SyntaxFormat'. -/
def syntaxFormatCard : Claim7 := { stood := { row := syntaxFormatRow, standIns := [], harness := (true, "6baa46e61a8980a232a3dc1835542c3cbfd3ead03a5ef5d23688cd43ea1410cc"), looks := false }, kinds := [], alts := [], laidByText := true, laidKinds := [.data, .data, .data, .listed, .data], laidTests := true, laidLooks := .later }
def SyntaxFormatCardSaid : Prop := Claim7.holds Tryd.pinned (.plain (OpenSpec.ofChange syntaxFormatSpec)) syntaxFormatCard

/-- THE TIED CARD OF 'exoduslaw17.SyntaxSame'. -/
def syntaxSameCard : Claim7 := { stood := { row := syntaxSameRow, standIns := [], harness := (true, "6baa46e61a8980a232a3dc1835542c3cbfd3ead03a5ef5d23688cd43ea1410cc"), looks := false }, kinds := [], alts := [], laidByText := true, laidKinds := [.data, .data, .data, .listed, .data], laidTests := true, laidLooks := .later }
def SyntaxSameCardSaid : Prop := Claim7.holds Tryd.pinned (.plain (OpenSpec.ofChange syntaxSameSpec)) syntaxSameCard

/-- THE TIED CARD OF 'exoduslaw17.SyntaxDistinct'. -/
def syntaxDistinctCard : Claim7 := { stood := { row := syntaxDistinctRow, standIns := [], harness := (true, "6baa46e61a8980a232a3dc1835542c3cbfd3ead03a5ef5d23688cd43ea1410cc"), looks := false }, kinds := [], alts := [], laidByText := true, laidKinds := [.data, .data, .data, .listed, .data], laidTests := true, laidLooks := .later }
def SyntaxDistinctCardSaid : Prop := Claim7.holds Tryd.pinned (.plain (OpenSpec.ofChange syntaxDistinctSpec)) syntaxDistinctCard

/-- THE SECOND FORM's CARD OF 'exoduslaw18.ParserJoins'. -/
def parserJoinsUptoCard : Claim7 := { stood := { row := parserJoinsUptoRow, standIns := [], harness := (true, "6baa46e61a8980a232a3dc1835542c3cbfd3ead03a5ef5d23688cd43ea1410cc"), looks := false }, kinds := [], alts := [], laidByText := true, laidKinds := [.listed, .data], laidTests := true, laidLooks := .later }
def ParserJoinsUptoCardSaid : Prop := Claim7.holds Tryd.pinned (.plain (OpenSpec.upto parserJoinsSpec)) parserJoinsUptoCard

/-- THE SECOND FORM's CARD OF 'exoduslaw18.ParserPlaces'. -/
def parserPlacesUptoCard : Claim7 := { stood := { row := parserPlacesUptoRow, standIns := [], harness := (true, "6baa46e61a8980a232a3dc1835542c3cbfd3ead03a5ef5d23688cd43ea1410cc"), looks := false }, kinds := [], alts := [], laidByText := true, laidKinds := [.listed, .data], laidTests := true, laidLooks := .later }
def ParserPlacesUptoCardSaid : Prop := Claim7.holds Tryd.pinned (.plain (OpenSpec.upto parserPlacesSpec)) parserPlacesUptoCard

/-- THE SECOND FORM's CARD OF 'exoduslaw17.SyntaxValid'. -/
def syntaxValidUptoCard : Claim7 := { stood := { row := syntaxValidUptoRow, standIns := [], harness := (true, "6baa46e61a8980a232a3dc1835542c3cbfd3ead03a5ef5d23688cd43ea1410cc"), looks := false }, kinds := [], alts := [], laidByText := true, laidKinds := [.data, .data, .data, .listed, .data], laidTests := true, laidLooks := .later }
def SyntaxValidUptoCardSaid : Prop := Claim7.holds Tryd.pinned (.plain (OpenSpec.upto syntaxValidSpec)) syntaxValidUptoCard

/-- THE SECOND FORM's CARD OF 'exoduslaw17.SyntaxText'. -/
def syntaxTextUptoCard : Claim7 := { stood := { row := syntaxTextUptoRow, standIns := [], harness := (true, "6baa46e61a8980a232a3dc1835542c3cbfd3ead03a5ef5d23688cd43ea1410cc"), looks := false }, kinds := [], alts := [], laidByText := true, laidKinds := [.data, .data, .data, .listed, .data], laidTests := true, laidLooks := .later }
def SyntaxTextUptoCardSaid : Prop := Claim7.holds Tryd.pinned (.plain (OpenSpec.upto syntaxTextSpec)) syntaxTextUptoCard

/-- THE SECOND FORM's CARD OF 'exoduslaw17.SyntaxFormat'. -/
def syntaxFormatUptoCard : Claim7 := { stood := { row := syntaxFormatUptoRow, standIns := [], harness := (true, "6baa46e61a8980a232a3dc1835542c3cbfd3ead03a5ef5d23688cd43ea1410cc"), looks := false }, kinds := [], alts := [], laidByText := true, laidKinds := [.data, .data, .data, .listed, .data], laidTests := true, laidLooks := .later }
def SyntaxFormatUptoCardSaid : Prop := Claim7.holds Tryd.pinned (.plain (OpenSpec.upto syntaxFormatSpec)) syntaxFormatUptoCard

/-- THE SECOND FORM's CARD OF 'exoduslaw17.SyntaxSame'. -/
def syntaxSameUptoCard : Claim7 := { stood := { row := syntaxSameUptoRow, standIns := [], harness := (true, "6baa46e61a8980a232a3dc1835542c3cbfd3ead03a5ef5d23688cd43ea1410cc"), looks := false }, kinds := [], alts := [], laidByText := true, laidKinds := [.data, .data, .data, .listed, .data], laidTests := true, laidLooks := .later }
def SyntaxSameUptoCardSaid : Prop := Claim7.holds Tryd.pinned (.plain (OpenSpec.upto syntaxSameSpec)) syntaxSameUptoCard

/-- THE SECOND FORM's CARD OF 'exoduslaw17.SyntaxDistinct'. -/
def syntaxDistinctUptoCard : Claim7 := { stood := { row := syntaxDistinctUptoRow, standIns := [], harness := (true, "6baa46e61a8980a232a3dc1835542c3cbfd3ead03a5ef5d23688cd43ea1410cc"), looks := false }, kinds := [], alts := [], laidByText := true, laidKinds := [.data, .data, .data, .listed, .data], laidTests := true, laidLooks := .later }
def SyntaxDistinctUptoCardSaid : Prop := Claim7.holds Tryd.pinned (.plain (OpenSpec.upto syntaxDistinctSpec)) syntaxDistinctUptoCard
end Rows
end Go.Proofs.YtanhkeeifnimgaaDoor
