/-
  DERIVED. GIVEN WITH THE SEED: THE CARDS: each row of YtcfogipaadhbeaaGreatDoorRows.lean that lists a variable, with what it lists TIED to the program's text (the seventh form; the later family's looks); each row that meets fmt, with fmt's text TOLD by the authors' own Lean function (tested against real Go, not proved from fmt's source: count such statements apart). THE CARD IS WHAT COUNTS. Prove the row's statement (the work); the ties are given (YtcfogipaadhbeaaGreatDoorTie.lean); close each card by the builder's one call (the guide's Derived/Test/ToyasCard.lean, 'card_holds'). Laid BY PROGRAM, IN A SANDBOX (cutbox-door.mjs). By AI agents, Wed Nov 11 2026. No macro, syntax, notation, axiom, sorry.
-/
import Derived.Test.YtcfogipaadhbeaaGreatDoorRows
import GoSem.ClaimSeven
namespace Go.Proofs.YtcfogipaadhbeaaGreatDoor
namespace Rows

/-- THE TIED CARD OF 'exoduslaw19.ResolveModels'. -/
def resolveModelsCard : Claim7 := { stood := { row := resolveModelsRow, standIns := [], harness := (true, "5456e35d3baa7466810dd76d43cae9f03119c70c2bc55508a19052f7be8bdbaa"), looks := false }, kinds := [], alts := [], laidByText := true, laidKinds := [.data, .data, .data, .listed, .data], laidTests := true, laidLooks := .later }
def ResolveModelsCardSaid : Prop := Claim7.holds Tryz.pinned (.plain (OpenSpec.ofChange resolveModelsSpec)) resolveModelsCard

/-- THE TIED CARD OF 'exoduslaw19.ResolveDecls'. -/
def resolveDeclsCard : Claim7 := { stood := { row := resolveDeclsRow, standIns := [], harness := (true, "5456e35d3baa7466810dd76d43cae9f03119c70c2bc55508a19052f7be8bdbaa"), looks := false }, kinds := [], alts := [], laidByText := true, laidKinds := [.data, .data, .data, .listed, .data], laidTests := true, laidLooks := .later }
def ResolveDeclsCardSaid : Prop := Claim7.holds Tryz.pinned (.plain (OpenSpec.ofChange resolveDeclsSpec)) resolveDeclsCard

/-- THE TIED CARD OF 'exoduslaw19.ResolveReturns'. -/
def resolveReturnsCard : Claim7 := { stood := { row := resolveReturnsRow, standIns := [], harness := (true, "5456e35d3baa7466810dd76d43cae9f03119c70c2bc55508a19052f7be8bdbaa"), looks := false }, kinds := [], alts := [], laidByText := true, laidKinds := [.data, .data, .data, .listed, .data], laidTests := true, laidLooks := .later }
def ResolveReturnsCardSaid : Prop := Claim7.holds Tryz.pinned (.plain (OpenSpec.ofChange resolveReturnsSpec)) resolveReturnsCard

/-- THE TIED CARD OF 'exoduslaw19.ResolveValid'. -/
def resolveValidCard : Claim7 := { stood := { row := resolveValidRow, standIns := [], harness := (true, "5456e35d3baa7466810dd76d43cae9f03119c70c2bc55508a19052f7be8bdbaa"), looks := false }, kinds := [], alts := [], laidByText := true, laidKinds := [.data, .data, .data, .listed, .data], laidTests := true, laidLooks := .later }
def ResolveValidCardSaid : Prop := Claim7.holds Tryz.pinned (.plain (OpenSpec.ofChange resolveValidSpec)) resolveValidCard

/-- THE TIED CARD OF 'exoduslaw19.ResolveOrder'. -/
def resolveOrderCard : Claim7 := { stood := { row := resolveOrderRow, standIns := [], harness := (true, "5456e35d3baa7466810dd76d43cae9f03119c70c2bc55508a19052f7be8bdbaa"), looks := false }, kinds := [], alts := [], laidByText := true, laidKinds := [.data, .data, .data, .listed, .data], laidTests := true, laidLooks := .later }
def ResolveOrderCardSaid : Prop := Claim7.holds Tryz.pinned (.plain (OpenSpec.ofChange resolveOrderSpec)) resolveOrderCard

/-- THE TIED CARD OF 'exoduslaw19.ResolveTwice'. -/
def resolveTwiceCard : Claim7 := { stood := { row := resolveTwiceRow, standIns := [], harness := (true, "5456e35d3baa7466810dd76d43cae9f03119c70c2bc55508a19052f7be8bdbaa"), looks := false }, kinds := [], alts := [], laidByText := true, laidKinds := [.data, .data, .data, .listed, .data], laidTests := true, laidLooks := .later }
def ResolveTwiceCardSaid : Prop := Claim7.holds Tryz.pinned (.plain (OpenSpec.ofChange resolveTwiceSpec)) resolveTwiceCard

/-- THE SECOND FORM's CARD OF 'exoduslaw19.ResolveModels'. -/
def resolveModelsUptoCard : Claim7 := { stood := { row := resolveModelsUptoRow, standIns := [], harness := (true, "5456e35d3baa7466810dd76d43cae9f03119c70c2bc55508a19052f7be8bdbaa"), looks := false }, kinds := [], alts := [], laidByText := true, laidKinds := [.data, .data, .data, .listed, .data], laidTests := true, laidLooks := .later }
def ResolveModelsUptoCardSaid : Prop := Claim7.holds Tryz.pinned (.plain (OpenSpec.upto resolveModelsSpec)) resolveModelsUptoCard

/-- THE SECOND FORM's CARD OF 'exoduslaw19.ResolveDecls'. -/
def resolveDeclsUptoCard : Claim7 := { stood := { row := resolveDeclsUptoRow, standIns := [], harness := (true, "5456e35d3baa7466810dd76d43cae9f03119c70c2bc55508a19052f7be8bdbaa"), looks := false }, kinds := [], alts := [], laidByText := true, laidKinds := [.data, .data, .data, .listed, .data], laidTests := true, laidLooks := .later }
def ResolveDeclsUptoCardSaid : Prop := Claim7.holds Tryz.pinned (.plain (OpenSpec.upto resolveDeclsSpec)) resolveDeclsUptoCard

/-- THE SECOND FORM's CARD OF 'exoduslaw19.ResolveReturns'. -/
def resolveReturnsUptoCard : Claim7 := { stood := { row := resolveReturnsUptoRow, standIns := [], harness := (true, "5456e35d3baa7466810dd76d43cae9f03119c70c2bc55508a19052f7be8bdbaa"), looks := false }, kinds := [], alts := [], laidByText := true, laidKinds := [.data, .data, .data, .listed, .data], laidTests := true, laidLooks := .later }
def ResolveReturnsUptoCardSaid : Prop := Claim7.holds Tryz.pinned (.plain (OpenSpec.upto resolveReturnsSpec)) resolveReturnsUptoCard

/-- THE SECOND FORM's CARD OF 'exoduslaw19.ResolveValid'. -/
def resolveValidUptoCard : Claim7 := { stood := { row := resolveValidUptoRow, standIns := [], harness := (true, "5456e35d3baa7466810dd76d43cae9f03119c70c2bc55508a19052f7be8bdbaa"), looks := false }, kinds := [], alts := [], laidByText := true, laidKinds := [.data, .data, .data, .listed, .data], laidTests := true, laidLooks := .later }
def ResolveValidUptoCardSaid : Prop := Claim7.holds Tryz.pinned (.plain (OpenSpec.upto resolveValidSpec)) resolveValidUptoCard

/-- THE SECOND FORM's CARD OF 'exoduslaw19.ResolveOrder'. -/
def resolveOrderUptoCard : Claim7 := { stood := { row := resolveOrderUptoRow, standIns := [], harness := (true, "5456e35d3baa7466810dd76d43cae9f03119c70c2bc55508a19052f7be8bdbaa"), looks := false }, kinds := [], alts := [], laidByText := true, laidKinds := [.data, .data, .data, .listed, .data], laidTests := true, laidLooks := .later }
def ResolveOrderUptoCardSaid : Prop := Claim7.holds Tryz.pinned (.plain (OpenSpec.upto resolveOrderSpec)) resolveOrderUptoCard

/-- THE SECOND FORM's CARD OF 'exoduslaw19.ResolveTwice'. -/
def resolveTwiceUptoCard : Claim7 := { stood := { row := resolveTwiceUptoRow, standIns := [], harness := (true, "5456e35d3baa7466810dd76d43cae9f03119c70c2bc55508a19052f7be8bdbaa"), looks := false }, kinds := [], alts := [], laidByText := true, laidKinds := [.data, .data, .data, .listed, .data], laidTests := true, laidLooks := .later }
def ResolveTwiceUptoCardSaid : Prop := Claim7.holds Tryz.pinned (.plain (OpenSpec.upto resolveTwiceSpec)) resolveTwiceUptoCard
end Rows
end Go.Proofs.YtcfogipaadhbeaaGreatDoor
