/-
  DERIVED. GIVEN WITH THE SEED: THE CARDS: each row of YtlnjaemdelnceaaGreatDoorRows.lean that lists a variable, with what it lists TIED to the program's text (the seventh form; the later family's looks); each row that meets fmt, with fmt's text TOLD by the authors' own Lean function (tested against real Go, not proved from fmt's source: count such statements apart). THE CARD IS WHAT COUNTS. Prove the row's statement (the work); the ties are given (YtlnjaemdelnceaaGreatDoorTie.lean); close each card by the builder's one call (the guide's Derived/Test/ToyasCard.lean, 'card_holds'). Laid BY PROGRAM, IN A SANDBOX (cutbox-door.mjs). By AI agents, Wed Nov 11 2026. No macro, syntax, notation, axiom, sorry.
-/
import Derived.Test.YtlnjaemdelnceaaGreatDoorRows
import GoSem.ClaimSeven
namespace Go.Proofs.YtlnjaemdelnceaaGreatDoor
namespace Rows

/-- THE TIED CARD OF 'exoduslaw22.RulesHold'. -/
def rulesHoldCard : Claim7 := { stood := { row := rulesHoldRow, standIns := [], harness := (true, "2f39c5dfc35db4567d4f1ce249dde0d7424ecd534dc1a3451a10355cc842a256"), looks := false }, kinds := [], alts := [], laidByText := true, laidKinds := [.data, .data, .data, .listed, .data], laidTests := true, laidLooks := .later }
def RulesHoldCardSaid : Prop := Claim7.holds Tryz.pinned (.plain (OpenSpec.ofChange rulesHoldSpec)) rulesHoldCard

/-- THE TIED CARD OF 'exoduslaw22.RulesInstant'. -/
def rulesInstantCard : Claim7 := { stood := { row := rulesInstantRow, standIns := [], harness := (true, "2f39c5dfc35db4567d4f1ce249dde0d7424ecd534dc1a3451a10355cc842a256"), looks := false }, kinds := [], alts := [], laidByText := true, laidKinds := [.data, .data, .data, .listed, .data], laidTests := true, laidLooks := .later }
def RulesInstantCardSaid : Prop := Claim7.holds Tryz.pinned (.plain (OpenSpec.ofChange rulesInstantSpec)) rulesInstantCard

/-- THE TIED CARD OF 'exoduslaw22.RulesBetween'. -/
def rulesBetweenCard : Claim7 := { stood := { row := rulesBetweenRow, standIns := [], harness := (true, "2f39c5dfc35db4567d4f1ce249dde0d7424ecd534dc1a3451a10355cc842a256"), looks := false }, kinds := [], alts := [], laidByText := true, laidKinds := [.data, .data, .data, .listed, .data], laidTests := true, laidLooks := .later }
def RulesBetweenCardSaid : Prop := Claim7.holds Tryz.pinned (.plain (OpenSpec.ofChange rulesBetweenSpec)) rulesBetweenCard

/-- THE TIED CARD OF 'exoduslaw22.RulesWeaker'. -/
def rulesWeakerCard : Claim7 := { stood := { row := rulesWeakerRow, standIns := [], harness := (true, "2f39c5dfc35db4567d4f1ce249dde0d7424ecd534dc1a3451a10355cc842a256"), looks := false }, kinds := [], alts := [], laidByText := true, laidKinds := [.data, .data, .data, .listed, .data], laidTests := true, laidLooks := .later }
def RulesWeakerCardSaid : Prop := Claim7.holds Tryz.pinned (.plain (OpenSpec.ofChange rulesWeakerSpec)) rulesWeakerCard

/-- THE TIED CARD OF 'exoduslaw22.RulesDirect'. -/
def rulesDirectCard : Claim7 := { stood := { row := rulesDirectRow, standIns := [], harness := (true, "2f39c5dfc35db4567d4f1ce249dde0d7424ecd534dc1a3451a10355cc842a256"), looks := false }, kinds := [], alts := [], laidByText := true, laidKinds := [.data, .data, .data, .listed, .data], laidTests := true, laidLooks := .later }
def RulesDirectCardSaid : Prop := Claim7.holds Tryz.pinned (.plain (OpenSpec.ofChange rulesDirectSpec)) rulesDirectCard

/-- THE TIED CARD OF 'exoduslaw22.RulesCover'. -/
def rulesCoverCard : Claim7 := { stood := { row := rulesCoverRow, standIns := [], harness := (true, "2f39c5dfc35db4567d4f1ce249dde0d7424ecd534dc1a3451a10355cc842a256"), looks := false }, kinds := [], alts := [], laidByText := true, laidKinds := [.data, .data, .data, .listed, .data], laidTests := true, laidLooks := .later }
def RulesCoverCardSaid : Prop := Claim7.holds Tryz.pinned (.plain (OpenSpec.ofChange rulesCoverSpec)) rulesCoverCard

/-- THE SECOND FORM's CARD OF 'exoduslaw22.RulesHold'. -/
def rulesHoldUptoCard : Claim7 := { stood := { row := rulesHoldUptoRow, standIns := [], harness := (true, "2f39c5dfc35db4567d4f1ce249dde0d7424ecd534dc1a3451a10355cc842a256"), looks := false }, kinds := [], alts := [], laidByText := true, laidKinds := [.data, .data, .data, .listed, .data], laidTests := true, laidLooks := .later }
def RulesHoldUptoCardSaid : Prop := Claim7.holds Tryz.pinned (.plain (OpenSpec.upto rulesHoldSpec)) rulesHoldUptoCard

/-- THE SECOND FORM's CARD OF 'exoduslaw22.RulesInstant'. -/
def rulesInstantUptoCard : Claim7 := { stood := { row := rulesInstantUptoRow, standIns := [], harness := (true, "2f39c5dfc35db4567d4f1ce249dde0d7424ecd534dc1a3451a10355cc842a256"), looks := false }, kinds := [], alts := [], laidByText := true, laidKinds := [.data, .data, .data, .listed, .data], laidTests := true, laidLooks := .later }
def RulesInstantUptoCardSaid : Prop := Claim7.holds Tryz.pinned (.plain (OpenSpec.upto rulesInstantSpec)) rulesInstantUptoCard

/-- THE SECOND FORM's CARD OF 'exoduslaw22.RulesBetween'. -/
def rulesBetweenUptoCard : Claim7 := { stood := { row := rulesBetweenUptoRow, standIns := [], harness := (true, "2f39c5dfc35db4567d4f1ce249dde0d7424ecd534dc1a3451a10355cc842a256"), looks := false }, kinds := [], alts := [], laidByText := true, laidKinds := [.data, .data, .data, .listed, .data], laidTests := true, laidLooks := .later }
def RulesBetweenUptoCardSaid : Prop := Claim7.holds Tryz.pinned (.plain (OpenSpec.upto rulesBetweenSpec)) rulesBetweenUptoCard

/-- THE SECOND FORM's CARD OF 'exoduslaw22.RulesWeaker'. -/
def rulesWeakerUptoCard : Claim7 := { stood := { row := rulesWeakerUptoRow, standIns := [], harness := (true, "2f39c5dfc35db4567d4f1ce249dde0d7424ecd534dc1a3451a10355cc842a256"), looks := false }, kinds := [], alts := [], laidByText := true, laidKinds := [.data, .data, .data, .listed, .data], laidTests := true, laidLooks := .later }
def RulesWeakerUptoCardSaid : Prop := Claim7.holds Tryz.pinned (.plain (OpenSpec.upto rulesWeakerSpec)) rulesWeakerUptoCard

/-- THE SECOND FORM's CARD OF 'exoduslaw22.RulesDirect'. -/
def rulesDirectUptoCard : Claim7 := { stood := { row := rulesDirectUptoRow, standIns := [], harness := (true, "2f39c5dfc35db4567d4f1ce249dde0d7424ecd534dc1a3451a10355cc842a256"), looks := false }, kinds := [], alts := [], laidByText := true, laidKinds := [.data, .data, .data, .listed, .data], laidTests := true, laidLooks := .later }
def RulesDirectUptoCardSaid : Prop := Claim7.holds Tryz.pinned (.plain (OpenSpec.upto rulesDirectSpec)) rulesDirectUptoCard

/-- THE SECOND FORM's CARD OF 'exoduslaw22.RulesCover'. -/
def rulesCoverUptoCard : Claim7 := { stood := { row := rulesCoverUptoRow, standIns := [], harness := (true, "2f39c5dfc35db4567d4f1ce249dde0d7424ecd534dc1a3451a10355cc842a256"), looks := false }, kinds := [], alts := [], laidByText := true, laidKinds := [.data, .data, .data, .listed, .data], laidTests := true, laidLooks := .later }
def RulesCoverUptoCardSaid : Prop := Claim7.holds Tryz.pinned (.plain (OpenSpec.upto rulesCoverSpec)) rulesCoverUptoCard
end Rows
end Go.Proofs.YtlnjaemdelnceaaGreatDoor
