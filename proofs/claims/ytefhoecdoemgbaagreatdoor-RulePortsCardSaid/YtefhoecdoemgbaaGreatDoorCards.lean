/-
  DERIVED. GIVEN WITH THE SEED: THE CARDS: each row of YtefhoecdoemgbaaGreatDoorRows.lean that lists a variable, with what it lists TIED to the program's text (the seventh form; the later family's looks); each row that meets fmt, with fmt's text TOLD by the authors' own Lean function (tested against real Go, not proved from fmt's source: count such statements apart). THE CARD IS WHAT COUNTS. Prove the row's statement (the work); the ties are given (YtefhoecdoemgbaaGreatDoorTie.lean); close each card by the builder's one call (the guide's Derived/Test/ToyasCard.lean, 'card_holds'). Laid BY PROGRAM, IN A SANDBOX (cutbox-door.mjs). By AI agents, Wed Nov 11 2026. No macro, syntax, notation, axiom, sorry.
-/
import Derived.Test.YtefhoecdoemgbaaGreatDoorRows
import GoSem.ClaimSeven
namespace Go.Proofs.YtefhoecdoemgbaaGreatDoor
namespace Rows

/-- THE TIED CARD OF 'castellanlaw14.RuleParses'. -/
def ruleParsesCard : Claim7 := { stood := { row := ruleParsesRow, standIns := [], harness := (true, "4fff380fb9309e1acc943e36fcfe185cec8bf5d5b9068ac6ac9049d8104158cf"), looks := true }, kinds := [], alts := [], laidByText := true, laidKinds := [.data, .data, .data, .data, .sentinel, .sentinel, .pinned], laidTests := true, laidLooks := .later }
def RuleParsesCardSaid : Prop := Claim7.holds Tryz.pinned (.plain (OpenSpec.ofChange ruleParsesSpec)) ruleParsesCard

/-- THE TIED CARD OF 'castellanlaw14.RuleBack'. -/
def ruleBackCard : Claim7 := { stood := { row := ruleBackRow, standIns := [], harness := (true, "4fff380fb9309e1acc943e36fcfe185cec8bf5d5b9068ac6ac9049d8104158cf"), looks := true }, kinds := [], alts := [], laidByText := true, laidKinds := [.data, .data, .data, .data, .sentinel, .sentinel, .pinned], laidTests := true, laidLooks := .later }
def RuleBackCardSaid : Prop := Claim7.holds Tryz.pinned (.plain (OpenSpec.ofChange ruleBackSpec)) ruleBackCard

/-- THE TIED CARD OF 'castellanlaw14.RuleSettles'. -/
def ruleSettlesCard : Claim7 := { stood := { row := ruleSettlesRow, standIns := [], harness := (true, "4fff380fb9309e1acc943e36fcfe185cec8bf5d5b9068ac6ac9049d8104158cf"), looks := true }, kinds := [], alts := [], laidByText := true, laidKinds := [.data, .data, .data, .data, .sentinel, .sentinel, .pinned], laidTests := true, laidLooks := .later }
def RuleSettlesCardSaid : Prop := Claim7.holds Tryz.pinned (.plain (OpenSpec.ofChange ruleSettlesSpec)) ruleSettlesCard

/-- THE TIED CARD OF 'castellanlaw14.RuleFlags'. -/
def ruleFlagsCard : Claim7 := { stood := { row := ruleFlagsRow, standIns := [], harness := (true, "4fff380fb9309e1acc943e36fcfe185cec8bf5d5b9068ac6ac9049d8104158cf"), looks := true }, kinds := [], alts := [], laidByText := true, laidKinds := [.data, .data, .data, .data, .sentinel, .sentinel, .pinned], laidTests := true, laidLooks := .later }
def RuleFlagsCardSaid : Prop := Claim7.holds Tryz.pinned (.plain (OpenSpec.ofChange ruleFlagsSpec)) ruleFlagsCard

/-- THE TIED CARD OF 'castellanlaw14.RulePorts'. -/
def rulePortsCard : Claim7 := { stood := { row := rulePortsRow, standIns := [], harness := (true, "4fff380fb9309e1acc943e36fcfe185cec8bf5d5b9068ac6ac9049d8104158cf"), looks := true }, kinds := [], alts := [], laidByText := true, laidKinds := [.data, .data, .data, .data, .sentinel, .sentinel, .pinned], laidTests := true, laidLooks := .later }
def RulePortsCardSaid : Prop := Claim7.holds Tryz.pinned (.plain (OpenSpec.ofChange rulePortsSpec)) rulePortsCard

/-- THE TIED CARD OF 'castellanlaw14.RulePrints'. -/
def rulePrintsCard : Claim7 := { stood := { row := rulePrintsRow, standIns := [], harness := (true, "4fff380fb9309e1acc943e36fcfe185cec8bf5d5b9068ac6ac9049d8104158cf"), looks := true }, kinds := [], alts := [], laidByText := true, laidKinds := [.data, .data, .data, .data, .sentinel, .sentinel, .pinned], laidTests := true, laidLooks := .later }
def RulePrintsCardSaid : Prop := Claim7.holds Tryz.pinned (.plain (OpenSpec.ofChange rulePrintsSpec)) rulePrintsCard

/-- THE SECOND FORM's CARD OF 'castellanlaw14.RuleParses'. -/
def ruleParsesUptoCard : Claim7 := { stood := { row := ruleParsesUptoRow, standIns := [], harness := (true, "4fff380fb9309e1acc943e36fcfe185cec8bf5d5b9068ac6ac9049d8104158cf"), looks := true }, kinds := [], alts := [], laidByText := true, laidKinds := [.data, .data, .data, .data, .sentinel, .sentinel, .pinned], laidTests := true, laidLooks := .later }
def RuleParsesUptoCardSaid : Prop := Claim7.holds Tryz.pinned (.plain (OpenSpec.upto ruleParsesSpec)) ruleParsesUptoCard

/-- THE SECOND FORM's CARD OF 'castellanlaw14.RuleBack'. -/
def ruleBackUptoCard : Claim7 := { stood := { row := ruleBackUptoRow, standIns := [], harness := (true, "4fff380fb9309e1acc943e36fcfe185cec8bf5d5b9068ac6ac9049d8104158cf"), looks := true }, kinds := [], alts := [], laidByText := true, laidKinds := [.data, .data, .data, .data, .sentinel, .sentinel, .pinned], laidTests := true, laidLooks := .later }
def RuleBackUptoCardSaid : Prop := Claim7.holds Tryz.pinned (.plain (OpenSpec.upto ruleBackSpec)) ruleBackUptoCard

/-- THE SECOND FORM's CARD OF 'castellanlaw14.RuleSettles'. -/
def ruleSettlesUptoCard : Claim7 := { stood := { row := ruleSettlesUptoRow, standIns := [], harness := (true, "4fff380fb9309e1acc943e36fcfe185cec8bf5d5b9068ac6ac9049d8104158cf"), looks := true }, kinds := [], alts := [], laidByText := true, laidKinds := [.data, .data, .data, .data, .sentinel, .sentinel, .pinned], laidTests := true, laidLooks := .later }
def RuleSettlesUptoCardSaid : Prop := Claim7.holds Tryz.pinned (.plain (OpenSpec.upto ruleSettlesSpec)) ruleSettlesUptoCard

/-- THE SECOND FORM's CARD OF 'castellanlaw14.RuleFlags'. -/
def ruleFlagsUptoCard : Claim7 := { stood := { row := ruleFlagsUptoRow, standIns := [], harness := (true, "4fff380fb9309e1acc943e36fcfe185cec8bf5d5b9068ac6ac9049d8104158cf"), looks := true }, kinds := [], alts := [], laidByText := true, laidKinds := [.data, .data, .data, .data, .sentinel, .sentinel, .pinned], laidTests := true, laidLooks := .later }
def RuleFlagsUptoCardSaid : Prop := Claim7.holds Tryz.pinned (.plain (OpenSpec.upto ruleFlagsSpec)) ruleFlagsUptoCard

/-- THE SECOND FORM's CARD OF 'castellanlaw14.RulePorts'. -/
def rulePortsUptoCard : Claim7 := { stood := { row := rulePortsUptoRow, standIns := [], harness := (true, "4fff380fb9309e1acc943e36fcfe185cec8bf5d5b9068ac6ac9049d8104158cf"), looks := true }, kinds := [], alts := [], laidByText := true, laidKinds := [.data, .data, .data, .data, .sentinel, .sentinel, .pinned], laidTests := true, laidLooks := .later }
def RulePortsUptoCardSaid : Prop := Claim7.holds Tryz.pinned (.plain (OpenSpec.upto rulePortsSpec)) rulePortsUptoCard

/-- THE SECOND FORM's CARD OF 'castellanlaw14.RulePrints'. -/
def rulePrintsUptoCard : Claim7 := { stood := { row := rulePrintsUptoRow, standIns := [], harness := (true, "4fff380fb9309e1acc943e36fcfe185cec8bf5d5b9068ac6ac9049d8104158cf"), looks := true }, kinds := [], alts := [], laidByText := true, laidKinds := [.data, .data, .data, .data, .sentinel, .sentinel, .pinned], laidTests := true, laidLooks := .later }
def RulePrintsUptoCardSaid : Prop := Claim7.holds Tryz.pinned (.plain (OpenSpec.upto rulePrintsSpec)) rulePrintsUptoCard
end Rows
end Go.Proofs.YtefhoecdoemgbaaGreatDoor
