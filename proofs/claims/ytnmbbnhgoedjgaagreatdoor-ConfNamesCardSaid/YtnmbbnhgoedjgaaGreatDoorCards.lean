/-
  DERIVED. GIVEN WITH THE SEED: THE CARDS: each row of YtnmbbnhgoedjgaaGreatDoorRows.lean that lists a variable, with what it lists TIED to the program's text (the seventh form; the later family's looks); each row that meets fmt, with fmt's text TOLD by the authors' own Lean function (tested against real Go, not proved from fmt's source: count such statements apart). THE CARD IS WHAT COUNTS. Prove the row's statement (the work); the ties are given (YtnmbbnhgoedjgaaGreatDoorTie.lean); close each card by the builder's one call (the guide's Derived/Test/ToyasCard.lean, 'card_holds'). Laid BY PROGRAM, IN A SANDBOX (cutbox-door.mjs). By AI agents, Wed Nov 11 2026. No macro, syntax, notation, axiom, sorry.
-/
import Derived.Test.YtnmbbnhgoedjgaaGreatDoorRows
import GoSem.ClaimSeven
namespace Go.Proofs.YtnmbbnhgoedjgaaGreatDoor
namespace Rows

/-- THE TIED CARD OF 'castellanlaw20.ConfParses'. -/
def confParsesCard : Claim7 := { stood := { row := confParsesRow, standIns := [], harness := (true, "6562245f63de2ce367d8ed77589007c1f3a4c9b0bd18e2af36b01362aa0eeb50"), looks := true }, kinds := [], alts := [], laidByText := true, laidKinds := [.data, .data, .data, .data, .sentinel, .sentinel, .pinned], laidTests := true, laidLooks := .later }
def ConfParsesCardSaid : Prop := Claim7.holds Tryz.pinned (.plain (OpenSpec.ofChange confParsesSpec)) confParsesCard

/-- THE TIED CARD OF 'castellanlaw20.ConfBack'. -/
def confBackCard : Claim7 := { stood := { row := confBackRow, standIns := [], harness := (true, "6562245f63de2ce367d8ed77589007c1f3a4c9b0bd18e2af36b01362aa0eeb50"), looks := true }, kinds := [], alts := [], laidByText := true, laidKinds := [.data, .data, .data, .data, .sentinel, .sentinel, .pinned], laidTests := true, laidLooks := .later }
def ConfBackCardSaid : Prop := Claim7.holds Tryz.pinned (.plain (OpenSpec.ofChange confBackSpec)) confBackCard

/-- THE TIED CARD OF 'castellanlaw20.ConfBlank'. -/
def confBlankCard : Claim7 := { stood := { row := confBlankRow, standIns := [], harness := (true, "6562245f63de2ce367d8ed77589007c1f3a4c9b0bd18e2af36b01362aa0eeb50"), looks := true }, kinds := [], alts := [], laidByText := true, laidKinds := [.data, .data, .data, .data, .sentinel, .sentinel, .pinned], laidTests := true, laidLooks := .later }
def ConfBlankCardSaid : Prop := Claim7.holds Tryz.pinned (.plain (OpenSpec.ofChange confBlankSpec)) confBlankCard

/-- THE TIED CARD OF 'castellanlaw20.ConfNames'. -/
def confNamesCard : Claim7 := { stood := { row := confNamesRow, standIns := [], harness := (true, "6562245f63de2ce367d8ed77589007c1f3a4c9b0bd18e2af36b01362aa0eeb50"), looks := true }, kinds := [], alts := [], laidByText := true, laidKinds := [.data, .data, .data, .data, .sentinel, .sentinel, .pinned], laidTests := true, laidLooks := .later }
def ConfNamesCardSaid : Prop := Claim7.holds Tryz.pinned (.plain (OpenSpec.ofChange confNamesSpec)) confNamesCard

/-- THE TIED CARD OF 'castellanlaw20.ConfOrder'. -/
def confOrderCard : Claim7 := { stood := { row := confOrderRow, standIns := [], harness := (true, "6562245f63de2ce367d8ed77589007c1f3a4c9b0bd18e2af36b01362aa0eeb50"), looks := true }, kinds := [], alts := [], laidByText := true, laidKinds := [.data, .data, .data, .data, .sentinel, .sentinel, .pinned], laidTests := true, laidLooks := .later }
def ConfOrderCardSaid : Prop := Claim7.holds Tryz.pinned (.plain (OpenSpec.ofChange confOrderSpec)) confOrderCard

/-- THE TIED CARD OF 'castellanlaw20.ConfPrints'. -/
def confPrintsCard : Claim7 := { stood := { row := confPrintsRow, standIns := [], harness := (true, "6562245f63de2ce367d8ed77589007c1f3a4c9b0bd18e2af36b01362aa0eeb50"), looks := true }, kinds := [], alts := [], laidByText := true, laidKinds := [.data, .data, .data, .data, .sentinel, .sentinel, .pinned], laidTests := true, laidLooks := .later }
def ConfPrintsCardSaid : Prop := Claim7.holds Tryz.pinned (.plain (OpenSpec.ofChange confPrintsSpec)) confPrintsCard

/-- THE SECOND FORM's CARD OF 'castellanlaw20.ConfParses'. -/
def confParsesUptoCard : Claim7 := { stood := { row := confParsesUptoRow, standIns := [], harness := (true, "6562245f63de2ce367d8ed77589007c1f3a4c9b0bd18e2af36b01362aa0eeb50"), looks := true }, kinds := [], alts := [], laidByText := true, laidKinds := [.data, .data, .data, .data, .sentinel, .sentinel, .pinned], laidTests := true, laidLooks := .later }
def ConfParsesUptoCardSaid : Prop := Claim7.holds Tryz.pinned (.plain (OpenSpec.upto confParsesSpec)) confParsesUptoCard

/-- THE SECOND FORM's CARD OF 'castellanlaw20.ConfBack'. -/
def confBackUptoCard : Claim7 := { stood := { row := confBackUptoRow, standIns := [], harness := (true, "6562245f63de2ce367d8ed77589007c1f3a4c9b0bd18e2af36b01362aa0eeb50"), looks := true }, kinds := [], alts := [], laidByText := true, laidKinds := [.data, .data, .data, .data, .sentinel, .sentinel, .pinned], laidTests := true, laidLooks := .later }
def ConfBackUptoCardSaid : Prop := Claim7.holds Tryz.pinned (.plain (OpenSpec.upto confBackSpec)) confBackUptoCard

/-- THE SECOND FORM's CARD OF 'castellanlaw20.ConfBlank'. -/
def confBlankUptoCard : Claim7 := { stood := { row := confBlankUptoRow, standIns := [], harness := (true, "6562245f63de2ce367d8ed77589007c1f3a4c9b0bd18e2af36b01362aa0eeb50"), looks := true }, kinds := [], alts := [], laidByText := true, laidKinds := [.data, .data, .data, .data, .sentinel, .sentinel, .pinned], laidTests := true, laidLooks := .later }
def ConfBlankUptoCardSaid : Prop := Claim7.holds Tryz.pinned (.plain (OpenSpec.upto confBlankSpec)) confBlankUptoCard

/-- THE SECOND FORM's CARD OF 'castellanlaw20.ConfNames'. -/
def confNamesUptoCard : Claim7 := { stood := { row := confNamesUptoRow, standIns := [], harness := (true, "6562245f63de2ce367d8ed77589007c1f3a4c9b0bd18e2af36b01362aa0eeb50"), looks := true }, kinds := [], alts := [], laidByText := true, laidKinds := [.data, .data, .data, .data, .sentinel, .sentinel, .pinned], laidTests := true, laidLooks := .later }
def ConfNamesUptoCardSaid : Prop := Claim7.holds Tryz.pinned (.plain (OpenSpec.upto confNamesSpec)) confNamesUptoCard

/-- THE SECOND FORM's CARD OF 'castellanlaw20.ConfOrder'. -/
def confOrderUptoCard : Claim7 := { stood := { row := confOrderUptoRow, standIns := [], harness := (true, "6562245f63de2ce367d8ed77589007c1f3a4c9b0bd18e2af36b01362aa0eeb50"), looks := true }, kinds := [], alts := [], laidByText := true, laidKinds := [.data, .data, .data, .data, .sentinel, .sentinel, .pinned], laidTests := true, laidLooks := .later }
def ConfOrderUptoCardSaid : Prop := Claim7.holds Tryz.pinned (.plain (OpenSpec.upto confOrderSpec)) confOrderUptoCard

/-- THE SECOND FORM's CARD OF 'castellanlaw20.ConfPrints'. -/
def confPrintsUptoCard : Claim7 := { stood := { row := confPrintsUptoRow, standIns := [], harness := (true, "6562245f63de2ce367d8ed77589007c1f3a4c9b0bd18e2af36b01362aa0eeb50"), looks := true }, kinds := [], alts := [], laidByText := true, laidKinds := [.data, .data, .data, .data, .sentinel, .sentinel, .pinned], laidTests := true, laidLooks := .later }
def ConfPrintsUptoCardSaid : Prop := Claim7.holds Tryz.pinned (.plain (OpenSpec.upto confPrintsSpec)) confPrintsUptoCard
end Rows
end Go.Proofs.YtnmbbnhgoedjgaaGreatDoor
