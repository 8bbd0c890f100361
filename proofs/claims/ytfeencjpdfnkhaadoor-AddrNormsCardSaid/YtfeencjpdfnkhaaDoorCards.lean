/-
  DERIVED. GIVEN WITH THE SEED: THE CARDS: each row of YtfeencjpdfnkhaaDoorRows.lean that lists a variable, with what it lists TIED to the program's text (the seventh form; the later family's looks); each row that meets fmt, with fmt's text TOLD by the authors' own Lean function (tested against real Go, not proved from fmt's source: count such statements apart). THE CARD IS WHAT COUNTS. Prove the row's statement (the work); the ties are given (YtfeencjpdfnkhaaDoorTie.lean); close each card by the builder's one call (the guide's Derived/Test/ToyasCard.lean, 'card_holds'). Laid BY PROGRAM, IN A SANDBOX (cutbox-door.mjs). By AI agents, Wed Nov 11 2026. No macro, syntax, notation, axiom, sorry.
-/
import Derived.Test.YtfeencjpdfnkhaaDoorRows
import GoSem.ClaimSeven
namespace Go.Proofs.YtfeencjpdfnkhaaDoor
namespace Rows

/-- THE TIED CARD OF 'castellanlaw3.AddrHas'. -/
def addrHasCard : Claim7 := { stood := { row := addrHasRow, standIns := [], harness := (true, "69d6b1ee4417048a0e6b40bf3875a9a6e1e8e6b2c4ccec09d56fa21acfd8786f"), looks := false }, kinds := [], alts := [], laidByText := true, laidKinds := [.data, .data, .data], laidTests := true, laidLooks := .later }
def AddrHasCardSaid : Prop := Claim7.holds Tryd.pinned (.plain (OpenSpec.ofChange addrHasSpec)) addrHasCard

/-- THE TIED CARD OF 'castellanlaw3.AddrPairs'. -/
def addrPairsCard : Claim7 := { stood := { row := addrPairsRow, standIns := [], harness := (true, "69d6b1ee4417048a0e6b40bf3875a9a6e1e8e6b2c4ccec09d56fa21acfd8786f"), looks := false }, kinds := [], alts := [], laidByText := true, laidKinds := [.data, .data, .data], laidTests := true, laidLooks := .later }
def AddrPairsCardSaid : Prop := Claim7.holds Tryd.pinned (.plain (OpenSpec.ofChange addrPairsSpec)) addrPairsCard

/-- THE TIED CARD OF 'castellanlaw3.AddrNorms'. -/
def addrNormsCard : Claim7 := { stood := { row := addrNormsRow, standIns := [], harness := (true, "69d6b1ee4417048a0e6b40bf3875a9a6e1e8e6b2c4ccec09d56fa21acfd8786f"), looks := false }, kinds := [], alts := [], laidByText := true, laidKinds := [.data, .data, .data], laidTests := true, laidLooks := .later }
def AddrNormsCardSaid : Prop := Claim7.holds Tryd.pinned (.plain (OpenSpec.ofChange addrNormsSpec)) addrNormsCard

/-- THE TIED CARD OF 'castellanlaw3.AddrLooks'. -/
def addrLooksCard : Claim7 := { stood := { row := addrLooksRow, standIns := [], harness := (true, "69d6b1ee4417048a0e6b40bf3875a9a6e1e8e6b2c4ccec09d56fa21acfd8786f"), looks := false }, kinds := [], alts := [], laidByText := true, laidKinds := [.data, .data, .data], laidTests := true, laidLooks := .later }
def AddrLooksCardSaid : Prop := Claim7.holds Tryd.pinned (.plain (OpenSpec.ofChange addrLooksSpec)) addrLooksCard

/-- THE SECOND FORM's CARD OF 'castellanlaw3.AddrHas'. -/
def addrHasUptoCard : Claim7 := { stood := { row := addrHasUptoRow, standIns := [], harness := (true, "69d6b1ee4417048a0e6b40bf3875a9a6e1e8e6b2c4ccec09d56fa21acfd8786f"), looks := false }, kinds := [], alts := [], laidByText := true, laidKinds := [.data, .data, .data], laidTests := true, laidLooks := .later }
def AddrHasUptoCardSaid : Prop := Claim7.holds Tryd.pinned (.plain (OpenSpec.upto addrHasSpec)) addrHasUptoCard

/-- THE SECOND FORM's CARD OF 'castellanlaw3.AddrPairs'. -/
def addrPairsUptoCard : Claim7 := { stood := { row := addrPairsUptoRow, standIns := [], harness := (true, "69d6b1ee4417048a0e6b40bf3875a9a6e1e8e6b2c4ccec09d56fa21acfd8786f"), looks := false }, kinds := [], alts := [], laidByText := true, laidKinds := [.data, .data, .data], laidTests := true, laidLooks := .later }
def AddrPairsUptoCardSaid : Prop := Claim7.holds Tryd.pinned (.plain (OpenSpec.upto addrPairsSpec)) addrPairsUptoCard

/-- THE SECOND FORM's CARD OF 'castellanlaw3.AddrNorms'. -/
def addrNormsUptoCard : Claim7 := { stood := { row := addrNormsUptoRow, standIns := [], harness := (true, "69d6b1ee4417048a0e6b40bf3875a9a6e1e8e6b2c4ccec09d56fa21acfd8786f"), looks := false }, kinds := [], alts := [], laidByText := true, laidKinds := [.data, .data, .data], laidTests := true, laidLooks := .later }
def AddrNormsUptoCardSaid : Prop := Claim7.holds Tryd.pinned (.plain (OpenSpec.upto addrNormsSpec)) addrNormsUptoCard

/-- THE SECOND FORM's CARD OF 'castellanlaw3.AddrLooks'. -/
def addrLooksUptoCard : Claim7 := { stood := { row := addrLooksUptoRow, standIns := [], harness := (true, "69d6b1ee4417048a0e6b40bf3875a9a6e1e8e6b2c4ccec09d56fa21acfd8786f"), looks := false }, kinds := [], alts := [], laidByText := true, laidKinds := [.data, .data, .data], laidTests := true, laidLooks := .later }
def AddrLooksUptoCardSaid : Prop := Claim7.holds Tryd.pinned (.plain (OpenSpec.upto addrLooksSpec)) addrLooksUptoCard
end Rows
end Go.Proofs.YtfeencjpdfnkhaaDoor
