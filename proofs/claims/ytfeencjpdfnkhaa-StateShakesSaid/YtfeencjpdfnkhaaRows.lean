/-
  No cell of these rows narrows 'for every input' (looked for: loops, veiled, ifaces, maps, wideKeys, modest, calm, conditions, laid).
  DERIVED. THE GIVEN ROWS OF THIS SEAT. 5 by the template 'for every input the law returns true; each argument reads behind the call as it read before'; 0 by the template 'total and deterministic' (their statements: YtfeencjpdfnkhaaTotals.lean).
  GIVEN WITH THE SEED: the statements are not yours to turn. If you find one false, say at which input.
  Laid BY PROGRAM, IN A SANDBOX (cutbox-rows.mjs): the forced cells as the released guide's own fill.sh prints them over the translation 0b9ad2702fff402c… (all of the seat's roots in one cut). By AI agents, Wed Nov 11 2026. No macro, syntax, notation, axiom, sorry.
-/
import Derived.Test.YtfeencjpdfnkhaaChecked
import GoSem.Claim
import GoSem.ClaimJoined
import GoSem.ClaimMapViews
import Derived.JoinedTies
import Derived.KernelRfl
namespace Go.Proofs.Ytfeencjpdfnkhaa
/- THE CELL 'sum', in the pinned program and in every row, IS THE sha256 OF THE DUMP (.gsa) THAT YtfeencjpdfnkhaaProg.lean LOADS. Nothing in Lean hashes anything: it is a label: what it is worth is what the hold of that sum in a sandbox is worth. -/
noncomputable def Try.pinned : Pinned := { name := "ytfeencjpdfnkhaa", sum := "0b9ad2702fff402c85f5ca944c3bbe679d5efda1ffc11c0bf409642a79886a53", checked := Try.checked }
namespace Rows
def none {H : Type} : Left H := { results := [], args := [] }

/-- 'castellanlaw16.StateRuns': WHATEVER THE INPUT: true; the input reads as it did. -/
def stateRunsSpec : ChangeSpec := { name := "stateRuns", fn := fun _ => fun
  | [d1, d2] => { results := [.lit (.bool true)], args := [d1, d2] }
  | _ => none }
def stateRunsRow : OpenClaim := { program := "ytfeencjpdfnkhaa", sum := "0b9ad2702fff402c85f5ca944c3bbe679d5efda1ffc11c0bf409642a79886a53", func := "castellan/castellanlaw16.StateRuns", spec := "stateRuns", apart := false }
def StateRunsSaid : Prop := stateRunsRow.holds Try.pinned (OpenSpec.ofChange stateRunsSpec)

/-- ITS FALSE NEIGHBOUR: 'it returns false'. Refute it at one input. -/
def stateRunsWrong : ChangeSpec := { name := "stateRuns", fn := fun _ => fun
  | [d1, d2] => { results := [.lit (.bool false)], args := [d1, d2] }
  | _ => none }
def StateRunsWrongFalsely : Prop := stateRunsRow.holds Try.pinned (OpenSpec.ofChange stateRunsWrong)

/-- 'castellanlaw16.StateShakes': WHATEVER THE INPUT: true; the input reads as it did. -/
def stateShakesSpec : ChangeSpec := { name := "stateShakes", fn := fun _ => fun
  | [d1, d2] => { results := [.lit (.bool true)], args := [d1, d2] }
  | _ => none }
def stateShakesRow : OpenClaim := { program := "ytfeencjpdfnkhaa", sum := "0b9ad2702fff402c85f5ca944c3bbe679d5efda1ffc11c0bf409642a79886a53", func := "castellan/castellanlaw16.StateShakes", spec := "stateShakes", apart := false }
def StateShakesSaid : Prop := stateShakesRow.holds Try.pinned (OpenSpec.ofChange stateShakesSpec)

/-- ITS FALSE NEIGHBOUR: 'it returns false'. Refute it at one input. -/
def stateShakesWrong : ChangeSpec := { name := "stateShakes", fn := fun _ => fun
  | [d1, d2] => { results := [.lit (.bool false)], args := [d1, d2] }
  | _ => none }
def StateShakesWrongFalsely : Prop := stateShakesRow.holds Try.pinned (OpenSpec.ofChange stateShakesWrong)

/-- 'castellanlaw16.StateLong': WHATEVER THE INPUT: true; the input reads as it did. -/
def stateLongSpec : ChangeSpec := { name := "stateLong", fn := fun _ => fun
  | [d] => { results := [.lit (.bool true)], args := [d] }
  | _ => none }
def stateLongRow : OpenClaim := { program := "ytfeencjpdfnkhaa", sum := "0b9ad2702fff402c85f5ca944c3bbe679d5efda1ffc11c0bf409642a79886a53", func := "castellan/castellanlaw16.StateLong", spec := "stateLong", apart := false }
def StateLongSaid : Prop := stateLongRow.holds Try.pinned (OpenSpec.ofChange stateLongSpec)

/-- ITS FALSE NEIGHBOUR: 'it returns false'. Refute it at one input. -/
def stateLongWrong : ChangeSpec := { name := "stateLong", fn := fun _ => fun
  | [d] => { results := [.lit (.bool false)], args := [d] }
  | _ => none }
def StateLongWrongFalsely : Prop := stateLongRow.holds Try.pinned (OpenSpec.ofChange stateLongWrong)

/-- 'castellanlaw16.StateTells': WHATEVER THE INPUT: true; the input reads as it did. -/
def stateTellsSpec : ChangeSpec := { name := "stateTells", fn := fun _ => fun
  | [d1, d2, d3, d4] => { results := [.lit (.bool true)], args := [d1, d2, d3, d4] }
  | _ => none }
def stateTellsRow : OpenClaim := { program := "ytfeencjpdfnkhaa", sum := "0b9ad2702fff402c85f5ca944c3bbe679d5efda1ffc11c0bf409642a79886a53", func := "castellan/castellanlaw16.StateTells", spec := "stateTells", apart := false }
def StateTellsSaid : Prop := stateTellsRow.holds Try.pinned (OpenSpec.ofChange stateTellsSpec)

/-- ITS FALSE NEIGHBOUR: 'it returns false'. Refute it at one input. -/
def stateTellsWrong : ChangeSpec := { name := "stateTells", fn := fun _ => fun
  | [d1, d2, d3, d4] => { results := [.lit (.bool false)], args := [d1, d2, d3, d4] }
  | _ => none }
def StateTellsWrongFalsely : Prop := stateTellsRow.holds Try.pinned (OpenSpec.ofChange stateTellsWrong)

/-- 'castellanlaw16.StateBegins': WHATEVER THE INPUT: true; the input reads as it did. -/
def stateBeginsSpec : ChangeSpec := { name := "stateBegins", fn := fun _ => fun
  | [d] => { results := [.lit (.bool true)], args := [d] }
  | _ => none }
def stateBeginsRow : OpenClaim := { program := "ytfeencjpdfnkhaa", sum := "0b9ad2702fff402c85f5ca944c3bbe679d5efda1ffc11c0bf409642a79886a53", func := "castellan/castellanlaw16.StateBegins", spec := "stateBegins", apart := false }
def StateBeginsSaid : Prop := stateBeginsRow.holds Try.pinned (OpenSpec.ofChange stateBeginsSpec)

/-- ITS FALSE NEIGHBOUR: 'it returns false'. Refute it at one input. -/
def stateBeginsWrong : ChangeSpec := { name := "stateBegins", fn := fun _ => fun
  | [d] => { results := [.lit (.bool false)], args := [d] }
  | _ => none }
def StateBeginsWrongFalsely : Prop := stateBeginsRow.holds Try.pinned (OpenSpec.ofChange stateBeginsWrong)

/- THE SECOND FORM. 'bulk': how many values and letters a reading holds, each counted each time it is reached (what is shared counts as often as it is met; a slice's spare places count too). A statement '..UptoSaid' is the law's where the arguments, and the package variables that the reading takes, are together of bulk at most 1048576: NARROWER than '..Said'. Prove '..Said' where nothing that the law and all that it calls make is longer than what came in: it says more and counts as full. Else prove '..UptoSaid'. A law counts once. -/
mutual
def uptoBulk {H : Type} : DataW H → Nat
  | .lit (.string bytes) => bytes.length + 1
  | .lit _ => 1
  | .nil => 1
  | .ptr d => uptoBulk d + 1
  | .slice elems spare => uptoBulkAll elems + uptoBulkAll spare + 1
  | .agg parts => uptoBulkAll parts + 1
  | .iface _ d => uptoBulk d + 1
  | .map entries => uptoBulkEntries entries + 1
  | .held _ => 1
def uptoBulkAll {H : Type} : List (DataW H) → Nat
  | [] => 0
  | d :: r => uptoBulk d + uptoBulkAll r
def uptoBulkEntries {H : Type} : List (Lit × DataW H) → Nat
  | [] => 0
  | x :: r => uptoBulkEntry x + uptoBulkEntries r
def uptoBulkEntry {H : Type} : Lit × DataW H → Nat
  | (.string bytes, d) => bytes.length + uptoBulk d + 1
  | (_, d) => uptoBulk d + 1
 end
def uptoSmall : (H : Type) → List (DataW H) → Bool := fun _ ds => decide (uptoBulkAll ds ≤ 1048576)
def OpenSpec.upto (s : _root_.Go.ChangeSpec) : _root_.Go.OpenSpec := { _root_.Go.OpenSpec.ofChange s with cond := some uptoSmall }

/-- 'castellanlaw16.StateRuns', WHERE WHAT IT READS IS OF BULK AT MOST 1048576: true; the input reads as it did. -/
def stateRunsUptoRow : OpenClaim := { program := "ytfeencjpdfnkhaa", sum := "0b9ad2702fff402c85f5ca944c3bbe679d5efda1ffc11c0bf409642a79886a53", func := "castellan/castellanlaw16.StateRuns", spec := "stateRuns", apart := false, narrowed := true }
def StateRunsUptoSaid : Prop := stateRunsUptoRow.holds Try.pinned (OpenSpec.upto stateRunsSpec)

/-- 'castellanlaw16.StateShakes', WHERE WHAT IT READS IS OF BULK AT MOST 1048576: true; the input reads as it did. -/
def stateShakesUptoRow : OpenClaim := { program := "ytfeencjpdfnkhaa", sum := "0b9ad2702fff402c85f5ca944c3bbe679d5efda1ffc11c0bf409642a79886a53", func := "castellan/castellanlaw16.StateShakes", spec := "stateShakes", apart := false, narrowed := true }
def StateShakesUptoSaid : Prop := stateShakesUptoRow.holds Try.pinned (OpenSpec.upto stateShakesSpec)

/-- 'castellanlaw16.StateLong', WHERE WHAT IT READS IS OF BULK AT MOST 1048576: true; the input reads as it did. -/
def stateLongUptoRow : OpenClaim := { program := "ytfeencjpdfnkhaa", sum := "0b9ad2702fff402c85f5ca944c3bbe679d5efda1ffc11c0bf409642a79886a53", func := "castellan/castellanlaw16.StateLong", spec := "stateLong", apart := false, narrowed := true }
def StateLongUptoSaid : Prop := stateLongUptoRow.holds Try.pinned (OpenSpec.upto stateLongSpec)

/-- 'castellanlaw16.StateTells', WHERE WHAT IT READS IS OF BULK AT MOST 1048576: true; the input reads as it did. -/
def stateTellsUptoRow : OpenClaim := { program := "ytfeencjpdfnkhaa", sum := "0b9ad2702fff402c85f5ca944c3bbe679d5efda1ffc11c0bf409642a79886a53", func := "castellan/castellanlaw16.StateTells", spec := "stateTells", apart := false, narrowed := true }
def StateTellsUptoSaid : Prop := stateTellsUptoRow.holds Try.pinned (OpenSpec.upto stateTellsSpec)

/-- 'castellanlaw16.StateBegins', WHERE WHAT IT READS IS OF BULK AT MOST 1048576: true; the input reads as it did. -/
def stateBeginsUptoRow : OpenClaim := { program := "ytfeencjpdfnkhaa", sum := "0b9ad2702fff402c85f5ca944c3bbe679d5efda1ffc11c0bf409642a79886a53", func := "castellan/castellanlaw16.StateBegins", spec := "stateBegins", apart := false, narrowed := true }
def StateBeginsUptoSaid : Prop := stateBeginsUptoRow.holds Try.pinned (OpenSpec.upto stateBeginsSpec)

end Rows
end Go.Proofs.Ytfeencjpdfnkhaa
