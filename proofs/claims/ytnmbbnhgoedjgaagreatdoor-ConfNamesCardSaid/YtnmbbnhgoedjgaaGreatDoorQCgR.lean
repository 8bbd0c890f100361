/- A region that draws its order, of operations that read and of calls that make memory, walked once in the order of the text: in a class of worlds. Over any program. A whole row is read, in a class of worlds. Over any program. -/
import Derived.Test.YtnmbbnhgoedjgaaGreatDoorQCf4
import Derived.BigQuiet
import Derived.Deep.QuietTactic
namespace Go.Proofs.YtnmbbnhgoedjgaaGreatDoor.CgQ
open Go Go.RowKit
set_option linter.unusedVariables false
/-- The worlds that are so. -/
abbrev In (S : World → Prop) := {w : World // S w}
theorem region_in {P : Program} {id : Nat} {Q : Exit → Act → World → Prop} {a : Act} {w : World} {l : List Oper} (S : World → Prop) (hm : P.follows .mixedOrders = true) (hB : Region.lexB .any l.toArray = true) (hS : S w.drew)
    (h : wpQuiet P l.toArray (fun w' => ∃ p : In S, w' = p.val) (fun a' => ∀ w', (∃ p : In S, w' = p.val) → Q .normal a' w') l a) : (Code.region id l.toArray true).wp P Q a w :=
  wp_region_quiet (C := fun w' => ∃ p : In S, w' = p.val) hm hB ⟨⟨w.drew, hS⟩, rfl⟩ (by simpa using h)
/-- A struct is read where its cells lie. -/
theorem load_in {P : Program} {S : World → Prop} {a : Act} {K : Act → Prop} {dst : Option Tmp} {type : TypeId} {pos : String} {after : Array Edge} {guard : Option (Nat × Bool)} {ty : TypeId} {x : Operand}
    (g k : Nat) (hx : a.eval x = .pointer (some ⟨g, k, .none⟩)) {cs : List Value} {fs : Array Field} (hg : ∀ p : In S, p.val.rangeAt g k cs)
    (hu : P.underlying ty = some (.struct fs)) (hi : (P.info? ty).map (·.size) = some cs.length)
    (h : K (a.put dst (.agg cs.toArray))) : Oper.quiet P { dst := dst, op := .load ty x, type := type, pos := pos, after := after, guard := guard } a (fun w' => ∃ p : In S, w' = p.val) K := by
  refine ⟨.agg cs.toArray, ?_, h⟩
  rintro w ⟨p, rfl⟩
  unfold Oper.quietAt execOp
  simp only [hx, Instr.loadAt, Instr.sureAddr, Sem.run_bind, Sem.run_pure, Result.andThen_ok, run_loadVar_mid p.val g k ty cs (.struct fs) (hg p) hu rfl hi]
  exact ⟨rfl, rfl⟩
/-- One cell is read. -/
theorem load_one {P : Program} {S : World → Prop} {a : Act} {K : Act → Prop} {dst : Option Tmp} {type : TypeId} {pos : String} {after : Array Edge} {guard : Option (Nat × Bool)} {ty : TypeId} {x : Operand} {c : Value}
    (g k : Nat) (hx : a.eval x = .pointer (some ⟨g, k, .none⟩)) (hg : ∀ p : In S, p.val.cell? ⟨g, k, .none⟩ = some c) (hty : ∀ w, (isAgg ty).run P w = .ok false w)
    (h : K (a.put dst c)) : Oper.quiet P { dst := dst, op := .load ty x, type := type, pos := pos, after := after, guard := guard } a (fun w' => ∃ p : In S, w' = p.val) K := by
  refine ⟨c, ?_, h⟩
  rintro w ⟨p, rfl⟩
  unfold Oper.quietAt execOp
  have hl : (loadVar ty ⟨g, k, none⟩).run P p.val = .ok c p.val := by
    simp [loadVar, Sem.run_bind, hty, run_load, hg p]
  simp only [hx, Instr.loadAt, Instr.sureAddr, Sem.run_bind, Sem.run_pure, Result.andThen_ok, hl]
  exact ⟨rfl, rfl⟩
end Go.Proofs.YtnmbbnhgoedjgaaGreatDoor.CgQ

namespace Go.Proofs.YtnmbbnhgoedjgaaGreatDoor.CgR
open Go Go.RowKit Go.Proofs.YtnmbbnhgoedjgaaGreatDoor.CgQ
set_option linter.unusedVariables false
theorem load_whole {P : Program} {S : World → Prop} {a : Act} {K : Act → Prop} {dst : Option Tmp} {type : TypeId} {pos : String} {after : Array Edge} {guard : Option (Nat × Bool)} {ty : TypeId} {x : Operand}
    (g : Nat) (hx : a.eval x = .pointer (some ⟨g, 0, .none⟩)) {t : TypeId} {cs : Array Value} {fr : Nat × Nat} {fs : Array Field} (hg : ∀ p : In S, p.val.heap[g]? = some (.cells cs t fr))
    (hu : P.underlying ty = some (.struct fs)) (hi : (P.info? ty).map (·.size) = some cs.size)
    (h : K (a.put dst (.agg cs))) : Oper.quiet P { dst := dst, op := .load ty x, type := type, pos := pos, after := after, guard := guard } a (fun w' => ∃ p : In S, w' = p.val) K := by
  refine load_in g 0 hx (cs := cs.toList) (fun p => ?_) hu (by simpa using hi) (by simpa using h)
  intro j v hj
  rw [Nat.zero_add, cell_of_row _ _ _ _ _ _ (hg p)]
  simpa using hj
end Go.Proofs.YtnmbbnhgoedjgaaGreatDoor.CgR

