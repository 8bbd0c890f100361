/- A struct is laid into a block that has just been made. Over any program. -/
import Derived.Test.YtnmbbnhgoedjgaaGreatDoorQCf4
import Derived.Test.YtnmbbnhgoedjgaaGreatDoorQMem
import Derived.Test.YtnmbbnhgoedjgaaGreatDoorQAd2
namespace Go.Proofs.YtnmbbnhgoedjgaaGreatDoor.CgM
open Go Go.RowKit Go.Proofs.YtnmbbnhgoedjgaaGreatDoor.Cf4 Go.Proofs.YtnmbbnhgoedjgaaGreatDoor.Ad1
set_option linter.unusedVariables false
theorem store_new {P : Program} {ops : Array Oper} {rest : List Oper} {a : Act} {w : World} {Q : Exit → Act → World → Prop} {dst : Option Tmp} {type : TypeId} {pos : String} {after : Array Edge} {guard : Option (Nat × Bool)} {ty : TypeId} {x y : Operand}
    (ds : Array Value) {zs : Array Value} {t : TypeId} (hx : a.eval x = .pointer (some ⟨w.heap.size, 0, none⟩)) (hy : a.eval y = .agg ds) (hz : ds.size = zs.size)
    (hi : (P.info? ty).map (·.size) = some ds.size) (h1 : ds.all (·.oneCell') = true) (hw : Region.wanted { dst := dst, op := .store ty x y, type := type, pos := pos, after := after, guard := guard } (yielded ops a.tmps) = true)
    (h : ∀ V : World, V.heap[w.heap.size]? = some (.cells ds t (0, 0)) → Below w.heap.size w V → w.heap.size < V.heap.size → wpList P ops Q rest (a.put dst undef) V) :
    wpList P ops Q ({ dst := dst, op := .store ty x y, type := type, pos := pos, after := after, guard := guard } :: rest) a (w.alloc (.cells zs t)) := by
  refine Mem.store_part w.heap.size 0 ds hx hy (heap_alloc_new w _) (by omega) hi h1 hw (h _ ?_ ?_ ?_)
  · have h := Mem.puts_row ds.toList 0 (heap_alloc_new w (.cells zs t))
    rw [Mem.putL_whole _ _ hz] at h
    exact h
  · exact Mem.puts_below (bnew w _) (Nat.le_refl _) _ 0
  · rw [Mem.puts_size]; simp
end Go.Proofs.YtnmbbnhgoedjgaaGreatDoor.CgM

