/- castellanref14.reader: end. -/
import Derived.Test.YtnmbbnhgoedjgaaGreatDoorQRuG
import Derived.Test.YtnmbbnhgoedjgaaGreatDoorQCf3
namespace Go.Proofs.YtnmbbnhgoedjgaaGreatDoor.RuN
open Go Go.RowKit Go.Proofs.YtnmbbnhgoedjgaaGreatDoor.Ad1 Go.Proofs.YtnmbbnhgoedjgaaGreatDoor.St2 Go.Proofs.YtnmbbnhgoedjgaaGreatDoor.St3 Go.Proofs.YtnmbbnhgoedjgaaGreatDoor.Ru0 Go.Proofs.YtnmbbnhgoedjgaaGreatDoor.Ru1 Go.Proofs.YtnmbbnhgoedjgaaGreatDoor.Ru6 Go.Proofs.YtnmbbnhgoedjgaaGreatDoor.RuB Go.Proofs.YtnmbbnhgoedjgaaGreatDoor.RuC
set_option linter.unusedVariables false
set_option linter.unusedSimpArgs false
/-- While an end is read: the reader, the end so far, the box of the result. -/
structure EndSt (W : World) (g : Nat) (s : SideM) (ws : Ws) (W2 : World) : Prop where
  rd : Rd 162 W2 g ws
  box : W2.heap[W.heap.size + 1]? = some (.cells (sideC s) 71 (0, 0))
  res : W2.heap[W.heap.size]? = some (.cells (sideC {}) 71 (0, 0))
  upto : Upto g W W2
  lib : LibOK W2
  big : W.heap.size + 1 < W2.heap.size
theorem EndSt.call {W W2 W3 : World} {g : Nat} {s : SideM} {ws ws' : Ws} (h : EndSt W g s ws W2) (hg : g < W.heap.size) (hG : LibLow g) (hr : Rd 162 W3 g ws') (hu : Upto g W2 W3) : EndSt W g s ws' W3 :=
  ⟨hr, hu.row h.box (by omega), hu.row h.res (by omega), h.upto.trans hu, lib_upto h.lib hu hG (Nat.le_of_lt h.rd.lt), Nat.lt_of_lt_of_le h.big hu.size⟩
theorem EndSt.below {W W2 W3 : World} {g : Nat} {s : SideM} {ws : Ws} (h : EndSt W g s ws W2) (hb : Below W2.heap.size W2 W3) : EndSt W g s ws W3 :=
  ⟨h.rd.below hb, (hb.block _ h.big).trans h.box, (hb.block _ (Nat.lt_of_succ_lt h.big)).trans h.res, h.upto.trans (Upto.of_below hb), h.lib.below hb, Nat.lt_of_lt_of_le h.big hb.size⟩
theorem EndSt.bad {W W2 : World} {g : Nat} {s : SideM} {ws : Ws} (h : EndSt W g s ws W2) (hg : g < W.heap.size) (hG : LibLow g) (b : Bool) : EndSt W g s ⟨ws.l, b⟩ (W2.setCell ⟨g, 1, none⟩ (.bool b)) :=
  h.call hg hG (h.rd.bad b) (Upto.refl _ _).set
theorem EndSt.put {W W2 : World} {g k : Nat} {s s' : SideM} {ws : Ws} {v : Value} (h : EndSt W g s ws W2) (hg : g < W.heap.size) (hG : LibLow g) (he : (sideC s).setIfInBounds k v = sideC s') : EndSt W g s' ws (W2.setCell ⟨W.heap.size + 1, k, none⟩ v) :=
  ⟨h.rd.above (set_b (Below.refl _ _) (by omega)), by rw [← he]; exact set_at h.box, by rw [heap_setCell_other _ _ _ _ (by simp)]; exact h.res, h.upto.set_new (by omega), lib_low h.lib (set_b (Below.refl _ _) (by omega)) hG, by rw [size_set]; exact h.big⟩
theorem EndSt.draw {W W2 : World} {g : Nat} {s : SideM} {ws : Ws} (h : EndSt W g s ws W2) (n : Nat) : EndSt W g s ws (W2.drewN n) := h.below (bdrewN (Below.refl _ _) n)
theorem EndSt.facts {W W2 : World} {g : Nat} {s : SideM} {ws : Ws} (h : EndSt W g s ws W2) : (W2.cell? ⟨g, 1, none⟩ = some (.bool ws.bad) ∧ W2.frozen? ⟨g, 1, none⟩ = false) ∧
    (W2.cell? ⟨W.heap.size + 1, 0, none⟩ = some (.bool s.any) ∧ W2.cell? ⟨W.heap.size + 1, 1, none⟩ = some (.string ⟨s.table.toArray⟩) ∧ W2.cell? ⟨W.heap.size + 1, 2, none⟩ = some (.int .u32 (s.pfx.addr : Nat)) ∧ W2.cell? ⟨W.heap.size + 1, 3, none⟩ = some (.int .i64 s.pfx.len) ∧ W2.cell? ⟨W.heap.size + 1, 4, none⟩ = some (.int .i64 s.low) ∧ W2.cell? ⟨W.heap.size + 1, 5, none⟩ = some (.int .i64 s.high)) ∧
    (W2.frozen? ⟨W.heap.size + 1, 0, none⟩ = false ∧ W2.frozen? ⟨W.heap.size + 1, 1, none⟩ = false ∧ W2.frozen? ⟨W.heap.size + 1, 2, none⟩ = false ∧ W2.frozen? ⟨W.heap.size + 1, 3, none⟩ = false ∧ W2.frozen? ⟨W.heap.size + 1, 4, none⟩ = false ∧ W2.frozen? ⟨W.heap.size + 1, 5, none⟩ = false) := by
  obtain ⟨a0, a1, a2, a3, a4, a5, b0, b1, b2, b3, b4, b5⟩ := box6 h.box
  exact ⟨h.rd.cells, ⟨a0, a1, a2, a3, a4, a5⟩, b0, b1, b2, b3, b4, b5⟩
end Go.Proofs.YtnmbbnhgoedjgaaGreatDoor.RuN

