/- Rows of cells: a whole one or a part of it read and written in one step, guarded or not; over any program. -/
import Derived.Deep.MidRow
import Derived.Below
import Derived.WalkKit
import Derived.BigFrame
namespace Go.Proofs.YtnmbbnhgoedjgaaGreatDoor.Mem
open Go Go.RowKit
set_option linter.unusedVariables false
section
variable {P : Program}
/-- Cells, from a place on written over. -/
def putL (cs : Array Value) : Nat → List Value → Array Value
  | _, [] => cs
  | o, v :: r => putL (cs.setIfInBounds o v) (o + 1) r
theorem set_row {w : World} {g k : Nat} {c : Array Value} {T : TypeId} {fr : Nat × Nat} {v : Value} (h : w.heap[g]? = some (.cells c T fr)) : (w.setCell ⟨g, k, none⟩ v).heap[g]? = some (.cells (c.setIfInBounds k v) T fr) := by
  unfold World.setCell
  simp only [Array.getElem?_modify, h]
  rfl
theorem puts_row {g : Nat} {T : TypeId} {fr : Nat × Nat} : ∀ (l : List Value) (o : Nat) {w : World} {cs : Array Value}, w.heap[g]? = some (.cells cs T fr) → (w.setCells g o l).heap[g]? = some (.cells (putL cs o l) T fr)
  | [], _, _, _, h => h
  | v :: r, o, w, cs, h => puts_row r (o + 1) (set_row h)
theorem putL_toList : ∀ (l : List Value) (o : Nat) (cs : Array Value), o + l.length ≤ cs.size → (putL cs o l).toList = cs.toList.take o ++ l ++ cs.toList.drop (o + l.length)
  | [], o, cs, _ => by simp [putL]
  | v :: r, o, cs, h => by
    have hlt : o < cs.toList.length := by simp at h ⊢; omega
    rw [putL, putL_toList r (o + 1) _ (by simp at h ⊢; omega), Array.toList_setIfInBounds, List.set_eq_take_append_cons_drop, if_pos hlt]
    have e1 : (cs.toList.take o).length = o := by rw [List.length_take]; omega
    have e2 : List.take (o + 1) (cs.toList.take o ++ v :: cs.toList.drop (o + 1)) = cs.toList.take o ++ [v] := by
      rw [List.take_append, e1, List.take_of_length_le (by omega)]
      simp
    have e3 : List.drop (o + 1 + r.length) (cs.toList.take o ++ v :: cs.toList.drop (o + 1)) = cs.toList.drop (o + (v :: r).length) := by
      rw [List.drop_append, e1, List.drop_of_length_le (by omega)]
      simp only [List.nil_append]
      rw [show o + 1 + r.length - o = r.length + 1 from by omega, List.drop_succ_cons, List.drop_drop]
      congr 1
      simp; omega
    rw [e2, e3]
    simp
theorem putL_whole (cs ds : Array Value) (h : ds.size = cs.size) : putL cs 0 ds.toList = ds := by
  apply Array.ext'
  rw [putL_toList _ _ _ (by simp; omega)]
  simp
  omega
theorem puts_other {g k : Nat} (hk : k ≠ g) : ∀ (l : List Value) (o : Nat) (w : World), (w.setCells g o l).heap[k]? = w.heap[k]?
  | [], _, _ => rfl
  | v :: r, o, w => (puts_other hk r (o + 1) _).trans (heap_setCell_other _ _ _ _ hk)
theorem puts_size {g : Nat} : ∀ (l : List Value) (o : Nat) (w : World), (w.setCells g o l).heap.size = w.heap.size
  | [], _, _ => rfl
  | v :: r, o, w => (puts_size r (o + 1) _).trans (by unfold World.setCell; simp)
theorem puts_os {g : Nat} : ∀ (l : List Value) (o : Nat) (w : World), (w.setCells g o l).os = w.os ∧ (w.setCells g o l).tape = w.tape ∧ (w.setCells g o l).output = w.output
  | [], _, _ => ⟨rfl, rfl, rfl⟩
  | v :: r, o, w => puts_os r (o + 1) (w.setCell ⟨g, o, none⟩ v)
theorem puts_below {B g : Nat} {w0 w : World} (hb : Below B w0 w) (hg : B ≤ g) (l : List Value) (o : Nat) : Below B w0 (w.setCells g o l) :=
  ⟨(puts_os l o w).1.trans hb.os, (puts_os l o w).2.1.trans hb.tape, (puts_os l o w).2.2.trans hb.output, by rw [puts_size]; exact hb.size, fun i hi => (puts_other (by omega) l o w).trans (hb.block i hi)⟩
theorem range_part {w : World} {g o n : Nat} {t : TypeId} {cs ds : Array Value} {fr : Nat × Nat} (hg : w.heap[g]? = some (.cells cs t fr)) (he : cs.extract o (o + n) = ds) : w.rangeAt g o ds.toList := by
  intro j v hj
  rw [cell_of_row w g (o + j) cs t fr hg]
  subst he
  rw [Array.toList_extract, List.extract_eq_take_drop, List.getElem?_take] at hj
  split at hj
  · rw [List.getElem?_drop] at hj
    simpa using hj
  · cases hj
/-- A whole row is read. -/
theorem load_row {ops : Array Oper} {rest : List Oper} {a : Act} {w : World} {Q : Exit → Act → World → Prop} {dst : Option Tmp} {type : TypeId} {pos : String} {after : Array Edge} {guard : Option (Nat × Bool)} {ty : TypeId} {x : Operand}
    (g : Nat) (hx : a.eval x = .pointer (some ⟨g, 0, none⟩)) {t : TypeId} {cs : Array Value} {fr : Nat × Nat} {fs : Array Field} (hg : w.heap[g]? = some (.cells cs t fr))
    (hu : P.underlying ty = some (.struct fs)) (hi : (P.info? ty).map (·.size) = some cs.size) (hw : Region.wanted { dst := dst, op := .load ty x, type := type, pos := pos, after := after, guard := guard } (yielded ops a.tmps) = true)
    (h : wpList P ops Q rest (a.put dst (.agg cs)) w) : wpList P ops Q ({ dst := dst, op := .load ty x, type := type, pos := pos, after := after, guard := guard } :: rest) a w :=
  BigFrame.wpList_want hw fun _ hK => wp_load_row ty x rfl g hx t cs fr _ hg hu rfl hi (hK _ _ h)
/-- A part of a row is read. -/
theorem load_part {ops : Array Oper} {rest : List Oper} {a : Act} {w : World} {Q : Exit → Act → World → Prop} {dst : Option Tmp} {type : TypeId} {pos : String} {after : Array Edge} {guard : Option (Nat × Bool)} {ty : TypeId} {x : Operand}
    (g k n : Nat) (hx : a.eval x = .pointer (some ⟨g, k, none⟩)) {t : TypeId} {cs ds : Array Value} {fr : Nat × Nat} {fs : Array Field} (hg : w.heap[g]? = some (.cells cs t fr)) (he : cs.extract k (k + n) = ds)
    (hu : P.underlying ty = some (.struct fs)) (hi : (P.info? ty).map (·.size) = some ds.size) (hw : Region.wanted { dst := dst, op := .load ty x, type := type, pos := pos, after := after, guard := guard } (yielded ops a.tmps) = true)
    (h : wpList P ops Q rest (a.put dst (.agg ds)) w) : wpList P ops Q ({ dst := dst, op := .load ty x, type := type, pos := pos, after := after, guard := guard } :: rest) a w :=
  BigFrame.wpList_want hw fun _ hK => wp_load_mid ty x rfl g k hx ds.toList (.struct fs) (range_part hg he) hu rfl (by simpa using hi) (hK _ _ (by simpa using h))
/-- A part of a row is written. -/
theorem store_part {ops : Array Oper} {rest : List Oper} {a : Act} {w : World} {Q : Exit → Act → World → Prop} {dst : Option Tmp} {type : TypeId} {pos : String} {after : Array Edge} {guard : Option (Nat × Bool)} {ty : TypeId} {x y : Operand}
    (g k : Nat) (ds : Array Value) (hx : a.eval x = .pointer (some ⟨g, k, none⟩)) (hy : a.eval y = .agg ds) {t : TypeId} {cs : Array Value} (hg : w.heap[g]? = some (.cells cs t (0, 0))) (hin : k + ds.size ≤ cs.size)
    (hi : (P.info? ty).map (·.size) = some ds.size) (h1 : ds.all (·.oneCell') = true) (hw : Region.wanted { dst := dst, op := .store ty x y, type := type, pos := pos, after := after, guard := guard } (yielded ops a.tmps) = true)
    (h : wpList P ops Q rest (a.put dst undef) (w.setCells g k ds.toList)) : wpList P ops Q ({ dst := dst, op := .store ty x y, type := type, pos := pos, after := after, guard := guard } :: rest) a w :=
  BigFrame.wpList_want hw fun _ hK => wp_store_mid ty x y rfl g k ds hx hy (fun j hj => ⟨by rw [cell_of_row w g (k + j) cs t (0, 0) hg, Array.getElem?_eq_getElem (by omega)]; rfl, frozen_of_row w g (k + j) cs t hg⟩) hi h1 (hK _ _ h)
end
end Go.Proofs.YtnmbbnhgoedjgaaGreatDoor.Mem

