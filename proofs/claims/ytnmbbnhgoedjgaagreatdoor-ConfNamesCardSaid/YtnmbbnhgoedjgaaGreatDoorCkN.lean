import Derived.Test.YtnmbbnhgoedjgaaGreatDoorQCf4
import Derived.Deep.AppendLies
import Derived.Lib.Hide
import Derived.Test.YtnmbbnhgoedjgaaGreatDoorQCk5
import Derived.Test.YtnmbbnhgoedjgaaGreatDoorQRuU
import Derived.Test.YtnmbbnhgoedjgaaGreatDoorQCk7
import Derived.Laws.Bits64
import Derived.BigRegion
import Derived.Test.YtnmbbnhgoedjgaaGreatDoorRows
import Derived.Test.YtnmbbnhgoedjgaaGreatDoorCards
import Derived.Test.YtnmbbnhgoedjgaaGreatDoorTie
import Derived.Test.YtnmbbnhgoedjgaaGreatDoorQB2
import Derived.Test.YtnmbbnhgoedjgaaGreatDoorQSt2
import Derived.Test.YtnmbbnhgoedjgaaGreatDoorQCkO
import Derived.Test.YtnmbbnhgoedjgaaGreatDoorQChJ
import Derived.Test.YtnmbbnhgoedjgaaGreatDoorQRuV
import Derived.Test.YtnmbbnhgoedjgaaGreatDoorQRuX
import Derived.SevenTiedAt
import Derived.Lay
import Derived.PinnedBridge
/- Footprints: a structure that owns blocks, and what else may have turned; rows of structs that are owned, read and written. Over any program. -/
namespace Go.Proofs.YtnmbbnhgoedjgaaGreatDoor.Fm0
open Go Go.RowKit Go.Proofs.YtnmbbnhgoedjgaaGreatDoor.B1 Go.Proofs.YtnmbbnhgoedjgaaGreatDoor.Cf4 Go.Proofs.YtnmbbnhgoedjgaaGreatDoor.Mem
set_option linter.unusedVariables false
set_option linter.unusedSimpArgs false

/-- But for the blocks of S all that was there is as it was. -/
structure Off (S : Nat → Prop) (w w' : World) : Prop where
  os : w'.os = w.os
  tape : w'.tape = w.tape
  output : w'.output = w.output
  size : w.heap.size ≤ w'.heap.size
  block : ∀ k, k < w.heap.size → ¬ S k → w'.heap[k]? = w.heap[k]?
/-- S, and what was made since. -/
def Grow (S : Nat → Prop) (w w' : World) (k : Nat) : Prop := S k ∨ (w.heap.size ≤ k ∧ k < w'.heap.size)
def Low (S : Nat → Prop) (w : World) : Prop := ∀ k, S k → k < w.heap.size
theorem Off.refl (S : Nat → Prop) (w : World) : Off S w w := ⟨rfl, rfl, rfl, Nat.le_refl _, fun _ _ _ => rfl⟩
theorem Off.mono {S T : Nat → Prop} {w w' : World} (h : Off S w w') (hs : ∀ k, k < w.heap.size → S k → T k) : Off T w w' := ⟨h.os, h.tape, h.output, h.size, fun k hk hT => h.block k hk fun hS => hT (hs k hk hS)⟩
theorem Off.trans {S : Nat → Prop} {w w1 w2 : World} (h : Off S w w1) (k : Off (Grow S w w1) w1 w2) : Off S w w2 :=
  ⟨k.os.trans h.os, k.tape.trans h.tape, k.output.trans h.output, Nat.le_trans h.size k.size, fun i hi hS => (k.block i (Nat.lt_of_lt_of_le hi h.size) fun hg => hg.elim hS fun hg => by omega).trans (h.block i hi hS)⟩
theorem Off.trans' {S : Nat → Prop} {w w1 w2 : World} (h : Off S w w1) (k : Off S w1 w2) : Off S w w2 := h.trans (k.mono fun i _ hi => .inl hi)
theorem Off.of_below {S : Nat → Prop} {w w' : World} (h : Below w.heap.size w w') : Off S w w' := ⟨h.os, h.tape, h.output, h.size, fun k hk _ => h.block k hk⟩
theorem Off.below {S : Nat → Prop} {w w' : World} {B : Nat} (h : Off S w w') (hS : ∀ k, S k → B ≤ k) (hB : B ≤ w.heap.size) : Below B w w' := ⟨h.os, h.tape, h.output, h.size, fun k hk => h.block k (by omega) fun hs => by have := hS k hs; omega⟩
theorem Off.low {S : Nat → Prop} {w w' : World} (h : Off S w w') (hS : ∀ k, ¬ S k) : Below w.heap.size w w' := ⟨h.os, h.tape, h.output, h.size, fun k hk => h.block k hk (hS k)⟩
theorem Off.grown {S : Nat → Prop} {w w' : World} {row : Option Nat} (h : w.grownBy w' row) (hr : ∀ k, row = some k → S k) : Off S w w' := ⟨h.os, h.tape, h.output, h.size, fun k hk hS => h.block k hk fun e => hS (hr k e.symm)⟩
theorem Off.drew {S : Nat → Prop} {w w' : World} (h : Off S w w') : Off S w w'.drew := ⟨h.os, h.tape, h.output, h.size, h.block⟩
theorem Off.setCell {S : Nat → Prop} (w : World) {g k : Nat} (hg : S g) (v : Value) : Off S w (w.setCell ⟨g, k, none⟩ v) :=
  ⟨rfl, rfl, rfl, by simp [World.setCell], fun i _ hS => Below.heap_setCell _ _ _ _ (fun e => hS (by rw [e]; exact hg))⟩
theorem Off.setCells {S : Nat → Prop} (w : World) {g k : Nat} (hg : S g) (l : List Value) : Off S w (w.setCells g k l) :=
  ⟨(puts_os l k w).1, (puts_os l k w).2.1, (puts_os l k w).2.2, by rw [puts_size]; exact Nat.le_refl _, fun i _ hS => puts_other (fun e => hS (by rw [e]; exact hg)) l k w⟩
theorem Off.keep {S : Nat → Prop} {w w' : World} (h : Off S w w') {g : Nat} (hS : ¬ S g) {o : Obj} (hg : w.heap[g]? = some o) : w'.heap[g]? = some o :=
  (h.block g (Array.getElem?_eq_some_iff.1 hg).1 hS).trans hg
theorem grow_low {S : Nat → Prop} {w w' : World} (h : Low S w) (hs : w.heap.size ≤ w'.heap.size) : Low (Grow S w w') w' := fun k hk => hk.elim (fun a => Nat.lt_of_lt_of_le (h k a) hs) fun a => a.2
theorem low_size {S : Nat → Prop} {w w' : World} (h : Low S w) (hs : w.heap.size ≤ w'.heap.size) : Low S w' := fun k hk => Nat.lt_of_lt_of_le (h k hk) hs
theorem grow_grow {S : Nat → Prop} {w w1 w2 : World} (h1 : w.heap.size ≤ w1.heap.size) (h2 : w1.heap.size ≤ w2.heap.size) {k : Nat} (h : Grow (Grow S w w1) w1 w2 k) : Grow S w w2 k := by
  rcases h with (h | h) | h
  · exact .inl h
  · exact .inr ⟨h.1, by omega⟩
  · exact .inr ⟨by omega, h.2⟩
theorem grow_from {S : Nat → Prop} {w w1 w2 : World} (h1 : w.heap.size ≤ w1.heap.size) {k : Nat} (h : Grow S w1 w2 k) : Grow S w w2 k := h.elim .inl fun h => .inr ⟨by omega, h.2⟩
/-- What a call leaves of a structure: what it is then, with the blocks that were made; all else as it was. -/
def Got (X : World → (Nat → Prop) → Prop) (W : World) (S : Nat → Prop) (w' : World) : Prop := X w' (Grow S W w') ∧ Off S W w'

/-! ## Rows that are owned -/
def OwnS (W : World) (S : Nat → Prop) (e : TypeId) (s : Nat) (v : Value) (n : Nat) (xs : List Value) : Prop := W.ownsRow 0 e s v n xs ∧ ∀ k, v.ownBlock = some k → S k
section
variable {W W' : World} {S T : Nat → Prop} {e : TypeId} {s : Nat} {v : Value} {n : Nat} {xs : List Value}
theorem OwnS.mono (h : OwnS W S e s v n xs) (hs : ∀ k, S k → T k) : OwnS W T e s v n xs := ⟨h.1, fun k hk => hs k (h.2 k hk)⟩
theorem OwnS.off (h : OwnS W S e s v n xs) (ho : Off T W W') (hd : ∀ k, v.ownBlock = some k → ¬ T k) : OwnS W' S e s v n xs := by
  refine ⟨⟨h.1.1, h.1.2.imp id ?_⟩, h.2⟩
  rintro ⟨g, cap, cur, rfl, hb, hg, r⟩
  exact ⟨g, cap, cur, rfl, hb, ho.keep (hd g rfl) hg, r⟩
theorem OwnS.nil (W : World) (S : Nat → Prop) (e : TypeId) (s : Nat) : OwnS W S e s (.slice none 0 0) 0 [] := ⟨World.ownsRow_nil _ _ _ _, fun k hk => by cases hk⟩
/-- What is known of a row whose value is written out. -/
theorem own_row {g cap : Nat} (h : W.ownsRow 0 e s (.slice (some ⟨g, 0, none⟩) n cap) n xs) : ∃ cur : Array Value, W.heap[g]? = some (.cells cur e (0, 0)) ∧ n ≤ cap ∧ cap ≤ maxLen ∧ cur.size = cap * s ∧ cur.toList.take (n * s) = xs ∧ xs.length = n * s := by
  obtain ⟨h1, h2⟩ := h
  rcases h2 with ⟨h2, _⟩ | ⟨g', cap', cur, hv, hb, hg, a, b, c, d⟩
  · cases h2
  · injection hv with h4 h5 h6
    injection h4 with h4
    injection h4 with h4
    have h6 : cap = cap' := by omega
    subst h4
    subst h6
    exact ⟨cur, hg, a, b, c, d, h1⟩
theorem own_range {g cap : Nat} (h : W.ownsRow 0 e s (.slice (some ⟨g, 0, none⟩) n cap) n xs) : W.rangeAt g 0 xs := by
  obtain ⟨cur, hg, _, _, _, hd, _⟩ := own_row h
  intro j u hj
  rw [Nat.zero_add, cell_of_row _ _ _ _ _ _ hg]
  rw [← hd, List.getElem?_take] at hj
  split at hj
  · simpa using hj
  · cases hj
theorem own_free {g cap : Nat} (h : W.ownsRow 0 e s (.slice (some ⟨g, 0, none⟩) n cap) n xs) (k : Nat) : W.frozen? ⟨g, k, none⟩ = false := by
  obtain ⟨cur, hg, _⟩ := own_row h
  exact frozen_of_row _ _ _ _ _ hg
theorem own_lt' {g cap : Nat} (h : W.ownsRow 0 e s (.slice (some ⟨g, 0, none⟩) n cap) n xs) : g < W.heap.size := by
  obtain ⟨cur, hg, _⟩ := own_row h
  exact (Array.getElem?_eq_some_iff.1 hg).1
theorem own_set {g cap k : Nat} (h : W.ownsRow 0 e s (.slice (some ⟨g, 0, none⟩) n cap) n xs) (u : Value) : (W.setCell ⟨g, k, none⟩ u).ownsRow 0 e s (.slice (some ⟨g, 0, none⟩) n cap) n (xs.set k u) := by
  obtain ⟨cur, hg, a, b, c, d, h1⟩ := own_row h
  refine ⟨by simpa using h1, .inr ⟨g, cap, cur.setIfInBounds k u, rfl, Nat.zero_le _, set_row hg, a, b, by simpa using c, ?_⟩⟩
  rw [Array.toList_setIfInBounds, List.take_set, d]
theorem own_puts {g cap : Nat} : ∀ (l : List Value) (k : Nat) {W : World} {xs : List Value}, W.ownsRow 0 e s (.slice (some ⟨g, 0, none⟩) n cap) n xs → (W.setCells g k l).ownsRow 0 e s (.slice (some ⟨g, 0, none⟩) n cap) n (putL xs.toArray k l).toList
  | [], _, _, _, h => by simpa [putL, World.setCells] using h
  | v :: r, k, W, xs, h => by
    have := own_puts r (k + 1) (own_set (k := k) h v)
    simpa [putL, World.setCells] using this
/-- A shorter slice of the row. -/
theorem own_take {g cap m : Nat} (h : W.ownsRow 0 e s (.slice (some ⟨g, 0, none⟩) n cap) n xs) (hm : m ≤ n) : W.ownsRow 0 e s (.slice (some ⟨g, 0, none⟩) m cap) m (xs.take (m * s)) := by
  obtain ⟨cur, hg, a, b, c, d, h1⟩ := own_row h
  have hle : m * s ≤ n * s := Nat.mul_le_mul_right _ hm
  refine ⟨by rw [List.length_take, h1]; omega, .inr ⟨g, cap, cur, rfl, Nat.zero_le _, hg, by omega, b, c, ?_⟩⟩
  rw [← d, List.take_take]
  congr 1
  omega
end
/-! ## Lists of structs as cells -/
section
variable {α : Type} (f : α → List Value) (k : Nat) (hk : ∀ x, (f x).length = k)
include hk
theorem flat_len : ∀ l : List α, (l.flatMap f).length = l.length * k
  | [] => by simp
  | a :: t => by rw [List.flatMap_cons, List.length_append, hk, flat_len t, List.length_cons, Nat.add_mul, Nat.one_mul, Nat.add_comm]
theorem flat_take : ∀ (l : List α) (m : Nat), (l.flatMap f).take (m * k) = (l.take m).flatMap f
  | [], m => by simp
  | a :: t, 0 => by simp
  | a :: t, m + 1 => by
    rw [List.flatMap_cons, List.take_succ_cons, List.flatMap_cons, Nat.add_mul, Nat.one_mul, Nat.add_comm, List.take_append, hk, List.take_of_length_le (by rw [hk]; omega), Nat.add_sub_cancel_left, flat_take t m]
theorem flat_set : ∀ (l : List α) (i j : Nat) (x y : α) (u : Value), l[i]? = some x → j < k → f y = (f x).set j u → (l.flatMap f).set (i * k + j) u = (l.set i y).flatMap f
  | [], i, j, x, y, u, h, _, _ => by simp at h
  | a :: t, 0, j, x, y, u, h, hj, he => by
    simp at h
    subst h
    rw [List.flatMap_cons, List.set_cons_zero, List.flatMap_cons, Nat.zero_mul, Nat.zero_add, List.set_append_left _ _ (by rw [hk]; exact hj), he]
  | a :: t, i + 1, j, x, y, u, h, hj, he => by
    rw [List.flatMap_cons, List.set_cons_succ, List.flatMap_cons, List.set_append_right _ _ (by rw [hk, Nat.add_mul]; omega), hk, show (i + 1) * k + j - k = i * k + j by rw [Nat.add_mul]; omega, flat_set t i j x y u (by simpa using h) hj he]
theorem flat_puts (l : List α) (i : Nat) (y : α) (hi : i < l.length) : (putL (l.flatMap f).toArray (i * k) (f y)).toList = (l.set i y).flatMap f := by
  have hlen := flat_len f k hk l
  have hle : (i + 1) * k ≤ l.length * k := Nat.mul_le_mul_right _ hi
  rw [Nat.add_mul, Nat.one_mul] at hle
  rw [putL_toList _ _ _ (by simp [hk, hlen]; omega), hk]
  simp only [List.toList_toArray]
  rw [flat_take f k hk l i, show i * k + k = (i + 1) * k by rw [Nat.add_mul, Nat.one_mul]]
  have hdrop : (l.flatMap f).drop ((i + 1) * k) = (l.drop (i + 1)).flatMap f := by
    have h1 := List.take_append_drop ((i + 1) * k) (l.flatMap f)
    rw [flat_take f k hk l (i + 1)] at h1
    have h2 : (l.take (i + 1)).flatMap f ++ (l.drop (i + 1)).flatMap f = l.flatMap f := by rw [← List.flatMap_append, List.take_append_drop]
    exact List.append_cancel_left (h1.trans h2.symm)
  rw [hdrop, List.set_eq_take_append_cons_drop, if_pos hi, List.flatMap_append, List.flatMap_cons]
  simp
theorem flat_range {W : World} {g o : Nat} {l : List α} (h : W.rangeAt g o (l.flatMap f)) (i : Nat) (x : α) (hx : l[i]? = some x) : W.rangeAt g (o + i * k) (f x) := by
  intro j u hj
  have hjl := (List.getElem?_eq_some_iff.1 hj).1
  have hc := flat_at f k hk l i j x hx (by rw [← hk x]; exact hjl)
  rw [hj] at hc
  have := h (i * k + j) u hc
  rwa [← Nat.add_assoc] at this
end
end Go.Proofs.YtnmbbnhgoedjgaaGreatDoor.Fm0
/- The law ConfNames, walked. -/
namespace Go.Proofs.YtnmbbnhgoedjgaaGreatDoor.Ck8
open Go Go.RowKit Go.Proofs.YtnmbbnhgoedjgaaGreatDoor.B0 Go.Proofs.YtnmbbnhgoedjgaaGreatDoor.B2 Go.Proofs.YtnmbbnhgoedjgaaGreatDoor.Ad0 Go.Proofs.YtnmbbnhgoedjgaaGreatDoor.Ad1 Go.Proofs.YtnmbbnhgoedjgaaGreatDoor.Ad2 Go.Proofs.YtnmbbnhgoedjgaaGreatDoor.St0 Go.Proofs.YtnmbbnhgoedjgaaGreatDoor.St1 Go.Proofs.YtnmbbnhgoedjgaaGreatDoor.St2 Go.Proofs.YtnmbbnhgoedjgaaGreatDoor.B1 Go.Proofs.YtnmbbnhgoedjgaaGreatDoor.Ad3 Go.Proofs.YtnmbbnhgoedjgaaGreatDoor.St3 Go.Proofs.YtnmbbnhgoedjgaaGreatDoor.St4 Go.Proofs.YtnmbbnhgoedjgaaGreatDoor.St5 Go.Proofs.YtnmbbnhgoedjgaaGreatDoor.St6 Go.Proofs.YtnmbbnhgoedjgaaGreatDoor.St7 Go.Proofs.YtnmbbnhgoedjgaaGreatDoor.St8 Go.Proofs.YtnmbbnhgoedjgaaGreatDoor.St9 Go.Proofs.YtnmbbnhgoedjgaaGreatDoor.StC Go.Proofs.YtnmbbnhgoedjgaaGreatDoor.StA Go.Proofs.YtnmbbnhgoedjgaaGreatDoor.Ru0 Go.Proofs.YtnmbbnhgoedjgaaGreatDoor.Ru1 Go.Proofs.YtnmbbnhgoedjgaaGreatDoor.Ru2 Go.Proofs.YtnmbbnhgoedjgaaGreatDoor.Ru3 Go.Proofs.YtnmbbnhgoedjgaaGreatDoor.Ru4 Go.Proofs.YtnmbbnhgoedjgaaGreatDoor.Ru5 Go.Proofs.YtnmbbnhgoedjgaaGreatDoor.Ru6 Go.Proofs.YtnmbbnhgoedjgaaGreatDoor.Ru7 Go.Proofs.YtnmbbnhgoedjgaaGreatDoor.Ru8 Go.Proofs.YtnmbbnhgoedjgaaGreatDoor.Ru9 Go.Proofs.YtnmbbnhgoedjgaaGreatDoor.RuA Go.Proofs.YtnmbbnhgoedjgaaGreatDoor.Cf3 Go.Proofs.YtnmbbnhgoedjgaaGreatDoor.RuB Go.Proofs.YtnmbbnhgoedjgaaGreatDoor.RuC Go.Proofs.YtnmbbnhgoedjgaaGreatDoor.RuD Go.Proofs.YtnmbbnhgoedjgaaGreatDoor.RuE Go.Proofs.YtnmbbnhgoedjgaaGreatDoor.RuF Go.Proofs.YtnmbbnhgoedjgaaGreatDoor.RuG Go.Proofs.YtnmbbnhgoedjgaaGreatDoor.RuH Go.Proofs.YtnmbbnhgoedjgaaGreatDoor.RuI Go.Proofs.YtnmbbnhgoedjgaaGreatDoor.RuQ Go.Proofs.YtnmbbnhgoedjgaaGreatDoor.RuR Go.Proofs.YtnmbbnhgoedjgaaGreatDoor.RuVa Go.Proofs.YtnmbbnhgoedjgaaGreatDoor.RuS Go.Proofs.YtnmbbnhgoedjgaaGreatDoor.RuJ Go.Proofs.YtnmbbnhgoedjgaaGreatDoor.Cf4 Go.Proofs.YtnmbbnhgoedjgaaGreatDoor.CgQ Go.Proofs.YtnmbbnhgoedjgaaGreatDoor.CgR Go.Proofs.YtnmbbnhgoedjgaaGreatDoor.Cf5 Go.Proofs.YtnmbbnhgoedjgaaGreatDoor.Cg4 Go.Proofs.YtnmbbnhgoedjgaaGreatDoor.Cf6 Go.Proofs.YtnmbbnhgoedjgaaGreatDoor.Cf8 Go.Proofs.YtnmbbnhgoedjgaaGreatDoor.CfA Go.Proofs.YtnmbbnhgoedjgaaGreatDoor.Cf9 Go.Proofs.YtnmbbnhgoedjgaaGreatDoor.Rw0 Go.Proofs.YtnmbbnhgoedjgaaGreatDoor.Rw1 Go.Proofs.YtnmbbnhgoedjgaaGreatDoor.Rw2 Go.Proofs.YtnmbbnhgoedjgaaGreatDoor.RuT Go.Proofs.YtnmbbnhgoedjgaaGreatDoor.RuW Go.Proofs.YtnmbbnhgoedjgaaGreatDoor.RuY Go.Proofs.YtnmbbnhgoedjgaaGreatDoor.RuYa Go.Proofs.YtnmbbnhgoedjgaaGreatDoor.RuZ Go.Proofs.YtnmbbnhgoedjgaaGreatDoor.Cf0 Go.Proofs.YtnmbbnhgoedjgaaGreatDoor.Cg0 Go.Proofs.YtnmbbnhgoedjgaaGreatDoor.RwO Go.Proofs.YtnmbbnhgoedjgaaGreatDoor.CkO Go.Proofs.YtnmbbnhgoedjgaaGreatDoor.RuX Go.Proofs.YtnmbbnhgoedjgaaGreatDoor.CgM Go.Proofs.YtnmbbnhgoedjgaaGreatDoor.Cg1 Go.Proofs.YtnmbbnhgoedjgaaGreatDoor.Ch4 Go.Proofs.YtnmbbnhgoedjgaaGreatDoor.Ch7 Go.Proofs.YtnmbbnhgoedjgaaGreatDoor.Ch1 Go.Proofs.YtnmbbnhgoedjgaaGreatDoor.Ch2 Go.Proofs.YtnmbbnhgoedjgaaGreatDoor.Cf1 Go.Proofs.YtnmbbnhgoedjgaaGreatDoor.CgP Go.Proofs.YtnmbbnhgoedjgaaGreatDoor.Cg5 Go.Proofs.YtnmbbnhgoedjgaaGreatDoor.CgB Go.Proofs.YtnmbbnhgoedjgaaGreatDoor.CgL Go.Proofs.YtnmbbnhgoedjgaaGreatDoor.Ch8 Go.Proofs.YtnmbbnhgoedjgaaGreatDoor.Ch9 Go.Proofs.YtnmbbnhgoedjgaaGreatDoor.Cha Go.Proofs.YtnmbbnhgoedjgaaGreatDoor.Chb Go.Proofs.YtnmbbnhgoedjgaaGreatDoor.Chc Go.Proofs.YtnmbbnhgoedjgaaGreatDoor.Ck1 Go.Proofs.YtnmbbnhgoedjgaaGreatDoor.Ck2 Go.Proofs.YtnmbbnhgoedjgaaGreatDoor.Cg2 Go.Proofs.YtnmbbnhgoedjgaaGreatDoor.Cg8 Go.Proofs.YtnmbbnhgoedjgaaGreatDoor.Cg9 Go.Proofs.YtnmbbnhgoedjgaaGreatDoor.Cg6 Go.Proofs.YtnmbbnhgoedjgaaGreatDoor.Ch5 Go.Proofs.YtnmbbnhgoedjgaaGreatDoor.CgW Go.Proofs.YtnmbbnhgoedjgaaGreatDoor.CgS Go.Proofs.YtnmbbnhgoedjgaaGreatDoor.CgC Go.Proofs.YtnmbbnhgoedjgaaGreatDoor.Cg7 Go.Proofs.YtnmbbnhgoedjgaaGreatDoor.Chg Go.Proofs.YtnmbbnhgoedjgaaGreatDoor.Chp Go.Proofs.YtnmbbnhgoedjgaaGreatDoor.Hr Go.Proofs.YtnmbbnhgoedjgaaGreatDoor.RuN Go.Proofs.YtnmbbnhgoedjgaaGreatDoor.RuO Go.Proofs.YtnmbbnhgoedjgaaGreatDoor.CgV Go.Proofs.YtnmbbnhgoedjgaaGreatDoor.CgT Go.Proofs.YtnmbbnhgoedjgaaGreatDoor.Cf2 Go.Proofs.YtnmbbnhgoedjgaaGreatDoor.RuU Go.Proofs.YtnmbbnhgoedjgaaGreatDoor.CgU Go.Proofs.YtnmbbnhgoedjgaaGreatDoor.Ck0 Go.Proofs.YtnmbbnhgoedjgaaGreatDoor.Ck4 Go.Proofs.YtnmbbnhgoedjgaaGreatDoor.Ck5 Go.Proofs.YtnmbbnhgoedjgaaGreatDoor.Ck3 Go.Proofs.YtnmbbnhgoedjgaaGreatDoor.Ck7 Go.Proofs.YtnmbbnhgoedjgaaGreatDoor.Fm0
set_option linter.unusedVariables false
set_option linter.unusedSimpArgs false

theorem and_1023 (n : Int) : ∃ A : Nat, A < 1024 ∧ bits .and .i64 n 1023 = (A : Int) := by
  refine ⟨(n % 1024).toNat, by omega, ?_⟩
  unfold bits
  show IntKind.i64.wrap (((BitVec.ofInt 64 n) &&& (BitVec.ofInt 64 1023)).toNat : Int) = ((n % 1024).toNat : Int)
  have h : ((BitVec.ofInt 64 n) &&& (BitVec.ofInt 64 1023)).toNat = (n % 1024).toNat := by
    rw [BitVec.toNat_and, BitVec.toNat_ofInt, show (BitVec.ofInt 64 1023).toNat = 2 ^ 10 - 1 from by decide, Nat.and_two_pow_sub_one_eq_mod]
    have : ((n % ((2 ^ 64 : Nat) : Int)).toNat : Int) = n % 18446744073709551616 := by
      rw [Int.toNat_of_nonneg (Int.emod_nonneg _ (by decide))]; rfl
    omega
  rw [h]
  have : (n % 1024).toNat < 1024 := by omega
  generalize (n % 1024).toNat = m at this
  simp [IntKind.wrap, IntKind.signed, IntKind.bits]
  omega
/-- A configuration in which an interface bears another one's name. -/
def nameM (c : ConfM) (a : Nat) (x y : IfaceM) : ConfM := { c with ifaces := c.ifaces.set a { x with name := y.name } }
theorem name_same (c : ConfM) (a : Nat) (x : IfaceM) (hx : c.ifaces[a]? = some x) : nameM c a x x = c := by
  unfold nameM
  have : c.ifaces.set a { x with name := x.name } = c.ifaces := by
    apply List.ext_getElem?
    intro i
    rw [List.getElem?_set]
    split
    · rename_i e
      subst e
      have hl := (List.getElem?_eq_some_iff.1 hx).1
      rw [if_pos hl, hx]
    · rfl
  rw [this]
theorem name_two (c : ConfM) (a b : Nat) (x y : IfaceM) (hx : c.ifaces[a]? = some x) (hy : c.ifaces[b]? = some y) (hab : a ≠ b) : (checkC (nameM c a x y)).1 = 2 ∨ (checkC (nameM c a x y)).1 = 8 := by
  have hl := (List.getElem?_eq_some_iff.1 hx).1
  refine names_told (nameM c a x y) a b hab { x with name := y.name } y ?_ ?_ rfl
  · show (c.ifaces.set a _)[a]? = _
    rw [List.getElem?_set_self hl]
  · show (c.ifaces.set a _)[b]? = _
    rw [List.getElem?_set_ne hab]
    exact hy
theorem name_fit (c : ConfM) (a b : Nat) (x y : IfaceM) (hx : c.ifaces[a]? = some x) (hy : c.ifaces[b]? = some y) (hf : FitC c) (hi : isC0 c = true) : FitC (nameM c a x y) := by
  have mem : ∀ z ∈ c.ifaces.set a { x with name := y.name }, z ∈ c.ifaces ∨ z = { x with name := y.name } := fun z hz => List.mem_or_eq_of_mem_set hz
  have hxm := List.mem_of_getElem? hx
  have hym := List.mem_of_getElem? hy
  refine ⟨⟨fun z hz => ?_, hf.ok.bogons, hf.ok.tables, hf.ok.rules⟩, by show (c.ifaces.set a _).length ≤ _; rw [List.length_set]; exact hf.ni, hf.nb, hf.nt, hf.nr, fun z hz => ?_, hf.tl, fun _ => hf.sm hi⟩
  · rcases mem z hz with h | rfl
    · exact hf.ok.ifaces z h
    · exact hf.ok.ifaces x hxm
  · rcases mem z hz with h | rfl
    · exact hf.il z h
    · exact hf.il y hym
theorem row_grown {V U w1 : World} {row : Option Nat} {g : Nat} {o : Obj} (hU : Below V.heap.size V U) (hg : U.grownBy w1 row) (h : V.heap[g]? = some o) (hne : some g ≠ row) : w1.heap[g]? = some o := by
  have h1 := (hU.block g (Array.getElem?_eq_some_iff.1 h).1).trans h
  exact (hg.block g (Array.getElem?_eq_some_iff.1 h1).1 hne).trans h1
theorem own_empty (V : World) (e : TypeId) (s : Nat) : (V.alloc (.cells #[] e)).ownsRow 0 e s (.slice (some ⟨V.heap.size, 0, none⟩) (0 : Nat) (0 : Nat)) 0 [] :=
  ⟨by simp, .inr ⟨V.heap.size, 0, #[], rfl, Nat.zero_le _, heap_alloc_new V _, Nat.le_refl _, Nat.zero_le _, by simp, by simp⟩⟩
theorem if_row : (Tryz.prog.info? 45).map (fun i => (i.zero, i.size, i.bytes)) = some (some (.agg #[.string ⟨#[]⟩, .int .u32 0, .int .i64 0, .int .i64 0, .int .i64 0]), 5, 48) := by kernel_rfl
theorem if_one (l : List IfaceM) : ∀ u ∈ l.flatMap ifL, u.oneCell' = true := by
  intro u hu
  obtain ⟨x, hx, hu⟩ := List.mem_flatMap.1 hu
  simp [ifL] at hu
  rcases hu with rfl | rfl | rfl | rfl | rfl <;> rfl
/-- What the walk keeps ahead of the name's writing. -/
structure NmA (W : World) (cs : Array Value) (c : ConfM) (xd gg cp : Nat) (w : World) : Prop where
  pr : PrT W cs w
  box : w.heap[xd]? = some (Obj.cells (cs.setIfInBounds 0 (.slice (some ⟨gg, 0, none⟩) c.ifaces.length cp)) 27 (0, 0))
  own : w.ownsRow 0 45 5 (.slice (some ⟨gg, 0, none⟩) c.ifaces.length cp) c.ifaces.length (c.ifaces.flatMap ifL)
  g1 : gg ≠ xd
  g2 : W.heap.size < gg
  g3 : W.heap.size < xd
theorem NmA.make {W w3 V w7 : World} {cs : Array Value} {c : ConfM} {gg cp : Nat} {T : TypeId} (hp : PrT W cs V) (hd : V.heap[w3.heap.size]? = some (Obj.cells cs 27 (0, 0))) (hw : W.heap.size < w3.heap.size) (hv : w3.heap.size < V.heap.size)
    (ho : w7.ownsRow 0 45 5 (.slice (some ⟨gg, 0, none⟩) (0 + c.ifaces.length : Nat) cp) (0 + c.ifaces.length) ([] ++ c.ifaces.flatMap ifL)) (hg : (V.alloc (.cells #[] T)).grownBy w7 (some V.heap.size)) (hat : some V.heap.size = some gg ∨ gg = V.heap.size + 1) :
    NmA W cs c w3.heap.size gg cp (w7.setCell ⟨w3.heap.size, 0, none⟩ (.slice (some ⟨gg, 0, none⟩) c.ifaces.length cp)) ∧ w7.heap[w3.heap.size]? = some (Obj.cells cs 27 (0, 0)) := by
  rw [Nat.zero_add, List.nil_append] at ho
  have hgg : V.heap.size ≤ gg := by rcases hat with e | e; cases e; exact Nat.le_refl _; omega
  have h7 : Below V.heap.size V w7 := (bnew V _).trans ⟨hg.os, hg.tape, hg.output, hg.size, fun i hi => hg.block i (by simp; omega) (fun e => by cases e; omega)⟩
  have hd7 := (h7.block _ hv).trans hd
  have hp7 := hp.below h7
  have hoff := Below.heap_setCell w7 ⟨w3.heap.size, 0, none⟩ (.slice (some ⟨gg, 0, none⟩) c.ifaces.length cp)
  refine ⟨⟨⟨(hoff _ (by show W.heap.size ≠ w3.heap.size; omega)).trans hp7.box, hp7.low.setCell (by show W.heap.size ≤ w3.heap.size; omega) _, by simpa [World.setCell] using hp7.lt⟩, Mem.set_row hd7, ?_, by omega, by omega, hw⟩, hd7⟩
  exact (OwnS.off (S := fun _ => True) (T := fun k => k = w3.heap.size) ⟨ho, fun _ _ => trivial⟩ (Off.setCell (S := fun k => k = w3.heap.size) w7 rfl _) fun k hk e => by obtain rfl : gg = k := Option.some.inj hk; omega).1
/-- .. and behind it. -/
structure NmB (W : World) (cs : Array Value) (c : ConfM) (xd gg cp : Nat) (w : World) : Prop where
  pr : PrT W cs w
  box : w.heap[xd]? = some (Obj.cells (cs.setIfInBounds 0 (.slice (some ⟨gg, 0, none⟩) c.ifaces.length cp)) 27 (0, 0))
  own : Sl w (.slice (some ⟨gg, 0, none⟩) c.ifaces.length cp) c.ifaces.length (c.ifaces.flatMap ifL)
theorem NmB.below {W : World} {cs : Array Value} {c : ConfM} {xd gg cp : Nat} {w w' : World} (h : NmB W cs c xd gg cp w) (hb : Below w.heap.size w w') : NmB W cs c xd gg cp w' :=
  ⟨h.pr.below hb, (hb.block _ (Array.getElem?_eq_some_iff.1 h.box).1).trans h.box, h.own.below hb⟩
theorem NmA.name {W : World} {cs : Array Value} {c : ConfM} {xd gg cp : Nat} {w : World} (h : NmA W cs c xd gg cp w) (a : Nat) (x y : IfaceM) (hx : c.ifaces[a]? = some x) :
    NmB W cs (nameM c a x y) xd gg cp (w.drew.setCell ⟨gg, a * 5, none⟩ (.string ⟨y.name.toArray⟩)) := by
  have hlen : (nameM c a x y).ifaces.length = c.ifaces.length := by show (c.ifaces.set a _).length = _; rw [List.length_set]
  have hoff := Below.heap_setCell w.drew ⟨gg, a * 5, none⟩ (.string ⟨y.name.toArray⟩)
  refine ⟨⟨(hoff _ (Nat.ne_of_lt h.g2)).trans h.pr.box, h.pr.low.drew.setCell (Nat.le_of_lt h.g2) _, by simpa [World.setCell] using h.pr.lt⟩, (hoff _ (Ne.symm h.g1)).trans (by rw [hlen]; exact h.box), ?_⟩
  have hd : w.drew.ownsRow 0 45 5 (.slice (some ⟨gg, 0, none⟩) c.ifaces.length cp) c.ifaces.length (c.ifaces.flatMap ifL) := h.own
  have h1 := own_set (k := a * 5) hd (.string ⟨y.name.toArray⟩)
  have h2 := flat_set ifL 5 ifL_len c.ifaces a 0 x { x with name := y.name } (.string ⟨y.name.toArray⟩) hx (by decide) rfl
  rw [Nat.add_zero] at h2
  rw [h2] at h1
  rw [hlen]
  exact own_sl h1
set_option maxRecDepth 100000 in
set_option maxHeartbeats 8000000 in
theorem names_walk (HI : IsIfaceSaid) (HPr : PrintedSaid) (KPR : RPrintSaid) (c : ConfM) (v0 v1 v2 v3 : Value) (ts : List (NamedM × Value)) (i k : Int) (W : World) (h : ConfIn W v0 v1 v2 v3 ts c) (hw : WideC c) (hl : LibOK W) :
    Calls Tryz.prog 6 #[.agg (confC v0 v1 v2 v3 c), .int .i64 i, .int .i64 k] W fun e w' => e = .returned (.bool true) ∧ Below W.heap.size W w' := by
  obtain ⟨A0, cap0, rfl, hcap0, hA0⟩ := h.ifaces
  have KH := Lib.hid (fun W' (hb : Below W.heap.size W W') => heavy_any c (.slice A0 c.ifaces.length cap0) v1 v2 v3 ts W' (h.below hb) hw)
  have HN6 := Lib.hid (Cg2.info6 (.slice A0 c.ifaces.length cap0) v1 v2 v3 c)
  have HP : Hid (PrT W (confC (.slice A0 c.ifaces.length cap0) v1 v2 v3 c) (W.alloc (.cells (confC (.slice A0 c.ifaces.length cap0) v1 v2 v3 c) 27))) := ⟨heap_alloc_new W _, bnew W _, by simp⟩
  have K1 := Lib.hid (fun (hf : FitC c) W' (hb : Below W.heap.size W W') => print_conf HI HPr c (.slice A0 c.ifaces.length cap0) v1 v2 v3 ts W' (h.below hb) hf (hl.below hb))
  have K6 := Lib.hid (fun (hf : FitC c) W' (hb : Below W.heap.size W W') => rcheck_conf KPR c (.slice A0 c.ifaces.length cap0) v1 v2 v3 ts W' (h.below hb) hf (hl.below hb))
  have K8 := Lib.hid (fun (hf : FitC c) W' (hb : Below W.heap.size W W') u0 u1 u2 u3 us (h' : ConfIn W' u0 u1 u2 u3 us c) => by
    have h1 := rsame_conf c c (.slice A0 c.ifaces.length cap0) v1 v2 v3 u0 u1 u2 u3 ts us W' (h.below hb) h' hf hf
    rw [show decide (c = c) = true by simp] at h1
    exact h1)
  have K9 := Lib.hid (fun W' (hb : Below W.heap.size W W') => known_any HI HPr W' (hl.below hb))
  have HF := Lib.hid (light_fit c hw)
  unfold checkV at K6
  have HZ := Lib.hid (check_none c)
  obtain ⟨cs, hcs⟩ : ∃ cs, cs = confC (.slice A0 c.ifaces.length cap0) v1 v2 v3 c := ⟨_, rfl⟩
  have HC0 := Lib.hid (show cs[0]? = some (.slice A0 c.ifaces.length cap0) by rw [hcs]; rfl)
  have HH := Lib.hid h
  rw [← hcs] at KH HN6 HP K1 K6 K8 ⊢
  have HCS := Lib.hid hcs
  have hni := hw.ni
  have HW := Lib.hid hw
  have HL := Lib.hid hl
  have HA := Lib.hid hA0
  clear h hw hl hcs hA0
  cases hx : Ck1.heavyF c with
  | true =>
    rw [hx] at KH
    go_enter Tryz.func6, Tryz.ntmps6
    go_wp2_with (first
      | ((with_reducible refine Mem.load_row W.heap.size ?_ HP.out.box Tryz.underlying27 HN6.out ?_ ?_); rfl; rfl)
      | (go_at_call 13; (with_reducible refine (KH.out _ HP.out.low).mono ?_); rintro e w1 ⟨rfl, hb1⟩; have HP := Lib.hid (HP.out.below hb1); clear hb1))
    go_ret
    exact ⟨rfl, HP.out.low⟩
  | false =>
  have HF := Lib.hid (HF.out hx)
  rw [hx] at KH
  have c0 := HP.out.cell HC0.out
  by_cases hn2 : c.ifaces.length < 2
  · have hn2' : (c.ifaces.length : Int) < 2 := by omega
    go_enter Tryz.func6, Tryz.ntmps6
    go_wp2_with (first
      | ((with_reducible refine Mem.load_row W.heap.size ?_ HP.out.box Tryz.underlying27 HN6.out ?_ ?_); rfl; rfl)
      | (go_at_call 13; (with_reducible refine (KH.out _ HP.out.low).mono ?_); rintro e w1 ⟨rfl, hb1⟩; have HP := Lib.hid (HP.out.below hb1); have c0 := HP.out.cell HC0.out; clear hb1))
    go_ret
    exact ⟨rfl, HP.out.low⟩
  have hn2' : ¬ (c.ifaces.length : Int) < 2 := by omega
  have K6 := Lib.hid (K6.out HF.out)
  cases hz : ((checkC c).1 != 0) with
  | true =>
    generalize (checkC c).1 = ce at *
    generalize (⟨(checkC c).2.toArray⟩ : ByteArray) = cz at *
    go_enter Tryz.func6, Tryz.ntmps6
    go_wp2_with (first
      | ((with_reducible refine Mem.load_row W.heap.size ?_ HP.out.box Tryz.underlying27 HN6.out ?_ ?_); rfl; rfl)
      | (go_at_call 13; (with_reducible refine (KH.out _ HP.out.low).mono ?_); rintro e w1 ⟨rfl, hb1⟩; have HP := Lib.hid (HP.out.below hb1); have c0 := HP.out.cell HC0.out; clear hb1)
      | (go_at_call 14; (with_reducible refine (K6.out _ HP.out.low).mono ?_); rintro e w2 ⟨rfl, hb1⟩; have HP := Lib.hid (HP.out.below hb1); clear hb1)
      | (go_at_call 12; (with_reducible refine (K9.out _ HP.out.low).mono ?_); rintro e w9 ⟨rfl, hb1⟩; have HP := Lib.hid (HP.out.below hb1); clear hb1))
    go_ret
    exact ⟨rfl, HP.out.low⟩
  | false =>
  have hz : (checkC c).1 = 0 := by simpa using hz
  have HZ := HZ.out hz
  have hc0 : isC0 c = true := by have := HZ.2; rw [isC_split, Bool.and_eq_true] at this; exact this.1
  have h8 := (isC0_facts c hc0).i1
  rw [hz] at K6
  generalize (⟨(checkC c).2.toArray⟩ : ByteArray) = cz at *
  obtain ⟨A, hA1, hA2⟩ := and_1023 i
  obtain ⟨B, hB1, hB2⟩ := and_1023 k
  obtain ⟨a, ha⟩ : ∃ a, a = A % c.ifaces.length := ⟨_, rfl⟩
  obtain ⟨b, hb⟩ : ∃ b, b = B % c.ifaces.length := ⟨_, rfl⟩
  have hal : a < c.ifaces.length := by rw [ha]; exact Nat.mod_lt _ (by omega)
  have hbl : b < c.ifaces.length := by rw [hb]; exact Nat.mod_lt _ (by omega)
  have HAe := Lib.hid (show (A : Int).tmod c.ifaces.length = (a : Nat) by rw [ha]; rfl)
  have HBe := Lib.hid (show (B : Int).tmod c.ifaces.length = (b : Nat) by rw [hb]; rfl)
  have HA2 := Lib.hid hA2
  have HB2 := Lib.hid hB2
  obtain ⟨i0, hi0, hz0, hz1, hz2⟩ := info_parts if_row
  obtain ⟨b0, o0, rfl, hb0, hr0⟩ : ∃ b0 o0, A0 = some ⟨b0, o0, none⟩ ∧ b0 < W.heap.size ∧ W.rangeAt b0 o0 (c.ifaces.flatMap ifL) := HA.out.resolve_left (by rintro ⟨h1, -⟩; omega)
  have HNW := Lib.hid (fun V (hV : Below W.heap.size W V) j u (hj : (c.ifaces.flatMap ifL)[j]? = some u) => show V.cell? ((⟨b0, o0, none⟩ : Addr).add j) = some u from by rw [Addr.add_mid]; exact range_below hr0 hV hb0 j u hj)
  have HSz := Lib.hid (show cs.size = 6 by rw [HCS.out]; rfl)
  have HO := Lib.hid (show cs.all (·.oneCell') = true by rw [HCS.out]; exact conf_one HH.out c)
  clear ha hb hA2 hB2 hz hr0
  go_enter Tryz.func6, Tryz.ntmps6
  go_wp2_with (first
    | ((with_reducible refine Mem.load_row W.heap.size ?_ HP.out.box Tryz.underlying27 HN6.out ?_ ?_); rfl; rfl)
    | (go_at_call 13; (with_reducible refine (KH.out _ HP.out.low).mono ?_); rintro e w1 ⟨rfl, hb1⟩; have HP := Lib.hid (HP.out.below hb1); have c0 := HP.out.cell HC0.out; clear hb1)
    | (go_at_call 14; (with_reducible refine (K6.out _ HP.out.low).mono ?_); rintro e w2 ⟨rfl, hb1⟩; have HP := Lib.hid (HP.out.below hb1); have c0 := HP.out.cell HC0.out; clear hb1))
  have hA2 := HA2.out
  have hB2 := HB2.out
  have hAe := HAe.out
  have hBe := HBe.out
  have hn0 : ((c.ifaces.length : Int) == 0) = false := by rw [beq_eq_false_iff_ne]; omega
  go_quiet (fail)
  clear hA2 hB2 hAe hBe hn0
  have HP := Lib.hid (HP.out.below (bdrewN (Below.refl _ _) nq))
  obtain ⟨w3, hw3⟩ : ∃ w3, w3 = w2.drewN nq := ⟨_, rfl⟩
  rw [← hw3] at HP ⊢
  have c0 := HP.out.cell HC0.out
  have HPl := Lib.hid HP.out.lt
  clear hw3
  go_wp2_with (first
    | ((with_reducible refine Mem.load_row W.heap.size ?_ HP.out.box Tryz.underlying27 HN6.out ?_ ?_); rfl; rfl)
    | ((with_reducible refine store_new cs ?_ ?_ ?_ HN6.out HO.out ?_ ?_); rfl; rfl; (rw [HSz.out]; rfl); rfl; intro V hV hbV hlV; have HP := Lib.hid (HP.out.below hbV); have HD := Lib.hid hV; have HLV := Lib.hid hlV; have c0 := HP.out.cell HC0.out; have hwV := HP.out.lt; clear hV hbV)
    | (at_builtin; refine wpList_append_lies _ rfl _ _ 22 rfl 0 45 i0 _ 5 48 Tryz.underlying22 hi0 hz0 hz1 hz2 rfl (by omega) (.slice (some ⟨V.heap.size, 0, none⟩) (0 : Nat) (0 : Nat)) 0 [] rfl (own_empty V _ _) ⟨b0, o0, none⟩ c.ifaces.length cap0 (c.ifaces.flatMap ifL) rfl (Go.Proofs.YtnmbbnhgoedjgaaGreatDoor.Fm0.flat_len ifL 5 ifL_len c.ifaces) (HNW.out _ (HP.out.low.alloc (Nat.le_of_lt hwV) _)) (if_one _) (by omega) (by unfold maxLen; omega) (by omega) (by simp) (V.heap.size + 1) (by simp) ?_; intro gg cp w7 hown1 hgrow hat hlt; have HM := Lib.hid (NmA.make HP.out HD.out (by have := HPl.out; omega) HLV.out hown1 hgrow hat); have d0 : w7.cell? ⟨w3.heap.size, 0, none⟩ = some (.slice (some ⟨b0, o0, none⟩) c.ifaces.length cap0) := (cell_of_row _ _ 0 _ _ _ HM.out.2).trans HC0.out; have e0 := frozen_of_row _ _ 0 _ _ HM.out.2; clear hown1 hgrow hat))
  have HM := Lib.hid HM.out.1
  generalize w7.setCell ⟨w3.heap.size, 0, none⟩ (.slice (some ⟨gg, 0, none⟩) c.ifaces.length cp) = U at HM ⊢
  generalize w3.heap.size = xd at HM ⊢
  obtain ⟨x, hx⟩ : ∃ x, c.ifaces[a]? = some x := ⟨_, List.getElem?_eq_getElem hal⟩
  obtain ⟨y, hy⟩ : ∃ y, c.ifaces[b]? = some y := ⟨_, List.getElem?_eq_getElem hbl⟩
  have u0 : U.cell? ⟨xd, 0, none⟩ = some (.slice (some ⟨gg, 0, none⟩) c.ifaces.length cp) := (cell_of_row _ _ 0 _ _ _ HM.out.box).trans (by simp [HSz.out])
  have ux := flat_range ifL 5 ifL_len (own_range HM.out.own) a x hx 0 _ rfl
  have uy := flat_range ifL 5 ifL_len (own_range HM.out.own) b y hy 0 _ rfl
  have uf := own_free HM.out.own (a * 5)
  rw [Nat.zero_add, Nat.add_zero] at ux uy
  have i1 : (0 : Int) ≤ a := by omega
  have i2 : (a : Int) < c.ifaces.length := by omega
  have i3 : (0 : Int) ≤ b := by omega
  have i4 : (b : Int) < c.ifaces.length := by omega
  have HX := Lib.hid hx
  have HY := Lib.hid hy
  clear hx hy
  go_region
  have HB := Lib.hid (HM.out.name a x y HX.out)
  replace HB : Go.RowKit.Hid (NmB W cs (nameM c a x y) xd gg cp (U.setCell ⟨gg, a * 5, none⟩ (.string ⟨y.name.toArray⟩)).drew) := Lib.hid (HM.out.name a x y HX.out)
  generalize (U.setCell ⟨gg, a * 5, none⟩ (.string ⟨y.name.toArray⟩)).drew = U2 at HB ⊢
  have hds : cs.setIfInBounds 0 (.slice (some ⟨gg, 0, none⟩) (nameM c a x y).ifaces.length cp) = confC (.slice (some ⟨gg, 0, none⟩) (nameM c a x y).ifaces.length cp) v1 v2 v3 (nameM c a x y) := by rw [HCS.out]; rfl
  have hfd := name_fit c a b x y HX.out HY.out HF.out hc0
  have KD := Lib.hid (fun w' (hb : NmB W cs (nameM c a x y) xd gg cp w') => show ConfIn w' (.slice (some ⟨gg, 0, none⟩) (nameM c a x y).ifaces.length cp) v1 v2 v3 ts (nameM c a x y) from
    ⟨hb.own, (HH.out.below hb.pr.low).bogons, (HH.out.below hb.pr.low).tables, (HH.out.below hb.pr.low).rules, HH.out.tab, (HH.out.below hb.pr.low).tin⟩)
  have L1 := Lib.hid (fun w' (hb : NmB W cs (nameM c a x y) xd gg cp w') => check_conf HI HPr (nameM c a x y) _ v1 v2 v3 ts w' (KD.out w' hb) hfd (HL.out.below hb.pr.low))
  have L2 := Lib.hid (fun w' (hb : NmB W cs (nameM c a x y) xd gg cp w') => rcheck_conf KPR (nameM c a x y) _ v1 v2 v3 ts w' (KD.out w' hb) hfd (HL.out.below hb.pr.low))
  have HBx := Lib.hid (show ∀ w', NmB W cs (nameM c a x y) xd gg cp w' → w'.heap[xd]? = some (Obj.cells (confC (.slice (some ⟨gg, 0, none⟩) (nameM c a x y).ifaces.length cp) v1 v2 v3 (nameM c a x y)) 27 (0, 0)) from fun w' hb => by rw [← hds]; exact hb.box)
  have HN7 := Lib.hid (show (Tryz.prog.info? 27).map (·.size) = some (confC (.slice (some ⟨gg, 0, none⟩) (nameM c a x y).ifaces.length cp) v1 v2 v3 (nameM c a x y)).size from Cg2.info6 _ v1 v2 v3 (nameM c a x y))
  unfold checkV at L1 L2
  have HS := Lib.hid (fun h : a = b => show checkC (nameM c a x y) = (0, []) by
    subst h
    have e : x = y := by have := HX.out.symm.trans HY.out; cases this; rfl
    rw [← e, name_same c a x HX.out]
    exact HZ.1)
  have HTw := Lib.hid (name_two c a b x y HX.out HY.out)
  generalize confC (.slice (some ⟨gg, 0, none⟩) (nameM c a x y).ifaces.length cp) v1 v2 v3 (nameM c a x y) = ds at *
  clear hds hfd u0 ux uy uf i1 i2 i3 i4 c0 HM
  by_cases hab : a = b
  · rw [HS.out hab] at L1 L2
    have hab' : ((a : Int) == (b : Int)) = true := by rw [hab]; simp
    go_wp2_with (first
      | ((with_reducible refine Mem.load_row xd ?_ (HBx.out _ HB.out) Tryz.underlying27 HN7.out ?_ ?_); rfl; rfl)
      | (go_at_call 16; (with_reducible refine (L1.out _ HB.out).mono ?_); rintro e w5 ⟨rfl, hb1⟩; have HB := Lib.hid (HB.out.below hb1); clear hb1)
      | (go_at_call 14; (with_reducible refine (L2.out _ HB.out).mono ?_); rintro e w6 ⟨rfl, hb1⟩; have HB := Lib.hid (HB.out.below hb1); clear hb1)
      | (go_at_call 12; (with_reducible refine (K9.out _ HB.out.pr.low).mono ?_); rintro e w7 ⟨rfl, hb1⟩; have HB := Lib.hid (HB.out.below hb1); clear hb1))
    go_ret
    exact ⟨rfl, HB.out.pr.low⟩
  · have hab' : ((a : Int) == (b : Int)) = false := by rw [beq_eq_false_iff_ne]; omega
    have h28 := HTw.out hab
    generalize (checkC (nameM c a x y)).1 = ce at *
    generalize (⟨(checkC (nameM c a x y)).2.toArray⟩ : ByteArray) = cy at *
    rcases h28 with rfl | rfl
    all_goals
      go_wp2_with (first
        | ((with_reducible refine Mem.load_row xd ?_ (HBx.out _ HB.out) Tryz.underlying27 HN7.out ?_ ?_); rfl; rfl)
        | (go_at_call 16; (with_reducible refine (L1.out _ HB.out).mono ?_); rintro e w5 ⟨rfl, hb1⟩; have HB := Lib.hid (HB.out.below hb1); clear hb1)
        | (go_at_call 14; (with_reducible refine (L2.out _ HB.out).mono ?_); rintro e w6 ⟨rfl, hb1⟩; have HB := Lib.hid (HB.out.below hb1); clear hb1)
        | (go_at_call 12; (with_reducible refine (K9.out _ HB.out.pr.low).mono ?_); rintro e w7 ⟨rfl, hb1⟩; have HB := Lib.hid (HB.out.below hb1); clear hb1))
      go_ret
      exact ⟨rfl, HB.out.pr.low⟩
end Go.Proofs.YtnmbbnhgoedjgaaGreatDoor.Ck8
/- The row and the tied card of ConfNames: whatever the arguments, the law returns true and the arguments read as they did; the listed tables of the library are tied to the program's text. No condition. -/
namespace Go.Proofs.YtnmbbnhgoedjgaaGreatDoor.CkR5
open Go Go.RowKit Go.ChangeShapes Go.WideShapes Go.ChangeAt
open Go.Proofs.YtnmbbnhgoedjgaaGreatDoor.B0 Go.Proofs.YtnmbbnhgoedjgaaGreatDoor.B2 Go.Proofs.YtnmbbnhgoedjgaaGreatDoor.Ad0 Go.Proofs.YtnmbbnhgoedjgaaGreatDoor.St2 Go.Proofs.YtnmbbnhgoedjgaaGreatDoor.CkO
set_option linter.unusedVariables false
set_option linter.unusedSimpArgs false

theorem own : ownKnob Tryz.prog.godebug = none := by kernel_rfl
theorem laidOut : laidOutB Tryz.prog = true := by kernel_rfl
set_option maxRecDepth 100000 in
theorem open_str {H : Type} {enc : TypeId × Value → H} {W : World} {b : Nat} {v : Value} {d : DataW H} {p : List MemPlace}
    (hv : Value.okWide Tryz.prog W .any b 9 v) (h : DataW.Trod enc Tryz.prog W 0 (fun _ => true) true 9 v d p) : ∃ s : ByteArray, s.size ≤ maxLen ∧ v = .string s := by
  obtain ⟨s, rfl⟩ := okWide_string Tryz.underlying9 hv
  obtain ⟨fuel, hf⟩ := h
  obtain ⟨s', h1, -, h3⟩ := DataW.trod_string Tryz.underlying9 hf
  simp [Value.cells] at h1
  subst h1
  exact ⟨s, h3, rfl⟩
set_option maxRecDepth 100000 in
theorem libOK {W : World} {laid : List (String × DataW Unit)} (j : Nat) (hj : laid[j]? = some ("internal/strconv.uint64pow10", Lib.tabData .u64 Lib.pow10Tab)) (hn : (laid.filter fun x => x.2.handleName?.isSome) = [])
    (hl : laidMetH Tryz.prog laid W) (hs : W.ShapedOpen Tryz.prog) : LibOK W where
  maxLen := cell_of_shapedOpen_int hs (of_decide_eq_true (by kernel_rfl)) (t := 3) (zero := #[.int .i64 0]) (by kernel_rfl) rfl (by kernel_rfl) (by kernel_rfl) Tryz.underlying3
  pow10 := by
    unfold laidMetH at hl
    rw [hn] at hl
    exact tabIs_of_mem gPow (t := 219) (by kernel_rfl) Tryz.underlying219 Tryz.underlying198 (by kernel_rfl) (by kernel_rfl) laid j hj hl

set_option maxRecDepth 100000 in
theorem confNames_lifted (os : Os) (started : os.Started) (H : Type) (enc : TypeId × Value → H) :
    ReturnsInHanded {} Tryz.checked os 6 .any (fun w args => (Rows.confNamesSpec.pre enc Tryz.prog Tryz.f6 Rows.confNamesRow.domain false w args ∧ laidMetH Tryz.prog Rows.confNamesRow.laid w) ∧ sizedMet enc Tryz.prog Tryz.f6 (OpenSpec.ofChange Rows.confNamesSpec) false w args) (Rows.confNamesSpec.post enc Tryz.prog Tryz.f6 false true false false) :=
  law_lifted_open (C := Tryz.checked) own started (by kernel_rfl) Tryz.func6
    (ChangeSpec.witness_shaped (enc := enc) (C := Tryz.checked) (os := os) (X := fun w _ => laidMetH Tryz.prog Rows.confNamesRow.laid w) false (World.laidAll Tryz.prog os Rows.confNamesRow.laid) #[.agg #[.slice none 0 0, .slice none 0 0, .slice none 0 0, .slice none 0 0, .int .i64 0, .int .i64 0], .int .i64 0, .int .i64 0] 8 (World.laidAll_os _ _ _) (World.shaped_of_ZipB (by kernel_rfl) (by kernel_rfl)) (by kernel_rfl) (by kernel_rfl) (by kernel_rfl)
      (by rw [MakeChecks.laidMetH_plain _ _ _ (by kernel_rfl)]; exact laidMet_laidAll _ (by kernel_rfl) (by kernel_rfl)))
    rfl laidOut (by kernel_rfl) rfl Tryz.underlying4
    (fun ds h => by match ds, h with | [d0, d1, d2], _ => rfl)
    (fun W base args ds p hval hA hSz hL hS => by
      rw [Tryz.params6] at hA hval hSz
      have hok : LibOK W := libOK 2 rfl (by kernel_rfl) hL hS
      obtain ⟨v0, vs0, d0, ds0, p0, q0, hargs, rfl, rfl, h0, r0⟩ := trodAll_cons hA
      obtain ⟨v1, vs1, d1, ds1, p1, q1, rfl, rfl, rfl, h1, r1⟩ := trodAll_cons r0
      obtain ⟨v2, vs2, d2, ds2, p2, q2, rfl, rfl, rfl, h2, r2⟩ := trodAll_cons r1
      obtain ⟨rfl, rfl, rfl⟩ := trodAll_nil r2
      obtain rfl : args = #[v0, v1, v2] := by cases args; simp_all
      obtain ⟨c0, a0, b0, e0, f0, ts0, hc0, hf0, rfl⟩ := open_conf (each_at _ _ hSz 0 27 d0 rfl rfl) (hval 0 27 v0 rfl rfl) h0
      obtain ⟨x1, rfl, rfl, rfl, k1⟩ := open_int Tryz.underlying3 (hval 1 3 v1 rfl rfl) h1
      obtain ⟨x2, rfl, rfl, rfl, k2⟩ := open_int Tryz.underlying3 (hval 2 3 v2 rfl rfl) h2
      exact Ck8.names_walk ChJ.isIface_said (ChJ.printed_said_conf RuV.print_said) RuX.rprint_said c0 a0 b0 e0 f0 ts0 x1 x2 W hc0 hf0 hok)
theorem confNames_over : Rows.ConfNamesSaid :=
  OpenClaim.holds_of_wide 6 Tryz.f6 rfl rfl rfl rfl rfl rfl rfl ⟨rfl, rfl, rfl, rfl, rfl⟩ rfl rfl rfl rfl rfl (by kernel_rfl) Tryz.func6 (by kernel_rfl)
    (of_decide_eq_true (by kernel_rfl)) (by unfold Func.isWrapper; first | (rw [if_pos (by decide +kernel)]; kernel_rfl) | (rw [if_neg (by decide +kernel)]; exact ⟨rfl, rfl⟩))
    (fun os started H enc _ => confNames_lifted os started H enc)
theorem confNames_card : Rows.ConfNamesCardSaid :=
  Claim7.holds_tied_plain_at .later [] Rows.confNamesCard.laidKinds true Rows.confNamesCard.stood.harness true
    confNames_over (fun _ h => by cases h) (by kernel_rfl) (fun _ h => by cases h) confNames_row_tie rfl ⟨rfl, rfl⟩ (by kernel_rfl) rfl
    (fun f fn hf hfn => by
      obtain rfl : f = 6 := Option.some.inj ((show Tryz.prog.funcNamed "castellan/castellanlaw20.ConfNames" = some 6 by kernel_rfl).symm.trans hf) |>.symm
      obtain rfl : fn = Tryz.f6 := (Option.some.inj (Tryz.func6.symm.trans hfn)).symm
      exact ⟨by kernel_rfl, fun j t ht => by
        rw [Tryz.params6] at ht
        have hm : t ∈ [27, 3, 3] := by simpa using Array.mem_of_getElem? ht
        have hall : ([27, 3, 3].all fun u => !Tryz.prog.wantsStandIn u) = true := by kernel_rfl
        exact (show Tryz.prog.wantsStandIn t = false by simpa using List.all_eq_true.1 hall t hm)⟩)
    (by kernel_rfl)

end Go.Proofs.YtnmbbnhgoedjgaaGreatDoor.CkR5
namespace Go.Proofs.YtnmbbnhgoedjgaaGreatDoor
theorem confNames_holds : Rows.ConfNamesCardSaid := CkR5.confNames_card
#print axioms confNames_holds
end Go.Proofs.YtnmbbnhgoedjgaaGreatDoor
