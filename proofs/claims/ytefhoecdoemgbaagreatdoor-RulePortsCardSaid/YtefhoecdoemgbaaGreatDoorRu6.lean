/- A reader of words in memory: what it holds; takes, next and is, by their contracts. -/
import Derived.Test.YtefhoecdoemgbaaGreatDoorRu5
import Derived.Lib.FieldsP
import Derived.Lib.DecodeN
namespace Go.Proofs.YtefhoecdoemgbaaGreatDoor.Ru6
open Go Go.RowKit Go.Proofs.YtefhoecdoemgbaaGreatDoor.Ad0 Go.Proofs.YtefhoecdoemgbaaGreatDoor.Ad1 Go.Proofs.YtefhoecdoemgbaaGreatDoor.St0 Go.Proofs.YtefhoecdoemgbaaGreatDoor.St1 Go.Proofs.YtefhoecdoemgbaaGreatDoor.St2 Go.Proofs.YtefhoecdoemgbaaGreatDoor.St3 Go.Proofs.YtefhoecdoemgbaaGreatDoor.Ru0 Go.Proofs.YtefhoecdoemgbaaGreatDoor.Ru1
set_option linter.unusedVariables false
set_option linter.unusedSimpArgs false

/-- All that lay, but for one block, is as it was. -/
structure Upto (g : Nat) (w w' : World) : Prop where
  os : w'.os = w.os
  tape : w'.tape = w.tape
  output : w'.output = w.output
  size : w.heap.size ≤ w'.heap.size
  block : ∀ k, k < w.heap.size → k ≠ g → w'.heap[k]? = w.heap[k]?
theorem Upto.refl (g : Nat) (w : World) : Upto g w w := ⟨rfl, rfl, rfl, Nat.le_refl _, fun _ _ _ => rfl⟩
theorem Upto.trans {g : Nat} {a b c : World} (h : Upto g a b) (k : Upto g b c) : Upto g a c :=
  ⟨k.os.trans h.os, k.tape.trans h.tape, k.output.trans h.output, Nat.le_trans h.size k.size, fun i hi hg => (k.block i (Nat.lt_of_lt_of_le hi h.size) hg).trans (h.block i hi hg)⟩
theorem Upto.of_below {g : Nat} {a b : World} (h : Below a.heap.size a b) : Upto g a b := ⟨h.os, h.tape, h.output, h.size, fun i hi _ => h.block i hi⟩
theorem Upto.below {g B : Nat} {w a b : World} (h : Below B w a) (u : Upto g a b) (hg : B ≤ g) (hB : B ≤ a.heap.size) : Below B w b :=
  ⟨u.os.trans h.os, u.tape.trans h.tape, u.output.trans h.output, Nat.le_trans h.size u.size, fun i hi => (u.block i (by omega) (by omega)).trans (h.block i hi)⟩
theorem Upto.drewN {g : Nat} {a b : World} (h : Upto g a b) (n : Nat) : Upto g a (b.drewN n) := ⟨h.os, h.tape, h.output, h.size, h.block⟩
theorem Upto.set {g k : Nat} {a b : World} {v : Value} (h : Upto g a b) : Upto g a (b.setCell ⟨g, k, none⟩ v) :=
  ⟨h.os, h.tape, h.output, by unfold World.setCell; simpa using h.size, fun i hi hg => by rw [heap_setCell_other _ _ _ _ hg]; exact h.block i hi hg⟩
/-- A block apart from those that are written. -/
theorem Upto.set_new {g h k : Nat} {a b : World} {v : Value} (u : Upto g a b) (hh : a.heap.size ≤ h) : Upto g a (b.setCell ⟨h, k, none⟩ v) :=
  ⟨u.os, u.tape, u.output, by unfold World.setCell; simpa using u.size, fun i hi hg => by rw [heap_setCell_other _ _ _ _ (show i ≠ h by omega)]; exact u.block i hi hg⟩
theorem size_set (w : World) (a : Addr) (v : Value) : (w.setCell a v).heap.size = w.heap.size := by unfold World.setCell; simp
theorem upto_new (g : Nat) (w : World) (o : Obj) : Upto g w (w.alloc o) := Upto.of_below (bnew w o)

/-- The strings that lie from an address on. -/
def Lies (W : World) (A : Option Addr) (l : List Wd) (g : Nat) : Prop := l = [] ∨ ∃ b off, A = some ⟨b, off, none⟩ ∧ b < g ∧ b < W.heap.size ∧ ∀ (j : Nat) (x : Wd), l[j]? = some x → W.cell? ⟨b, off + j, none⟩ = some (.string ⟨x.toArray⟩)
/-- A reader: its words, and whether one was none. -/
structure Rd (T : TypeId) (W : World) (g : Nat) (ws : Ws) : Prop where
  lt : g < W.heap.size
  short : ∀ x ∈ ws.l, x.length < 4294967281
  row : ∃ A n cap, W.heap[g]? = some (.cells #[.slice A n cap, .bool ws.bad] T (0, 0)) ∧ n = ws.l.length ∧ n ≤ cap ∧ Lies W A ws.l g

theorem Lies.upto {W W' : World} {A : Option Addr} {l : List Wd} {g : Nat} (h : Lies W A l g) (u : Upto g W W') : Lies W' A l g := by
  rcases h with h | ⟨b, off, e, hb, hl, hc⟩
  · exact .inl h
  · refine .inr ⟨b, off, e, hb, Nat.lt_of_lt_of_le hl u.size, fun j x hj => ?_⟩
    have := hc j x hj
    unfold World.cell? at this ⊢
    rw [u.block b hl (Nat.ne_of_lt hb)]
    exact this
theorem Rd.below {T : TypeId} {W W' : World} {g : Nat} {ws : Ws} (h : Rd T W g ws) (b : Below W.heap.size W W') : Rd T W' g ws := by
  obtain ⟨A, n, cap, hr, hn, hc, hl⟩ := h.row
  exact ⟨Nat.lt_of_lt_of_le h.lt b.size, h.short, A, n, cap, (b.block g h.lt).trans hr, hn, hc, hl.upto (Upto.of_below b)⟩
section
theorem cons_lies {W : World} {A : Option Addr} {x : Wd} {t : List Wd} {g : Nat} (h : Lies W A (x :: t) g) : ∃ b off, A = some ⟨b, off, none⟩ ∧ b < g ∧ b < W.heap.size ∧ W.cell? ⟨b, off, none⟩ = some (.string ⟨x.toArray⟩) ∧
    ∀ (j : Nat) (y : Wd), t[j]? = some y → W.cell? ⟨b, off + 1 + j, none⟩ = some (.string ⟨y.toArray⟩) := by
  rcases h with h | ⟨b, off, e, hb, hl, hc⟩
  · cases h
  · refine ⟨b, off, e, hb, hl, by simpa using hc 0 x rfl, fun j y hj => ?_⟩
    have := hc (j + 1) y (by simpa using hj)
    rwa [show off + (j + 1) = off + 1 + j by omega] at this
end
theorem str_eq (x y : Wd) : ((⟨x.toArray⟩ : ByteArray) = ⟨y.toArray⟩) ↔ x = y := by
  constructor
  · intro h
    have := congrArg (fun b : ByteArray => b.data.toList) h
    simpa using this
  · rintro rfl; rfl
/-- Whatever comes behind the reader's own block. -/
theorem Rd.above {T : TypeId} {W W' : World} {g : Nat} {ws : Ws} (h : Rd T W g ws) (b : Below (g + 1) W W') : Rd T W' g ws := by
  obtain ⟨A, n, cap, hr, hn, hc, hl⟩ := h.row
  refine ⟨Nat.lt_of_lt_of_le h.lt b.size, h.short, A, n, cap, (b.block g (by omega)).trans hr, hn, hc, ?_⟩
  rcases hl with h | ⟨b', off, e, hb, hl, hc⟩
  · exact .inl h
  · refine .inr ⟨b', off, e, hb, Nat.lt_of_lt_of_le hl b.size, fun j x hj => ?_⟩
    have := hc j x hj
    unfold World.cell? at this ⊢
    rw [b.block b' (by omega)]
    exact this
theorem Upto.low {g : Nat} {a b : World} (u : Upto g a b) (hg : g ≤ a.heap.size) : Below g a b := ⟨u.os, u.tape, u.output, u.size, fun k hk => u.block k (by omega) (by omega)⟩
theorem Upto.row {g h : Nat} {a b : World} {o : Obj} (u : Upto g a b) (hr : a.heap[h]? = some o) (hn : h ≠ g) : b.heap[h]? = some o := (u.block h (blk_lt' hr) hn).trans hr
/-- The library's variables lie below a block. -/
structure LibLow (g : Nat) : Prop where
  a : 0 < g
  b : 5 < g
theorem LibLow.mono {g h : Nat} (l : LibLow g) (k : g ≤ h) : LibLow h := ⟨Nat.lt_of_lt_of_le l.a k, Nat.lt_of_lt_of_le l.b k⟩
theorem lib_lt {W : World} (h : LibOK W) : LibLow W.heap.size where
  a := by
    obtain ⟨m, hm⟩ := h.maxLen
    exact World.block_lt_of_cell? W _ hm
  b := by
    have h := h.pow10
    unfold Lib.TabIs World.var? at h
    rw [gPow] at h
    simp only [Option.bind_some] at h
    rcases Nat.lt_or_ge 5 W.heap.size with h' | h'
    · exact h'
    · rw [Array.getElem?_eq_none h'] at h; cases h
theorem lib_low {W W1 : World} {B : Nat} (h : LibOK W) (hb : Below B W W1) (l : LibLow B) : LibOK W1 where
  maxLen := by
    obtain ⟨m, hm⟩ := h.maxLen
    refine ⟨m, ?_⟩
    unfold World.cell? at hm ⊢
    rw [hb.block _ l.a]
    exact hm
  pow10 := by
    have h := h.pow10
    unfold Lib.TabIs World.var? at h ⊢
    rw [gPow] at h ⊢
    simp only [Option.bind_some] at h ⊢
    rw [hb.block _ l.b]
    exact h
theorem lib_upto {W W1 : World} {g : Nat} (h : LibOK W) (u : Upto g W W1) (l : LibLow g) (hg : g ≤ W.heap.size) : LibOK W1 := lib_low h (u.low hg) l
theorem Rd.bad {T : TypeId} {W : World} {g : Nat} {ws : Ws} (h : Rd T W g ws) (b : Bool) : Rd T (W.setCell ⟨g, 1, none⟩ (.bool b)) g ⟨ws.l, b⟩ := by
  obtain ⟨hlt, hsh, A, n, cap, hrow, hn, hcap, hl⟩ := h
  exact ⟨by rw [size_set]; exact hlt, hsh, A, n, cap, set_at hrow, hn, hcap, hl.upto (Upto.refl _ _).set⟩
theorem Rd.cells {T : TypeId} {W : World} {g : Nat} {ws : Ws} (h : Rd T W g ws) : W.cell? ⟨g, 1, none⟩ = some (.bool ws.bad) ∧ W.frozen? ⟨g, 1, none⟩ = false := by
  obtain ⟨hlt, hsh, A, n, cap, hrow, hn, hcap, hl⟩ := h
  obtain ⟨c0, c1, f0, f1⟩ := box2 hrow
  exact ⟨c1, f1⟩
theorem pop_last {T : TypeId} {W : World} {g b off n cap : Nat} {x : Wd} {bad : Bool} (h : W.heap[g]? = some (.cells #[.slice (some ⟨b, off, none⟩) n cap, .bool bad] T (0, 0))) : Rd T (W.setCell ⟨g, 0, none⟩ (.slice (some ⟨b, off, none⟩) 0 0)) g ⟨[], bad⟩ :=
  ⟨by rw [size_set]; exact blk_lt' h, (fun _ hx => by cases hx), _, 0, 0, set_at h, rfl, Nat.le_refl _, .inl rfl⟩
theorem pop_one {T : TypeId} {W : World} {g b off cap : Nat} {x : Wd} {t : List Wd} {bad : Bool} (h : W.heap[g]? = some (.cells #[.slice (some ⟨b, off, none⟩) (t.length + 1) cap, .bool bad] T (0, 0))) (hb : b < g) (hbl : b < W.heap.size)
    (hs : ∀ y ∈ x :: t, y.length < 4294967281) (ht : ∀ (j : Nat) (y : Wd), t[j]? = some y → W.cell? ⟨b, off + 1 + j, none⟩ = some (.string ⟨y.toArray⟩)) (hc : t.length + 1 ≤ cap) :
    Rd T (W.setCell ⟨g, 0, none⟩ (.slice (some ⟨b, off + 1, none⟩) t.length (cap - 1))) g ⟨t, bad⟩ := by
  refine ⟨by rw [size_set]; exact blk_lt' h, fun y hy => hs y (List.mem_cons_of_mem _ hy), _, t.length, cap - 1, set_at h, rfl, by omega, ?_⟩
  have : Lies W (some ⟨b, off + 1, none⟩) t g := .inr ⟨b, off + 1, rfl, hb, hbl, ht⟩
  exact this.upto (Upto.refl _ _).set

set_option maxHeartbeats 1000000 in
theorem next_any (g : Nat) (ws : Ws) (W : World) (h : Rd 53 W g ws) :
    Calls Tryz.prog 26 #[.pointer (some ⟨g, 0, none⟩)] W fun e w' => e = .returned (.string ⟨(nextF ws).1.toArray⟩) ∧ Rd 53 w' g (nextF ws).2 ∧ Upto g W w' := by
  have HH := Lib.hid h
  obtain ⟨hlt, hsh, A, n, cap, hrow, hn, hcap, hl⟩ := h
  obtain ⟨l, bad⟩ := ws
  have HR := Lib.hid hrow
  obtain ⟨c0, c1, f0, f1⟩ := box2 hrow
  clear hrow
  dsimp only at c0 c1 hn hl hsh
  cases l with
  | nil =>
    obtain rfl : n = 0 := hn
    clear hl hsh
    go_enter Tryz.func26, Tryz.ntmps26
    go_wp2
    go_ret
    exact ⟨rfl, HH.out.bad true, (Upto.refl _ _).set⟩
  | cons x t =>
    obtain ⟨b, off, rfl, hb, hbl, hx, ht⟩ := cons_lies hl
    obtain rfl : n = t.length + 1 := hn
    have HT := Lib.hid ht
    have HS := Lib.hid hsh
    clear hl ht hsh
    by_cases h1 : cap = 1
    · subst h1
      obtain rfl : t = [] := by
        cases t with
        | nil => rfl
        | cons _ _ => simp at hcap
      go_enter Tryz.func26, Tryz.ntmps26
      go_wp2
      go_ret
      exact ⟨rfl, pop_last (x := x) HR.out, (Upto.refl _ _).set⟩
    · have hcap' : 1 < cap := by omega
      go_enter Tryz.func26, Tryz.ntmps26
      go_wp2
      go_ret
      exact ⟨rfl, pop_one HR.out hb hbl HS.out HT.out hcap, (Upto.refl _ _).set⟩

set_option maxHeartbeats 1000000 in
theorem takes_any (g : Nat) (ws : Ws) (word : Array UInt8) (W : World) (h : Rd 53 W g ws) :
    Calls Tryz.prog 25 #[.pointer (some ⟨g, 0, none⟩), .string ⟨word⟩] W fun e w' => e = .returned (.bool (takesP ws word.toList).1) ∧ Rd 53 w' g (takesP ws word.toList).2 ∧ Upto g W w' := by
  have HH := Lib.hid h
  obtain ⟨hlt, hsh, A, n, cap, hrow, hn, hcap, hl⟩ := h
  obtain ⟨l, bad⟩ := ws
  have HR := Lib.hid hrow
  obtain ⟨c0, c1, f0, f1⟩ := box2 hrow
  clear hrow
  dsimp only at c0 c1 hn hl hsh
  cases bad with
  | true =>
    have e0 : takesP ⟨l, true⟩ word.toList = (false, ⟨l, true⟩) := by unfold takesP; cases l <;> simp
    rw [e0]
    clear hl hsh hn
    go_enter Tryz.func25, Tryz.ntmps25
    go_wp2
    go_ret
    exact ⟨rfl, HH.out, Upto.refl _ _⟩
  | false =>
    cases l with
    | nil =>
      obtain rfl : n = 0 := hn
      clear hl hsh
      go_enter Tryz.func25, Tryz.ntmps25
      go_wp2
      go_ret
      exact ⟨rfl, HH.out, Upto.refl _ _⟩
    | cons x t =>
      obtain ⟨b, off, rfl, hb, hbl, hx, ht⟩ := cons_lies hl
      obtain rfl : n = t.length + 1 := hn
      have HT := Lib.hid ht
      have HS := Lib.hid hsh
      clear hl ht hsh
      have hnz : ((t.length : Int) + 1 == 0) = false := by rw [beq_eq_false_iff_ne]; omega
      by_cases hw : x = word.toList
      · have e0 : takesP ⟨x :: t, false⟩ word.toList = (true, ⟨t, false⟩) := by simp [takesP, hw]
        rw [e0]
        obtain rfl : word = x.toArray := by rw [hw]
        by_cases h1 : cap = 1
        · subst h1
          obtain rfl : t = [] := by
            cases t with
            | nil => rfl
            | cons _ _ => simp at hcap
          clear e0 hw
          go_enter Tryz.func25, Tryz.ntmps25
          go_wp2
          go_ret
          exact ⟨rfl, pop_last (x := x) HR.out, (Upto.refl _ _).set⟩
        · have hcap' : 1 < cap := by omega
          clear e0 hw
          go_enter Tryz.func25, Tryz.ntmps25
          go_wp2
          go_ret
          exact ⟨rfl, pop_one HR.out hb hbl HS.out HT.out hcap, (Upto.refl _ _).set⟩
      · have e0 : takesP ⟨x :: t, false⟩ word.toList = (false, ⟨x :: t, false⟩) := by simp [takesP, hw]
        rw [e0]
        have hq : (x == (⟨word⟩ : ByteArray).toList) = false := by
          rw [toList_data, beq_eq_false_iff_ne]; exact hw
        clear e0 hw
        go_enter Tryz.func25, Tryz.ntmps25
        go_wp2
        go_ret
        exact ⟨rfl, HH.out, Upto.refl _ _⟩
end Go.Proofs.YtefhoecdoemgbaaGreatDoor.Ru6
