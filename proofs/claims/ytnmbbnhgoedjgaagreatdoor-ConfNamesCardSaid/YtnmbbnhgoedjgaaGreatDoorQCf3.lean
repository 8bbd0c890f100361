/- A reader of words in memory: what it holds; takes, next and is, by their contracts. rule.words.number: digits as a number, in a reader. rule.proto, rule.flags and the reference's twins: words for numbers. rule.words.proto and look: parts of a rule, read. conf.number. -/
import Derived.Test.YtnmbbnhgoedjgaaGreatDoorQRu5
import Derived.Test.YtnmbbnhgoedjgaaGreatDoorQStA
import Derived.Lib.FieldsP
import Derived.Lib.DecodeN
import Derived.BigQuiet
namespace Go.Proofs.YtnmbbnhgoedjgaaGreatDoor.Ru6
open Go Go.RowKit Go.Proofs.YtnmbbnhgoedjgaaGreatDoor.St1 Go.Proofs.YtnmbbnhgoedjgaaGreatDoor.St2 Go.Proofs.YtnmbbnhgoedjgaaGreatDoor.St3 Go.Proofs.YtnmbbnhgoedjgaaGreatDoor.Ru0 Go.Proofs.YtnmbbnhgoedjgaaGreatDoor.Ru1
set_option linter.unusedVariables false
set_option linter.unusedSimpArgs false
/-- All that lay, but for one block, is as it was. -/
structure Upto (g : Nat) (w w' : World) : Prop where
  os : w'.os = w.os
  tape : w'.tape = w.tape
  output : w'.output = w.output
  size : w.heap.size ≤ w'.heap.size
  block : ∀ k, k < w.heap.size → k ≠ g → w'.heap[k]? = w.heap[k]?
theorem Upto.refl (g : Nat) (w : World) : Upto g w w := ⟨rfl, rfl, rfl, Nat.le_refl _, fun _ _ _ => rfl⟩
theorem Upto.trans {g : Nat} {a b c : World} (h : Upto g a b) (k : Upto g b c) : Upto g a c :=
  ⟨k.os.trans h.os, k.tape.trans h.tape, k.output.trans h.output, Nat.le_trans h.size k.size, fun i hi hg => (k.block i (Nat.lt_of_lt_of_le hi h.size) hg).trans (h.block i hi hg)⟩
theorem Upto.of_below {g : Nat} {a b : World} (h : Below a.heap.size a b) : Upto g a b := ⟨h.os, h.tape, h.output, h.size, fun i hi _ => h.block i hi⟩
theorem Upto.below {g B : Nat} {w a b : World} (h : Below B w a) (u : Upto g a b) (hg : B ≤ g) (hB : B ≤ a.heap.size) : Below B w b :=
  ⟨u.os.trans h.os, u.tape.trans h.tape, u.output.trans h.output, Nat.le_trans h.size u.size, fun i hi => (u.block i (by omega) (by omega)).trans (h.block i hi)⟩
theorem Upto.drewN {g : Nat} {a b : World} (h : Upto g a b) (n : Nat) : Upto g a (b.drewN n) := ⟨h.os, h.tape, h.output, h.size, h.block⟩
theorem Upto.set {g k : Nat} {a b : World} {v : Value} (h : Upto g a b) : Upto g a (b.setCell ⟨g, k, none⟩ v) :=
  ⟨h.os, h.tape, h.output, by unfold World.setCell; simpa using h.size, fun i hi hg => by rw [heap_setCell_other _ _ _ _ hg]; exact h.block i hi hg⟩
/-- A block apart from those that are written. -/
theorem Upto.set_new {g h k : Nat} {a b : World} {v : Value} (u : Upto g a b) (hh : a.heap.size ≤ h) : Upto g a (b.setCell ⟨h, k, none⟩ v) :=
  ⟨u.os, u.tape, u.output, by unfold World.setCell; simpa using u.size, fun i hi hg => by rw [heap_setCell_other _ _ _ _ (show i ≠ h by omega)]; exact u.block i hi hg⟩
theorem size_set (w : World) (a : Addr) (v : Value) : (w.setCell a v).heap.size = w.heap.size := by unfold World.setCell; simp
/-- The strings that lie from an address on. -/
def Lies (W : World) (A : Option Addr) (l : List Wd) (g : Nat) : Prop := l = [] ∨ ∃ b off, A = some ⟨b, off, none⟩ ∧ b < g ∧ b < W.heap.size ∧ ∀ (j : Nat) (x : Wd), l[j]? = some x → W.cell? ⟨b, off + j, none⟩ = some (.string ⟨x.toArray⟩)
/-- A reader: its words, and whether one was none. -/
structure Rd (T : TypeId) (W : World) (g : Nat) (ws : Ws) : Prop where
  lt : g < W.heap.size
  short : ∀ x ∈ ws.l, x.length < 4294967281
  row : ∃ A n cap, W.heap[g]? = some (.cells #[.slice A n cap, .bool ws.bad] T (0, 0)) ∧ n = ws.l.length ∧ n ≤ cap ∧ Lies W A ws.l g
theorem Lies.upto {W W' : World} {A : Option Addr} {l : List Wd} {g : Nat} (h : Lies W A l g) (u : Upto g W W') : Lies W' A l g := by
  rcases h with h | ⟨b, off, e, hb, hl, hc⟩
  · exact .inl h
  · refine .inr ⟨b, off, e, hb, Nat.lt_of_lt_of_le hl u.size, fun j x hj => ?_⟩
    have := hc j x hj
    unfold World.cell? at this ⊢
    rw [u.block b hl (Nat.ne_of_lt hb)]
    exact this
theorem Rd.below {T : TypeId} {W W' : World} {g : Nat} {ws : Ws} (h : Rd T W g ws) (b : Below W.heap.size W W') : Rd T W' g ws := by
  obtain ⟨A, n, cap, hr, hn, hc, hl⟩ := h.row
  exact ⟨Nat.lt_of_lt_of_le h.lt b.size, h.short, A, n, cap, (b.block g h.lt).trans hr, hn, hc, hl.upto (Upto.of_below b)⟩
section
theorem cons_lies {W : World} {A : Option Addr} {x : Wd} {t : List Wd} {g : Nat} (h : Lies W A (x :: t) g) : ∃ b off, A = some ⟨b, off, none⟩ ∧ b < g ∧ b < W.heap.size ∧ W.cell? ⟨b, off, none⟩ = some (.string ⟨x.toArray⟩) ∧
    ∀ (j : Nat) (y : Wd), t[j]? = some y → W.cell? ⟨b, off + 1 + j, none⟩ = some (.string ⟨y.toArray⟩) := by
  rcases h with h | ⟨b, off, e, hb, hl, hc⟩
  · cases h
  · refine ⟨b, off, e, hb, hl, by simpa using hc 0 x rfl, fun j y hj => ?_⟩
    have := hc (j + 1) y (by simpa using hj)
    rwa [show off + (j + 1) = off + 1 + j by omega] at this
end
/-- Whatever comes behind the reader's own block. -/
theorem Rd.above {T : TypeId} {W W' : World} {g : Nat} {ws : Ws} (h : Rd T W g ws) (b : Below (g + 1) W W') : Rd T W' g ws := by
  obtain ⟨A, n, cap, hr, hn, hc, hl⟩ := h.row
  refine ⟨Nat.lt_of_lt_of_le h.lt b.size, h.short, A, n, cap, (b.block g (by omega)).trans hr, hn, hc, ?_⟩
  rcases hl with h | ⟨b', off, e, hb, hl, hc⟩
  · exact .inl h
  · refine .inr ⟨b', off, e, hb, Nat.lt_of_lt_of_le hl b.size, fun j x hj => ?_⟩
    have := hc j x hj
    unfold World.cell? at this ⊢
    rw [b.block b' (by omega)]
    exact this
theorem Upto.low {g : Nat} {a b : World} (u : Upto g a b) (hg : g ≤ a.heap.size) : Below g a b := ⟨u.os, u.tape, u.output, u.size, fun k hk => u.block k (by omega) (by omega)⟩
theorem Upto.row {g h : Nat} {a b : World} {o : Obj} (u : Upto g a b) (hr : a.heap[h]? = some o) (hn : h ≠ g) : b.heap[h]? = some o := (u.block h (blk_lt' hr) hn).trans hr
/-- The library's variables lie below a block. -/
structure LibLow (g : Nat) : Prop where
  a : 0 < g
  b : 3 < g
theorem LibLow.mono {g h : Nat} (l : LibLow g) (k : g ≤ h) : LibLow h := ⟨Nat.lt_of_lt_of_le l.a k, Nat.lt_of_lt_of_le l.b k⟩
theorem lib_lt {W : World} (h : LibOK W) : LibLow W.heap.size where
  a := by
    obtain ⟨m, hm⟩ := h.maxLen
    exact World.block_lt_of_cell? W _ hm
  b := by
    have h := h.pow10
    unfold Lib.TabIs World.var? at h
    rw [gPow] at h
    simp only [Option.bind_some] at h
    rcases Nat.lt_or_ge 3 W.heap.size with h' | h'
    · exact h'
    · rw [Array.getElem?_eq_none h'] at h; cases h
theorem lib_low {W W1 : World} {B : Nat} (h : LibOK W) (hb : Below B W W1) (l : LibLow B) : LibOK W1 where
  maxLen := by
    obtain ⟨m, hm⟩ := h.maxLen
    refine ⟨m, ?_⟩
    unfold World.cell? at hm ⊢
    rw [hb.block _ l.a]
    exact hm
  pow10 := by
    have h := h.pow10
    unfold Lib.TabIs World.var? at h ⊢
    rw [gPow] at h ⊢
    simp only [Option.bind_some] at h ⊢
    rw [hb.block _ l.b]
    exact h
theorem lib_upto {W W1 : World} {g : Nat} (h : LibOK W) (u : Upto g W W1) (l : LibLow g) (hg : g ≤ W.heap.size) : LibOK W1 := lib_low h (u.low hg) l
theorem Rd.bad {T : TypeId} {W : World} {g : Nat} {ws : Ws} (h : Rd T W g ws) (b : Bool) : Rd T (W.setCell ⟨g, 1, none⟩ (.bool b)) g ⟨ws.l, b⟩ := by
  obtain ⟨hlt, hsh, A, n, cap, hrow, hn, hcap, hl⟩ := h
  exact ⟨by rw [size_set]; exact hlt, hsh, A, n, cap, set_at hrow, hn, hcap, hl.upto (Upto.refl _ _).set⟩
theorem Rd.cells {T : TypeId} {W : World} {g : Nat} {ws : Ws} (h : Rd T W g ws) : W.cell? ⟨g, 1, none⟩ = some (.bool ws.bad) ∧ W.frozen? ⟨g, 1, none⟩ = false := by
  obtain ⟨hlt, hsh, A, n, cap, hrow, hn, hcap, hl⟩ := h
  obtain ⟨c0, c1, f0, f1⟩ := box2 hrow
  exact ⟨c1, f1⟩
theorem pop_last {T : TypeId} {W : World} {g b off n cap : Nat} {x : Wd} {bad : Bool} (h : W.heap[g]? = some (.cells #[.slice (some ⟨b, off, none⟩) n cap, .bool bad] T (0, 0))) : Rd T (W.setCell ⟨g, 0, none⟩ (.slice (some ⟨b, off, none⟩) 0 0)) g ⟨[], bad⟩ :=
  ⟨by rw [size_set]; exact blk_lt' h, (fun _ hx => by cases hx), _, 0, 0, set_at h, rfl, Nat.le_refl _, .inl rfl⟩
theorem pop_one {T : TypeId} {W : World} {g b off cap : Nat} {x : Wd} {t : List Wd} {bad : Bool} (h : W.heap[g]? = some (.cells #[.slice (some ⟨b, off, none⟩) (t.length + 1) cap, .bool bad] T (0, 0))) (hb : b < g) (hbl : b < W.heap.size)
    (hs : ∀ y ∈ x :: t, y.length < 4294967281) (ht : ∀ (j : Nat) (y : Wd), t[j]? = some y → W.cell? ⟨b, off + 1 + j, none⟩ = some (.string ⟨y.toArray⟩)) (hc : t.length + 1 ≤ cap) :
    Rd T (W.setCell ⟨g, 0, none⟩ (.slice (some ⟨b, off + 1, none⟩) t.length (cap - 1))) g ⟨t, bad⟩ := by
  refine ⟨by rw [size_set]; exact blk_lt' h, fun y hy => hs y (List.mem_cons_of_mem _ hy), _, t.length, cap - 1, set_at h, rfl, by omega, ?_⟩
  have : Lies W (some ⟨b, off + 1, none⟩) t g := .inr ⟨b, off + 1, rfl, hb, hbl, ht⟩
  exact this.upto (Upto.refl _ _).set
set_option maxHeartbeats 1000000 in
theorem next_any (g : Nat) (ws : Ws) (W : World) (h : Rd 150 W g ws) :
    Calls Tryz.prog 108 #[.pointer (some ⟨g, 0, none⟩)] W fun e w' => e = .returned (.string ⟨(nextF ws).1.toArray⟩) ∧ Rd 150 w' g (nextF ws).2 ∧ Upto g W w' := by
  have HH := Lib.hid h
  obtain ⟨hlt, hsh, A, n, cap, hrow, hn, hcap, hl⟩ := h
  obtain ⟨l, bad⟩ := ws
  have HR := Lib.hid hrow
  obtain ⟨c0, c1, f0, f1⟩ := box2 hrow
  clear hrow
  dsimp only at c0 c1 hn hl hsh
  cases l with
  | nil =>
    obtain rfl : n = 0 := hn
    clear hl hsh
    go_enter Tryz.func108, Tryz.ntmps108
    go_wp2
    go_ret
    exact ⟨rfl, HH.out.bad true, (Upto.refl _ _).set⟩
  | cons x t =>
    obtain ⟨b, off, rfl, hb, hbl, hx, ht⟩ := cons_lies hl
    obtain rfl : n = t.length + 1 := hn
    have HT := Lib.hid ht
    have HS := Lib.hid hsh
    clear hl ht hsh
    by_cases h1 : cap = 1
    · subst h1
      obtain rfl : t = [] := by
        cases t with
        | nil => rfl
        | cons _ _ => simp at hcap
      go_enter Tryz.func108, Tryz.ntmps108
      go_wp2
      go_ret
      exact ⟨rfl, pop_last (x := x) HR.out, (Upto.refl _ _).set⟩
    · have hcap' : 1 < cap := by omega
      go_enter Tryz.func108, Tryz.ntmps108
      go_wp2
      go_ret
      exact ⟨rfl, pop_one HR.out hb hbl HS.out HT.out hcap, (Upto.refl _ _).set⟩
set_option maxHeartbeats 1000000 in
theorem takes_any (g : Nat) (ws : Ws) (word : Array UInt8) (W : World) (h : Rd 150 W g ws) :
    Calls Tryz.prog 107 #[.pointer (some ⟨g, 0, none⟩), .string ⟨word⟩] W fun e w' => e = .returned (.bool (takesP ws word.toList).1) ∧ Rd 150 w' g (takesP ws word.toList).2 ∧ Upto g W w' := by
  have HH := Lib.hid h
  obtain ⟨hlt, hsh, A, n, cap, hrow, hn, hcap, hl⟩ := h
  obtain ⟨l, bad⟩ := ws
  have HR := Lib.hid hrow
  obtain ⟨c0, c1, f0, f1⟩ := box2 hrow
  clear hrow
  dsimp only at c0 c1 hn hl hsh
  cases bad with
  | true =>
    have e0 : takesP ⟨l, true⟩ word.toList = (false, ⟨l, true⟩) := by unfold takesP; cases l <;> simp
    rw [e0]
    clear hl hsh hn
    go_enter Tryz.func107, Tryz.ntmps107
    go_wp2
    go_ret
    exact ⟨rfl, HH.out, Upto.refl _ _⟩
  | false =>
    cases l with
    | nil =>
      obtain rfl : n = 0 := hn
      clear hl hsh
      go_enter Tryz.func107, Tryz.ntmps107
      go_wp2
      go_ret
      exact ⟨rfl, HH.out, Upto.refl _ _⟩
    | cons x t =>
      obtain ⟨b, off, rfl, hb, hbl, hx, ht⟩ := cons_lies hl
      obtain rfl : n = t.length + 1 := hn
      have HT := Lib.hid ht
      have HS := Lib.hid hsh
      clear hl ht hsh
      have hnz : ((t.length : Int) + 1 == 0) = false := by rw [beq_eq_false_iff_ne]; omega
      by_cases hw : x = word.toList
      · have e0 : takesP ⟨x :: t, false⟩ word.toList = (true, ⟨t, false⟩) := by simp [takesP, hw]
        rw [e0]
        obtain rfl : word = x.toArray := by rw [hw]
        by_cases h1 : cap = 1
        · subst h1
          obtain rfl : t = [] := by
            cases t with
            | nil => rfl
            | cons _ _ => simp at hcap
          clear e0 hw
          go_enter Tryz.func107, Tryz.ntmps107
          go_wp2
          go_ret
          exact ⟨rfl, pop_last (x := x) HR.out, (Upto.refl _ _).set⟩
        · have hcap' : 1 < cap := by omega
          clear e0 hw
          go_enter Tryz.func107, Tryz.ntmps107
          go_wp2
          go_ret
          exact ⟨rfl, pop_one HR.out hb hbl HS.out HT.out hcap, (Upto.refl _ _).set⟩
      · have e0 : takesP ⟨x :: t, false⟩ word.toList = (false, ⟨x :: t, false⟩) := by simp [takesP, hw]
        rw [e0]
        have hq : (x == (⟨word⟩ : ByteArray).toList) = false := by
          rw [toList_data, beq_eq_false_iff_ne]; exact hw
        clear e0 hw
        go_enter Tryz.func107, Tryz.ntmps107
        go_wp2
        go_ret
        exact ⟨rfl, HH.out, Upto.refl _ _⟩
end Go.Proofs.YtnmbbnhgoedjgaaGreatDoor.Ru6

namespace Go.Proofs.YtnmbbnhgoedjgaaGreatDoor.Ru7
open Go Go.RowKit Go.Proofs.YtnmbbnhgoedjgaaGreatDoor.Ad1 Go.Proofs.YtnmbbnhgoedjgaaGreatDoor.St0 Go.Proofs.YtnmbbnhgoedjgaaGreatDoor.St1 Go.Proofs.YtnmbbnhgoedjgaaGreatDoor.St2 Go.Proofs.YtnmbbnhgoedjgaaGreatDoor.Ru1 Go.Proofs.YtnmbbnhgoedjgaaGreatDoor.Ru6
set_option linter.unusedVariables false
set_option linter.unusedSimpArgs false
/-- What is no number of at most k digits, in four ways. -/
theorem bad_ways (s : ByteArray) (k : Nat) (h : okNum k s.data.toList = false) : s.toList = [] ∨
    (s.toList.isEmpty = false ∧ ((k : Int) < s.size ∨ (¬ (k : Int) < s.size ∧ ∃ hlt : 0 < s.size,
      (((((s[0].toNat : Nat) : Int) == 48) = true ∧ (1 : Int) < s.size) ∨
       (Lib.trimS s.data.toList digits ≠ [] ∧ (((((s[0].toNat : Nat) : Int) == 48) = true ∧ ¬ (1 : Int) < s.size) ∨ (((s[0].toNat : Nat) : Int) == 48) = false)))))) := by
  by_cases h0 : s.data.toList = []
  · exact .inl (by rw [toList_data]; exact h0)
  · refine .inr ⟨by rw [toList_data]; simpa using h0, ?_⟩
    by_cases h3 : (k : Int) < s.size
    · exact .inl h3
    · refine .inr ⟨h3, ?_⟩
      have hlt : 0 < s.size := by
        rw [size_data]
        exact List.length_pos_iff.2 h0
      refine ⟨hlt, ?_⟩
      have hz : ∀ x : UInt8, s.data.toList.head? = some x → s[0] = x := by
        intro x hx
        have := List.head?_eq_getElem? (l := s.data.toList)
        rw [this] at hx
        have e : s.data.toList[0]? = some s[0] := by
          rw [Array.getElem?_toList]
          exact Array.getElem?_eq_getElem hlt
        rw [e] at hx
        exact Option.some.inj hx
      by_cases h4 : s[0].toNat = 48 ∧ 1 < s.size
      · obtain ⟨h5, h6⟩ := h4
        exact .inl ⟨by rw [beq_iff_eq]; omega, by omega⟩
      · right
        have hnd : s.data.toList.all isDig = false := by
          cases hc : s.data.toList.all isDig with
          | false => rfl
          | true =>
            exfalso
            have : okNum k s.data.toList = true := by
              unfold okNum
              rw [hc]
              have e1 : s.data.toList.isEmpty = false := by simpa using h0
              have e2 : s.data.toList.length ≤ k := by rw [← size_data]; omega
              rw [e1]
              simp only [Bool.not_false, Bool.true_and, Bool.and_true, Bool.and_eq_true, decide_eq_true_eq, Bool.not_eq_true', Bool.and_eq_false_iff]
              refine ⟨e2, ?_⟩
              by_cases h6 : 1 < s.size
              · left
                rw [beq_eq_false_iff_ne]
                intro hx
                have := hz 48 hx
                exact h4 ⟨by rw [this]; rfl, h6⟩
              · right
                rw [← size_data]
                simpa using h6
            rw [h] at this; cases this
        refine ⟨fun e => ?_, ?_⟩
        · rw [trim_digits] at e
          rw [hnd] at e; cases e
        · by_cases h5 : s[0].toNat = 48
          · left
            exact ⟨by rw [beq_iff_eq]; omega, fun hh => h4 ⟨h5, by omega⟩⟩
          · right
            rw [beq_eq_false_iff_ne]; omega
/-- What a number is. -/
theorem good_ways (s : ByteArray) (k : Nat) (h : okNum k s.data.toList = true) : s.toList.isEmpty = false ∧ ¬ (k : Int) < s.size ∧ s.data.toList ≠ [] ∧ s.data.toList.all isDig = true ∧ ∃ hlt : 0 < s.size,
    (((((s[0].toNat : Nat) : Int) == 48) = true ∧ ¬ (1 : Int) < s.size) ∨ (((s[0].toNat : Nat) : Int) == 48) = false) := by
  unfold okNum at h
  simp only [Bool.and_eq_true, decide_eq_true_eq, Bool.not_eq_true', Bool.and_eq_false_iff] at h
  obtain ⟨⟨⟨h0, h3⟩, hz⟩, hd⟩ := h
  have hne : s.data.toList ≠ [] := by simpa using h0
  have hlt : 0 < s.size := by
    rw [size_data]
    exact List.length_pos_iff.2 hne
  refine ⟨by rw [toList_data]; exact h0, by rw [size_data]; omega, hne, hd, hlt, ?_⟩
  by_cases h5 : s[0].toNat = 48
  · left
    refine ⟨by rw [beq_iff_eq]; omega, ?_⟩
    rcases hz with hz | hz
    · rw [beq_eq_false_iff_ne] at hz
      exfalso
      apply hz
      have e : s.data.toList[0]? = some s[0] := by
        rw [Array.getElem?_toList]
        exact Array.getElem?_eq_getElem hlt
      rw [List.head?_eq_getElem?, e]
      congr 1
      rw [← UInt8.toNat_inj, h5]; rfl
    · rw [← size_data] at hz
      simp at hz
      omega
  · right
    rw [beq_eq_false_iff_ne]; omega
set_option maxHeartbeats 1000000 in
theorem number_bad (g : Nat) (ws : Ws) (s : ByteArray) (hs : s.size ≤ 9223372036854775807) (W : World) (h : Rd 150 W g ws) (hn : okNum 9 s.data.toList = false) :
    Calls Tryz.prog 113 #[.pointer (some ⟨g, 0, none⟩), .string s] W fun e w' => e = .returned (.int .i64 0) ∧ Rd 150 w' g ⟨ws.l, true⟩ ∧ Upto g W w' := by
  have HH := Lib.hid h
  obtain ⟨c1, f1⟩ := h.cells
  clear h
  have ht := trim_any s W hs
  rcases bad_ways s 9 hn with h1 | ⟨h1, h3 | ⟨h3, hlt, ⟨h7, h8⟩ | ⟨htn, hz⟩⟩⟩
  · clear ht hn
    go_enter Tryz.func113, Tryz.ntmps113
    go_wp2_with fail
    go_ret
    exact ⟨rfl, HH.out.bad true, (Upto.refl _ _).set⟩
  · clear ht hn
    have h3' : (9 : Int) < s.size := h3
    clear h3
    go_enter Tryz.func113, Tryz.ntmps113
    go_wp2_with fail
    go_ret
    exact ⟨rfl, HH.out.bad true, (Upto.refl _ _).set⟩
  · clear ht hn
    have h3' : ¬ (9 : Int) < s.size := h3
    clear h3
    go_enter Tryz.func113, Tryz.ntmps113
    go_wp2_with fail
    go_ret
    exact ⟨rfl, HH.out.bad true, (Upto.refl _ _).set⟩
  · have h3' : ¬ (9 : Int) < s.size := h3
    clear h3 hn
    generalize Lib.trimS s.data.toList digits = tr at ht htn
    have hte : tr.isEmpty = false := by simpa using htn
    have HT := Lib.hid ht
    clear ht htn
    rcases hz with ⟨h7, h8⟩ | h7
    all_goals
      go_enter Tryz.func113, Tryz.ntmps113
      go_wp2_with (go_at_call 105; refine HT.out.mono ?_; rintro e w1 ⟨rfl, hb1⟩; have HR1 := Lib.hid (HH.out.below hb1); have HU := Lib.hid (Upto.of_below (g := g) hb1); clear hb1; obtain ⟨d1, e1⟩ := HR1.out.cells)
      go_ret
      exact ⟨rfl, HR1.out.bad true, HU.out.set⟩
set_option maxHeartbeats 1000000 in
theorem number_ok (g : Nat) (ws : Ws) (s : ByteArray) (W : World) (h : Rd 150 W g ws) (hn : okNum 9 s.data.toList = true) :
    Calls Tryz.prog 113 #[.pointer (some ⟨g, 0, none⟩), .string s] W fun e w' => e = .returned (.int .i64 (dv s.data.toList : Nat)) ∧ Rd 150 w' g ws ∧ Upto g W w' := by
  have HH := Lib.hid h
  clear h
  obtain ⟨h1, h3, hne, hd, hlt, hcase⟩ := good_ways s 9 hn
  have h3' : ¬ (9 : Int) < s.size := h3
  have ht := trim_any s W (by omega)
  rw [(trim_digits _).2 hd] at ht
  have HT := Lib.hid ht
  have ha := Lib.hid (fun W => Tryz.strconv_Atoi s _ (by omega) (atoi_digs _ hd hne) W)
  clear ht h3 hd hne hn
  generalize dv s.data.toList = v at ha ⊢
  have hnil : (⟨([] : List UInt8).toArray⟩ : ByteArray) = ⟨#[]⟩ := rfl
  rw [hnil] at HT
  rcases hcase with ⟨h7, h8⟩ | h7
  all_goals
    go_enter Tryz.func113, Tryz.ntmps113
    go_wp2_with (first
      | (go_at_call 105; refine HT.out.mono ?_; rintro e w1 ⟨rfl, hb1⟩; have HB1 := Lib.hid hb1; clear hb1)
      | (go_at_call 144; refine (ha.out _).mono ?_; rintro e w2 ⟨rfl, hw2⟩))
    go_ret
    obtain ⟨t, rfl⟩ := hw2
    exact ⟨rfl, HH.out.below (bstep HB1.out (bytes_world _ _ _) HB1.out.size), Upto.of_below (bstep HB1.out (bytes_world _ _ _) HB1.out.size)⟩
theorem number_any (g : Nat) (ws : Ws) (s : ByteArray) (hs : s.size ≤ 9223372036854775807) (W : World) (h : Rd 150 W g ws) :
    Calls Tryz.prog 113 #[.pointer (some ⟨g, 0, none⟩), .string s] W fun e w' => e = .returned (.int .i64 (numP ws s.data.toList).1) ∧ Rd 150 w' g (numP ws s.data.toList).2 ∧ Upto g W w' := by
  unfold numP
  by_cases hn : okNum 9 s.data.toList = true
  · rw [if_pos hn]
    exact number_ok g ws s W h hn
  · rw [if_neg hn]
    exact number_bad g ws s hs W h (by simpa using hn)
end Go.Proofs.YtnmbbnhgoedjgaaGreatDoor.Ru7

namespace Go.Proofs.YtnmbbnhgoedjgaaGreatDoor.Ru8
open Go Go.RowKit Go.Proofs.YtnmbbnhgoedjgaaGreatDoor.Ad1 Go.Proofs.YtnmbbnhgoedjgaaGreatDoor.St0 Go.Proofs.YtnmbbnhgoedjgaaGreatDoor.St1 Go.Proofs.YtnmbbnhgoedjgaaGreatDoor.St2 Go.Proofs.YtnmbbnhgoedjgaaGreatDoor.St3 Go.Proofs.YtnmbbnhgoedjgaaGreatDoor.St4 Go.Proofs.YtnmbbnhgoedjgaaGreatDoor.StA Go.Proofs.YtnmbbnhgoedjgaaGreatDoor.Ru0 Go.Proofs.YtnmbbnhgoedjgaaGreatDoor.Ru1 Go.Proofs.YtnmbbnhgoedjgaaGreatDoor.Ru6
set_option linter.unusedVariables false
set_option linter.unusedSimpArgs false
theorem proto_any (n : Int) (h0 : 0 ≤ n) (h1 : n ≤ 9223372036854775807) (w : World) (hl : LibOK w) :
    Calls Tryz.prog 129 #[.int .i64 n] w fun e w' => e = .returned (.string ⟨(protoW n).toArray⟩) ∧ Below w.heap.size w w' := by
  have HI := Lib.hid (itoa_any n (by omega) h1 w hl)
  go_enter Tryz.func129, Tryz.ntmps129
  go_wp2_with (go_at_call 75; refine HI.out.mono ?_; rintro e w1 ⟨rfl, hb1⟩; have HB1 := Lib.hid hb1; clear hb1)
  all_goals go_ret
  all_goals first | exact ⟨by simp_all [protoW, wIcmp, wTcp, wUdp], Below.refl _ _⟩ | exact ⟨by simp_all [protoW, wIcmp, wTcp, wUdp], HB1.out⟩
theorem rproto_any (n : Int) (h0 : 0 ≤ n) (h1 : n ≤ 9223372036854775807) (w : World) :
    Calls Tryz.prog 133 #[.int .i64 n] w fun e w' => e = .returned (.string ⟨(protoW n).toArray⟩) ∧ Below w.heap.size w w' := by
  have HI := Lib.hid (dec_len_any n h0 h1 w)
  go_enter Tryz.func133, Tryz.ntmps133
  go_wp2_with (go_at_call 82; refine HI.out.mono ?_; rintro e w1 ⟨rfl, hb1⟩; have HB1 := Lib.hid hb1; clear hb1)
  all_goals go_ret
  all_goals first | exact ⟨by simp_all [protoW, wIcmp, wTcp, wUdp], Below.refl _ _⟩ | exact ⟨by simp_all [protoW, wIcmp, wTcp, wUdp], HB1.out⟩
/-- The letters of the first k flags. -/
def lettersTo (n k : Nat) : Wd := (List.range k).filterMap fun i => if n.testBit i then letters[i]? else none
theorem to_no (n k : Nat) (h : n.testBit k = false) : lettersTo n (k + 1) = lettersTo n k := by
  unfold lettersTo
  rw [List.range_succ, List.filterMap_append]
  simp [h]
theorem to_yes (n k : Nat) (b : UInt8) (h : n.testBit k = true) (hb : letters[k]? = some b) : lettersTo n (k + 1) = lettersTo n k ++ [b] := by
  unfold lettersTo
  rw [List.range_succ, List.filterMap_append]
  simp [h, hb]
theorem str_app (a b : Wd) : (⟨a.toArray⟩ : ByteArray) ++ ⟨b.toArray⟩ = ⟨(a ++ b).toArray⟩ := by
  apply ByteArray.ext
  apply Array.ext'
  simp
theorem to_len (n k : Nat) : (lettersTo n k).length ≤ k := by
  unfold lettersTo
  have := List.length_filterMap_le (fun i => if n.testBit i then letters[i]? else none) (List.range k)
  simpa using this
theorem to_six (n : Nat) : lettersTo n 6 = flagsL n := rfl
theorem bit0 (n : Nat) (h : n < 64) : (bits .and .i64 (n : Int) 1 == 1) = n.testBit 0 := by
  have : ∀ n : Fin 64, (bits .and .i64 ((n.val : Nat) : Int) 1 == 1) = n.val.testBit 0 := by decide +kernel
  exact this ⟨n, h⟩
theorem bit1 (n : Nat) (h : n < 64) : (bits .and .i64 ((n : Int) / 2) 1 == 1) = n.testBit 1 := by
  have : ∀ n : Fin 64, (bits .and .i64 (((n.val : Nat) : Int) / 2) 1 == 1) = n.val.testBit 1 := by decide +kernel
  exact this ⟨n, h⟩
theorem bit2 (n : Nat) (h : n < 64) : (bits .and .i64 ((n : Int) / 4) 1 == 1) = n.testBit 2 := by
  have : ∀ n : Fin 64, (bits .and .i64 (((n.val : Nat) : Int) / 4) 1 == 1) = n.val.testBit 2 := by decide +kernel
  exact this ⟨n, h⟩
theorem bit3 (n : Nat) (h : n < 64) : (bits .and .i64 ((n : Int) / 8) 1 == 1) = n.testBit 3 := by
  have : ∀ n : Fin 64, (bits .and .i64 (((n.val : Nat) : Int) / 8) 1 == 1) = n.val.testBit 3 := by decide +kernel
  exact this ⟨n, h⟩
theorem bit4 (n : Nat) (h : n < 64) : (bits .and .i64 ((n : Int) / 16) 1 == 1) = n.testBit 4 := by
  have : ∀ n : Fin 64, (bits .and .i64 (((n.val : Nat) : Int) / 16) 1 == 1) = n.val.testBit 4 := by decide +kernel
  exact this ⟨n, h⟩
theorem bit5 (n : Nat) (h : n < 64) : (bits .and .i64 ((n : Int) / 32) 1 == 1) = n.testBit 5 := by
  have : ∀ n : Fin 64, (bits .and .i64 (((n.val : Nat) : Int) / 32) 1 == 1) = n.val.testBit 5 := by decide +kernel
  exact this ⟨n, h⟩
set_option maxHeartbeats 2000000 in
theorem flags_any (n : Nat) (hn : n < 64) (w : World) :
    Calls Tryz.prog 131 #[.int .i64 n] w fun e w' => e = .returned (.string ⟨(flagsW n).toArray⟩) ∧ w' = w := by
  go_enter Tryz.func131, Tryz.ntmps131
  go_wp2
  go_loop [3, 5] (fun s i => ∃ k : Nat, k ≤ 6 ∧ i = .int .i64 k ∧ s = .string ⟨(lettersTo n k).toArray⟩) (fun _ i => 6 - (intOf i).toNat)
  case atStart => exact ⟨0, by omega, rfl, rfl⟩
  case round =>
    obtain ⟨k, hk, rfl, rfl⟩ := hrel
    match k, hk with
    | 0, _ =>
      have hb := bit0 n hn
      have hlen := to_len n 0
      cases ht : n.testBit 0 with
      | true =>
        rw [ht] at hb
        have HY := Lib.hid (to_yes n 0 70 ht rfl)
        clear ht
        go_wp2
        go_round
        case rel => exact ⟨1, by omega, rfl, by rw [HY.out, ← str_app]; exact congrArg (fun x => Value.string ((⟨(lettersTo n 0).toArray⟩ : ByteArray) ++ x)) rfl⟩
        case measure => simp [intOf]
      | false =>
        rw [ht] at hb
        have HY := Lib.hid (to_no n 0 ht)
        clear ht
        go_wp2
        go_round
        case rel => exact ⟨1, by omega, rfl, by rw [HY.out]⟩
        case measure => simp [intOf]
    | 1, _ =>
      have hb := bit1 n hn
      have hlen := to_len n 1
      cases ht : n.testBit 1 with
      | true =>
        rw [ht] at hb
        have HY := Lib.hid (to_yes n 1 83 ht rfl)
        clear ht
        go_wp2
        go_round
        case rel => exact ⟨2, by omega, rfl, by rw [HY.out, ← str_app]; exact congrArg (fun x => Value.string ((⟨(lettersTo n 1).toArray⟩ : ByteArray) ++ x)) rfl⟩
        case measure => simp [intOf]
      | false =>
        rw [ht] at hb
        have HY := Lib.hid (to_no n 1 ht)
        clear ht
        go_wp2
        go_round
        case rel => exact ⟨2, by omega, rfl, by rw [HY.out]⟩
        case measure => simp [intOf]
    | 2, _ =>
      have hb := bit2 n hn
      have hlen := to_len n 2
      cases ht : n.testBit 2 with
      | true =>
        rw [ht] at hb
        have HY := Lib.hid (to_yes n 2 82 ht rfl)
        clear ht
        go_wp2
        go_round
        case rel => exact ⟨3, by omega, rfl, by rw [HY.out, ← str_app]; exact congrArg (fun x => Value.string ((⟨(lettersTo n 2).toArray⟩ : ByteArray) ++ x)) rfl⟩
        case measure => simp [intOf]
      | false =>
        rw [ht] at hb
        have HY := Lib.hid (to_no n 2 ht)
        clear ht
        go_wp2
        go_round
        case rel => exact ⟨3, by omega, rfl, by rw [HY.out]⟩
        case measure => simp [intOf]
    | 3, _ =>
      have hb := bit3 n hn
      have hlen := to_len n 3
      cases ht : n.testBit 3 with
      | true =>
        rw [ht] at hb
        have HY := Lib.hid (to_yes n 3 80 ht rfl)
        clear ht
        go_wp2
        go_round
        case rel => exact ⟨4, by omega, rfl, by rw [HY.out, ← str_app]; exact congrArg (fun x => Value.string ((⟨(lettersTo n 3).toArray⟩ : ByteArray) ++ x)) rfl⟩
        case measure => simp [intOf]
      | false =>
        rw [ht] at hb
        have HY := Lib.hid (to_no n 3 ht)
        clear ht
        go_wp2
        go_round
        case rel => exact ⟨4, by omega, rfl, by rw [HY.out]⟩
        case measure => simp [intOf]
    | 4, _ =>
      have hb := bit4 n hn
      have hlen := to_len n 4
      cases ht : n.testBit 4 with
      | true =>
        rw [ht] at hb
        have HY := Lib.hid (to_yes n 4 65 ht rfl)
        clear ht
        go_wp2
        go_round
        case rel => exact ⟨5, by omega, rfl, by rw [HY.out, ← str_app]; exact congrArg (fun x => Value.string ((⟨(lettersTo n 4).toArray⟩ : ByteArray) ++ x)) rfl⟩
        case measure => simp [intOf]
      | false =>
        rw [ht] at hb
        have HY := Lib.hid (to_no n 4 ht)
        clear ht
        go_wp2
        go_round
        case rel => exact ⟨5, by omega, rfl, by rw [HY.out]⟩
        case measure => simp [intOf]
    | 5, _ =>
      have hb := bit5 n hn
      have hlen := to_len n 5
      cases ht : n.testBit 5 with
      | true =>
        rw [ht] at hb
        have HY := Lib.hid (to_yes n 5 85 ht rfl)
        clear ht
        go_wp2
        go_round
        case rel => exact ⟨6, by omega, rfl, by rw [HY.out, ← str_app]; exact congrArg (fun x => Value.string ((⟨(lettersTo n 5).toArray⟩ : ByteArray) ++ x)) rfl⟩
        case measure => simp [intOf]
      | false =>
        rw [ht] at hb
        have HY := Lib.hid (to_no n 5 ht)
        clear ht
        go_wp2
        go_round
        case rel => exact ⟨6, by omega, rfl, by rw [HY.out]⟩
        case measure => simp [intOf]
    | 6, _ =>
      rw [to_six]
      by_cases hf : flagsL n = []
      · have hq : (flagsL n).isEmpty = true := by rw [hf]; rfl
        have hz : flagsW n = [45] := by unfold flagsW; rw [if_pos hf]
        have HZ := Lib.hid hz
        clear hz
        generalize flagsL n = fl at hf hq ⊢
        subst hf
        go_wp2
        go_ret
        exact ⟨(congrArg (fun x : Wd => Ending.returned (.string ⟨x.toArray⟩)) HZ.out).symm, rfl⟩
      · have hq : (flagsL n).isEmpty = false := by simpa using hf
        have hz : flagsW n = flagsL n := by unfold flagsW; rw [if_neg hf]
        have HZ := Lib.hid hz
        clear hz hf
        generalize flagsL n = fl at hq HZ ⊢
        go_wp2
        go_ret
        exact ⟨(congrArg (fun x : Wd => Ending.returned (.string ⟨x.toArray⟩)) HZ.out).symm, rfl⟩
set_option maxHeartbeats 2000000 in
theorem letters_any (n : Nat) (hn : n < 64) (w : World) :
    Calls Tryz.prog 135 #[.int .i64 n] w fun e w' => e = .returned (.string ⟨(flagsW n).toArray⟩) ∧ w' = w := by
  go_enter Tryz.func135, Tryz.ntmps135
  go_wp2
  go_loop [3, 4] (fun s i => ∃ k : Nat, k ≤ 6 ∧ i = .int .i64 k ∧ s = .string ⟨(lettersTo n k).toArray⟩) (fun _ i => 6 - (intOf i).toNat)
  case atStart => exact ⟨0, by omega, rfl, rfl⟩
  case round =>
    obtain ⟨k, hk, rfl, rfl⟩ := hrel
    match k, hk with
    | 0, _ =>
      have hb := bit0 n hn
      have hlen := to_len n 0
      cases ht : n.testBit 0 with
      | true =>
        rw [ht] at hb
        have HY := Lib.hid (to_yes n 0 70 ht rfl)
        clear ht
        go_wp2
        go_round
        case rel => exact ⟨1, by omega, rfl, by rw [HY.out, ← str_app]; exact congrArg (fun x => Value.string ((⟨(lettersTo n 0).toArray⟩ : ByteArray) ++ x)) rfl⟩
        case measure => simp [intOf]
      | false =>
        rw [ht] at hb
        have HY := Lib.hid (to_no n 0 ht)
        clear ht
        go_wp2
        go_round
        case rel => exact ⟨1, by omega, rfl, by rw [HY.out]⟩
        case measure => simp [intOf]
    | 1, _ =>
      have hb := bit1 n hn
      have hlen := to_len n 1
      cases ht : n.testBit 1 with
      | true =>
        rw [ht] at hb
        have HY := Lib.hid (to_yes n 1 83 ht rfl)
        clear ht
        go_wp2
        go_round
        case rel => exact ⟨2, by omega, rfl, by rw [HY.out, ← str_app]; exact congrArg (fun x => Value.string ((⟨(lettersTo n 1).toArray⟩ : ByteArray) ++ x)) rfl⟩
        case measure => simp [intOf]
      | false =>
        rw [ht] at hb
        have HY := Lib.hid (to_no n 1 ht)
        clear ht
        go_wp2
        go_round
        case rel => exact ⟨2, by omega, rfl, by rw [HY.out]⟩
        case measure => simp [intOf]
    | 2, _ =>
      have hb := bit2 n hn
      have hlen := to_len n 2
      cases ht : n.testBit 2 with
      | true =>
        rw [ht] at hb
        have HY := Lib.hid (to_yes n 2 82 ht rfl)
        clear ht
        go_wp2
        go_round
        case rel => exact ⟨3, by omega, rfl, by rw [HY.out, ← str_app]; exact congrArg (fun x => Value.string ((⟨(lettersTo n 2).toArray⟩ : ByteArray) ++ x)) rfl⟩
        case measure => simp [intOf]
      | false =>
        rw [ht] at hb
        have HY := Lib.hid (to_no n 2 ht)
        clear ht
        go_wp2
        go_round
        case rel => exact ⟨3, by omega, rfl, by rw [HY.out]⟩
        case measure => simp [intOf]
    | 3, _ =>
      have hb := bit3 n hn
      have hlen := to_len n 3
      cases ht : n.testBit 3 with
      | true =>
        rw [ht] at hb
        have HY := Lib.hid (to_yes n 3 80 ht rfl)
        clear ht
        go_wp2
        go_round
        case rel => exact ⟨4, by omega, rfl, by rw [HY.out, ← str_app]; exact congrArg (fun x => Value.string ((⟨(lettersTo n 3).toArray⟩ : ByteArray) ++ x)) rfl⟩
        case measure => simp [intOf]
      | false =>
        rw [ht] at hb
        have HY := Lib.hid (to_no n 3 ht)
        clear ht
        go_wp2
        go_round
        case rel => exact ⟨4, by omega, rfl, by rw [HY.out]⟩
        case measure => simp [intOf]
    | 4, _ =>
      have hb := bit4 n hn
      have hlen := to_len n 4
      cases ht : n.testBit 4 with
      | true =>
        rw [ht] at hb
        have HY := Lib.hid (to_yes n 4 65 ht rfl)
        clear ht
        go_wp2
        go_round
        case rel => exact ⟨5, by omega, rfl, by rw [HY.out, ← str_app]; exact congrArg (fun x => Value.string ((⟨(lettersTo n 4).toArray⟩ : ByteArray) ++ x)) rfl⟩
        case measure => simp [intOf]
      | false =>
        rw [ht] at hb
        have HY := Lib.hid (to_no n 4 ht)
        clear ht
        go_wp2
        go_round
        case rel => exact ⟨5, by omega, rfl, by rw [HY.out]⟩
        case measure => simp [intOf]
    | 5, _ =>
      have hb := bit5 n hn
      have hlen := to_len n 5
      cases ht : n.testBit 5 with
      | true =>
        rw [ht] at hb
        have HY := Lib.hid (to_yes n 5 85 ht rfl)
        clear ht
        go_wp2
        go_round
        case rel => exact ⟨6, by omega, rfl, by rw [HY.out, ← str_app]; exact congrArg (fun x => Value.string ((⟨(lettersTo n 5).toArray⟩ : ByteArray) ++ x)) rfl⟩
        case measure => simp [intOf]
      | false =>
        rw [ht] at hb
        have HY := Lib.hid (to_no n 5 ht)
        clear ht
        go_wp2
        go_round
        case rel => exact ⟨6, by omega, rfl, by rw [HY.out]⟩
        case measure => simp [intOf]
    | 6, _ =>
      rw [to_six]
      by_cases hf : flagsL n = []
      · have hq : (flagsL n).isEmpty = true := by rw [hf]; rfl
        have hz : flagsW n = [45] := by unfold flagsW; rw [if_pos hf]
        have HZ := Lib.hid hz
        clear hz
        generalize flagsL n = fl at hf hq ⊢
        subst hf
        go_wp2
        go_ret
        exact ⟨(congrArg (fun x : Wd => Ending.returned (.string ⟨x.toArray⟩)) HZ.out).symm, rfl⟩
      · have hq : (flagsL n).isEmpty = false := by simpa using hf
        have hz : flagsW n = flagsL n := by unfold flagsW; rw [if_neg hf]
        have HZ := Lib.hid hz
        clear hz hf
        generalize flagsL n = fl at hq HZ ⊢
        go_wp2
        go_ret
        exact ⟨(congrArg (fun x : Wd => Ending.returned (.string ⟨x.toArray⟩)) HZ.out).symm, rfl⟩
end Go.Proofs.YtnmbbnhgoedjgaaGreatDoor.Ru8
/- rule.words.bits, proto, pin, look: parts of a rule, read. -/
namespace Go.Proofs.YtnmbbnhgoedjgaaGreatDoor.Ru9
open Go Go.RowKit Go.Proofs.YtnmbbnhgoedjgaaGreatDoor.Ad1 Go.Proofs.YtnmbbnhgoedjgaaGreatDoor.St0 Go.Proofs.YtnmbbnhgoedjgaaGreatDoor.St1 Go.Proofs.YtnmbbnhgoedjgaaGreatDoor.St2 Go.Proofs.YtnmbbnhgoedjgaaGreatDoor.St3 Go.Proofs.YtnmbbnhgoedjgaaGreatDoor.St4 Go.Proofs.YtnmbbnhgoedjgaaGreatDoor.StA Go.Proofs.YtnmbbnhgoedjgaaGreatDoor.Ru0 Go.Proofs.YtnmbbnhgoedjgaaGreatDoor.Ru1 Go.Proofs.YtnmbbnhgoedjgaaGreatDoor.Ru6 Go.Proofs.YtnmbbnhgoedjgaaGreatDoor.Ru8
set_option linter.unusedVariables false
set_option linter.unusedSimpArgs false
theorem bits_hit (w : Ws) (s : Wd) (k : Nat) (hk : k < 64) (h : flagsW k = s) (hn : ∀ j, j < k → flagsW j ≠ s) : bitsF w s = (((k : Nat) : Int), w) := by
  unfold bitsF
  have : ((List.range 64).find? fun n => flagsW n == s) = some k := by
    rw [List.find?_eq_some_iff_getElem]
    refine ⟨by simpa using h, k, by simpa using hk, by simp, fun j hj => ?_⟩
    simpa using hn j hj
  rw [this]
theorem bits_miss (w : Ws) (s : Wd) (hn : ∀ j, j < 64 → flagsW j ≠ s) : bitsF w s = (0, ⟨w.l, true⟩) := by
  unfold bitsF
  have : ((List.range 64).find? fun n => flagsW n == s) = none := by
    rw [List.find?_eq_none]
    intro j hj
    simpa using hn j (by simpa using hj)
  rw [this]
set_option maxHeartbeats 1000000 in
theorem bits_any (g : Nat) (ws : Ws) (s : ByteArray) (W : World) (h : Rd 150 W g ws) :
    Calls Tryz.prog 157 #[.pointer (some ⟨g, 0, none⟩), .string s] W fun e w' => e = .returned (.int .i64 (bitsF ws s.data.toList).1) ∧ Rd 150 w' g (bitsF ws s.data.toList).2 ∧ Upto g W w' := by
  have HH := Lib.hid h
  obtain ⟨c1, f1⟩ := h.cells
  clear h
  go_enter Tryz.func157, Tryz.ntmps157
  go_wp2
  go_loopw [6] (fun i wr => ∃ k : Nat, k ≤ 64 ∧ i = .int .i64 k ∧ (∀ j, j < k → flagsW j ≠ s.data.toList) ∧ W = wr) (fun i _ => 64 - (intOf i).toNat)
  case atStart => exact ⟨0, by omega, rfl, fun j hj => absurd hj (by omega), rfl⟩
  case round =>
    obtain ⟨k, hk, rfl, hno, rfl⟩ := hrel
    have HN := Lib.hid hno
    clear hno
    by_cases hlt : k < 64
    · have HF := Lib.hid (flags_any k hlt W)
      by_cases he : flagsW k = s.data.toList
      · have hq : (flagsW k == s.toList) = true := by rw [toList_data, beq_iff_eq]; exact he
        have HE := Lib.hid (bits_hit ws _ k hlt he HN.out)
        clear he
        generalize flagsW k = fl at hq HF
        go_wp2_with (go_at_call 131; refine HF.out.mono ?_; rintro e w1 ⟨rfl, rfl⟩)
        go_ret
        exact ⟨by rw [HE.out]; rfl, by rw [HE.out]; exact HH.out, Upto.refl _ _⟩
      · have hq : (flagsW k == s.toList) = false := by rw [toList_data, beq_eq_false_iff_ne]; exact he
        have HE := Lib.hid he
        clear he
        generalize hfl : flagsW k = fl at hq HF
        have HFL := Lib.hid hfl
        clear hfl
        go_wp2_with (go_at_call 131; refine HF.out.mono ?_; rintro e w1 ⟨rfl, rfl⟩)
        go_roundw
        case rel =>
          refine ⟨k + 1, by omega, by go_num, fun j hj => ?_, trivial⟩
          by_cases e : j = k
          · subst e; exact HE.out
          · exact HN.out j (by omega)
        case measure => simp [intOf]; omega
    · obtain rfl : k = 64 := by omega
      have HE := Lib.hid (bits_miss ws _ HN.out)
      go_wp2
      go_ret
      exact ⟨by rw [HE.out]; rfl, by rw [HE.out]; exact HH.out.bad true, (Upto.refl _ _).set⟩
theorem nextF_short {T : TypeId} {W : World} {g : Nat} {ws : Ws} (h : Rd T W g ws) : (nextF ws).1.length < 4294967281 := by
  obtain ⟨l, bad⟩ := ws
  cases l with
  | nil => simp [nextF]
  | cons x t => exact h.short x (by simp)
theorem wd_size (l : Wd) : (⟨l.toArray⟩ : ByteArray).size = l.length := by rw [size_data]
theorem orBad_eq (w : Ws) (b : Bool) : w.orBad b = ⟨w.l, w.bad || b⟩ := rfl
theorem box3 {w : World} {g : Nat} {x y z : Value} {T : TypeId} (h : w.heap[g]? = some (.cells #[x, y, z] T (0, 0))) :
    w.cell? ⟨g, 0, none⟩ = some x ∧ w.cell? ⟨g, 1, none⟩ = some y ∧ w.cell? ⟨g, 2, none⟩ = some z ∧ w.frozen? ⟨g, 0, none⟩ = false ∧ w.frozen? ⟨g, 1, none⟩ = false ∧ w.frozen? ⟨g, 2, none⟩ = false :=
  ⟨(cell_of_row _ _ 0 _ _ _ h).trans rfl, (cell_of_row _ _ 1 _ _ _ h).trans rfl, (cell_of_row _ _ 2 _ _ _ h).trans rfl, frozen_of_row _ _ 0 _ _ h, frozen_of_row _ _ 1 _ _ h, frozen_of_row _ _ 2 _ _ h⟩
/-- A result out of a box. -/
theorem box_ret1 {P : Program} {fn : Func} {R : Ending → World → Prop} {a : Act} {w : World} {t : Tmp} {T : TypeId} {g : Nat} {c : Array Value} {fr : Nat × Nat} {fs : Array Field}
    (hc : w.heap[g]? = some (.cells c T fr)) (h : fn.results = #[.cell t T]) 
    (ht : a.tmps.getD t undef = .pointer (some ⟨g, 0, none⟩)) (hu : P.underlying T = some (.struct fs)) (hi : (P.info? T).map (·.size) = some c.size)
    (hd : a.defers = []) (hR : R (.returned (.agg c)) w) : bodyPost P fn R .ret a w :=
  bodyPost_ret (results_cell_row h _ _ _ _ _ _ _ ht hc hu rfl hi) hd hR
/-- A text as an address, its two ways told. -/
theorem parse_two (s : Wd) (hs : s.length < 4294967281) (W : World) (hl : LibOK W) : Calls Tryz.prog 147 #[.string ⟨s.toArray⟩] W fun e w' => e = .returned (.tuple #[.int .u32 ((parseL s).getD 0 : Nat), .int .i64 (if (parseL s).isNone then 2 else 0)]) ∧ Below W.heap.size W w' := by
  refine (parse_any ⟨s.toArray⟩ (by rw [wd_size]; exact hs) W hl).mono ?_
  rintro e w' ⟨rfl, hb⟩
  refine ⟨?_, hb⟩
  have : (⟨s.toArray⟩ : ByteArray).data.toList = s := rfl
  rw [this]
  cases parseL s <;> rfl
set_option maxHeartbeats 1000000 in
/-- A pin. -/
theorem pin_any (g : Nat) (ws : Ws) (word : Array UInt8) (W : World) (h : Rd 150 W g ws) (hl : LibOK W) (hG : LibLow g) :
    Calls Tryz.prog 112 #[.pointer (some ⟨g, 0, none⟩), .string ⟨word⟩] W fun e w' => e = .returned (.agg #[.bool (pinF ws word.toList).1.on, .string ⟨(pinF ws word.toList).1.iface.toArray⟩, .int .u32 ((pinF ws word.toList).1.gate : Nat)]) ∧ Rd 150 w' g (pinF ws word.toList).2 ∧ Upto g W w' := by
  have HB0 := Lib.hid (bnew W (.cells #[.bool false, .string ⟨#[]⟩, .int .u32 0] 73))
  have HH := Lib.hid (h.below HB0.out)
  have hlt := h.lt
  have hne : W.heap.size ≠ g := by omega
  have HL0 := Lib.hid (hl.below HB0.out)
  have HX := Lib.hid (heap_alloc_new W (.cells #[.bool false, .string ⟨#[]⟩, .int .u32 0] 73))
  have KT := Lib.hid (fun W' hr => takes_any g ws word W' hr)
  clear h hl
  unfold pinF
  generalize takesP ws word.toList = tk at KT ⊢
  obtain ⟨b, w1⟩ := tk
  dsimp only at KT
  cases b with
  | false =>
    go_enter Tryz.func112, Tryz.ntmps112
    go_wp2_with (go_at_call 107; refine (KT.out _ HH.out).mono ?_; rintro e W1 ⟨rfl, hr1, hu1⟩; have HR1 := Lib.hid hr1; have HU1 := Lib.hid hu1; have HX1 := Lib.hid (hu1.row HX.out hne); obtain ⟨a0, a1, a2, a3, a4, a5⟩ := box3 HX1.out; clear hr1 hu1)
    have hr := set_at (k := 2) (v := .int .u32 0) (set_at (k := 1) (v := .string ⟨#[]⟩) (set_at (k := 0) (v := .bool false) HX1.out))
    refine box_ret1 hr rfl rfl Tryz.underlying73 (by kernel_rfl) rfl ⟨rfl, HR1.out.above ?_, ?_⟩
    · exact set_b (set_b (set_b (Below.refl _ _) (by omega)) (by omega)) (by omega)
    · exact ((((Upto.of_below HB0.out).trans HU1.out).set_new (Nat.le_refl _)).set_new (Nat.le_refl _)).set_new (Nat.le_refl _)
  | true =>
    dsimp only
    simp only [if_true]
    have KN1 := Lib.hid (fun W' hr => next_any g w1 W' hr)
    generalize nextF w1 = n1 at KN1 ⊢
    have KN2 := Lib.hid (fun W' hr => next_any g n1.2 W' hr)
    have KP := Lib.hid (fun W' hs hl => parse_two (nextF n1.2).1 hs W' hl)
    have KS := Lib.hid (fun W' (hr : Rd 150 W' g n1.2) => nextF_short hr)
    generalize nextF n1.2 = n2 at KN2 KP KS ⊢
    generalize (parseL n2.1).getD 0 = ga at KP ⊢
    generalize (parseL n2.1).isNone = no at KP ⊢
    cases no <;> cases hbad : n2.2.bad
    all_goals
      have HBAD := Lib.hid hbad
      clear hbad
      go_enter Tryz.func112, Tryz.ntmps112
      go_wp2_with fail
      refine (KT.out _ HH.out).mono ?_
      rintro e W1 ⟨rfl, hr1, hu1⟩
      have HR1 := Lib.hid hr1
      have HU1 := Lib.hid ((Upto.of_below HB0.out).trans hu1)
      have HX1 := Lib.hid (hu1.row HX.out hne)
      have HL1 := Lib.hid (lib_upto HL0.out hu1 hG (by simp; omega))
      clear hr1 hu1
      go_wp2_with fail
      refine (KN1.out _ HR1.out).mono ?_
      rintro e W2 ⟨rfl, hr1, hu1⟩
      have HR2 := Lib.hid hr1
      have HU2 := Lib.hid (HU1.out.trans hu1)
      have HX2 := Lib.hid (hu1.row HX1.out hne)
      have HL2 := Lib.hid (lib_upto HL1.out hu1 hG (Nat.le_of_lt HR1.out.lt))
      clear hr1 hu1
      go_wp2_with fail
      refine (KN2.out _ HR2.out).mono ?_
      rintro e W3 ⟨rfl, hr1, hu1⟩
      have HR3 := Lib.hid hr1
      have HU3 := Lib.hid (HU2.out.trans hu1)
      have HX3 := Lib.hid (hu1.row HX2.out hne)
      have HL3 := Lib.hid (lib_upto HL2.out hu1 hG (Nat.le_of_lt HR2.out.lt))
      clear hr1 hu1
      go_wp2_with fail
      refine (KP.out _ (KS.out _ HR2.out) HL3.out).mono ?_
      rintro e W4 ⟨rfl, hb1⟩
      have HR4 := Lib.hid (HR3.out.below hb1)
      have HU4 := Lib.hid (HU3.out.trans (Upto.of_below hb1))
      have HX4 := row_step HX3 hb1
      obtain ⟨a0, a1, a2, a3, a4, a5⟩ := box3 HX4.out
      obtain ⟨c1, f1⟩ := HR4.out.cells
      rw [HBAD.out] at c1
      clear hb1
      go_wp2_with fail
      refine box_ret1 (set_at (set_at (set_at ((heap_setCell_other _ _ _ _ hne).trans HX4.out)))) rfl rfl Tryz.underlying73 (by kernel_rfl) rfl ⟨rfl, ?_, ?_⟩
      · rw [orBad_eq, HBAD.out]
        exact (HR4.out.bad _).above (set_b (set_b (set_b (Below.refl _ _) (by omega)) (by omega)) (by omega))
      · exact (((HU4.out.set).set_new (Nat.le_refl _)).set_new (Nat.le_refl _)).set_new (Nat.le_refl _)
end Go.Proofs.YtnmbbnhgoedjgaaGreatDoor.Ru9

namespace Go.Proofs.YtnmbbnhgoedjgaaGreatDoor.RuA
open Go Go.RowKit Go.Proofs.YtnmbbnhgoedjgaaGreatDoor.St0 Go.Proofs.YtnmbbnhgoedjgaaGreatDoor.St2 Go.Proofs.YtnmbbnhgoedjgaaGreatDoor.Ru0 Go.Proofs.YtnmbbnhgoedjgaaGreatDoor.Ru1 Go.Proofs.YtnmbbnhgoedjgaaGreatDoor.Ru6 Go.Proofs.YtnmbbnhgoedjgaaGreatDoor.Ru7 Go.Proofs.YtnmbbnhgoedjgaaGreatDoor.Ru8 Go.Proofs.YtnmbbnhgoedjgaaGreatDoor.Ru9
set_option linter.unusedVariables false
set_option linter.unusedSimpArgs false
theorem okNum_lt {l : Wd} (h : okNum 9 l = true) : dv l < 1000000000 := by
  unfold okNum at h
  simp only [Bool.and_eq_true, decide_eq_true_eq] at h
  obtain ⟨⟨⟨h0, h3⟩, hz⟩, hd⟩ := h
  have h1 := dvF_lt l 0 hd
  have h2 : 10 ^ l.length ≤ 10 ^ 9 := Nat.pow_le_pow_right (by decide) h3
  unfold dv
  omega
theorem numP_range (w : Ws) (l : Wd) : 0 ≤ (numP w l).1 ∧ (numP w l).1 < 1000000000 := by
  unfold numP
  split
  · rename_i h
    have := okNum_lt h
    dsimp only
    omega
  · dsimp only; omega
set_option maxHeartbeats 2000000 in
theorem wproto_any (g : Nat) (ws : Ws) (W : World) (h : Rd 150 W g ws) (hl : LibOK W) (hG : LibLow g) :
    Calls Tryz.prog 109 #[.pointer (some ⟨g, 0, none⟩)] W fun e w' => e = .returned (.int .i64 (protoP ws).1) ∧ Rd 150 w' g (protoP ws).2 ∧ Upto g W w' := by
  have HH := Lib.hid h
  have HL := Lib.hid hl
  have hlt := h.lt
  have KN := Lib.hid (fun W' hr => next_any g ws W' hr)
  have KS := Lib.hid (nextF_short h)
  clear h hl
  unfold protoP
  dsimp only
  generalize nextF ws = n at KN KS ⊢
  obtain ⟨x, w1⟩ := n
  dsimp only at KN KS ⊢
  by_cases h1 : x = wIcmp
  · subst h1
    rw [if_pos rfl]
    have q1 : (wIcmp == [105, 99, 109, 112]) = true := rfl
    go_enter Tryz.func109, Tryz.ntmps109
    go_wp2_with (go_at_call 108; refine (KN.out _ HH.out).mono ?_; rintro e W1 ⟨rfl, hr1, hu1⟩; have HR1 := Lib.hid hr1; have HU1 := Lib.hid hu1; clear hr1 hu1)
    go_ret
    exact ⟨rfl, HR1.out, HU1.out⟩
  have q1 : (x == [105, 99, 109, 112]) = false := by rw [beq_eq_false_iff_ne]; exact h1
  rw [if_neg h1]
  clear h1
  by_cases h2 : x = wTcp
  · subst h2
    rw [if_pos rfl]
    have q2 : (wTcp == [116, 99, 112]) = true := rfl
    go_enter Tryz.func109, Tryz.ntmps109
    go_wp2_with (go_at_call 108; refine (KN.out _ HH.out).mono ?_; rintro e W1 ⟨rfl, hr1, hu1⟩; have HR1 := Lib.hid hr1; have HU1 := Lib.hid hu1; clear hr1 hu1)
    go_ret
    exact ⟨rfl, HR1.out, HU1.out⟩
  have q2 : (x == [116, 99, 112]) = false := by rw [beq_eq_false_iff_ne]; exact h2
  rw [if_neg h2]
  clear h2
  by_cases h3 : x = wUdp
  · subst h3
    rw [if_pos rfl]
    have q3 : (wUdp == [117, 100, 112]) = true := rfl
    go_enter Tryz.func109, Tryz.ntmps109
    go_wp2_with (go_at_call 108; refine (KN.out _ HH.out).mono ?_; rintro e W1 ⟨rfl, hr1, hu1⟩; have HR1 := Lib.hid hr1; have HU1 := Lib.hid hu1; clear hr1 hu1)
    go_ret
    exact ⟨rfl, HR1.out, HU1.out⟩
  have q3 : (x == [117, 100, 112]) = false := by rw [beq_eq_false_iff_ne]; exact h3
  rw [if_neg h3]
  clear h3
  have KM := Lib.hid (fun W' hr => number_any g w1 ⟨x.toArray⟩ (by rw [wd_size]; have := KS.out; omega) W' hr)
  have hx : (⟨x.toArray⟩ : ByteArray).data.toList = x := rfl
  rw [hx] at KM
  obtain ⟨r0, r1⟩ := numP_range w1 x
  generalize numP w1 x = m at KM r0 r1 ⊢
  obtain ⟨v, w2⟩ := m
  dsimp only at KM r0 r1 ⊢
  have KP := Lib.hid (fun W' hl => proto_any v r0 (by omega) W' hl)
  clear hx
  cases hbad : w2.bad with
  | true =>
    have HBAD := Lib.hid hbad
    clear hbad
    go_enter Tryz.func109, Tryz.ntmps109
    go_wp2_with (first
      | (go_at_call 108; refine (KN.out _ HH.out).mono ?_; rintro e W1 ⟨rfl, hr1, hu1⟩; have HR1 := Lib.hid hr1; have HU1 := Lib.hid hu1; clear hr1 hu1)
      | (go_at_call 113; refine (KM.out _ HR1.out).mono ?_; rintro e W2 ⟨rfl, hr1, hu1⟩; have HR2 := Lib.hid hr1; have HU2 := Lib.hid (HU1.out.trans hu1); clear hr1 hu1; obtain ⟨c1, f1⟩ := HR2.out.cells; rw [HBAD.out] at c1))
    go_ret
    exact ⟨rfl, by rw [orBad_eq, HBAD.out]; exact HR2.out.bad _, HU2.out.set⟩
  | false =>
    have HBAD := Lib.hid hbad
    clear hbad
    by_cases hv : v = 0
    · subst hv
      go_enter Tryz.func109, Tryz.ntmps109
      go_wp2_with (first
        | (go_at_call 108; refine (KN.out _ HH.out).mono ?_; rintro e W1 ⟨rfl, hr1, hu1⟩; have HR1 := Lib.hid hr1; have HU1 := Lib.hid hu1; clear hr1 hu1)
        | (go_at_call 113; refine (KM.out _ HR1.out).mono ?_; rintro e W2 ⟨rfl, hr1, hu1⟩; have HR2 := Lib.hid hr1; have HU2 := Lib.hid (HU1.out.trans hu1); clear hr1 hu1; obtain ⟨c1, f1⟩ := HR2.out.cells; rw [HBAD.out] at c1))
      go_ret
      exact ⟨rfl, by rw [orBad_eq, HBAD.out]; exact HR2.out.bad _, HU2.out.set⟩
    · have qv : (v == 0) = false := by rw [beq_eq_false_iff_ne]; exact hv
      have QV := Lib.hid qv
      clear hv
      generalize protoW v = pw at KP ⊢
      cases hq : (pw == x) with
      | true =>
        have hd : decide (pw ≠ x) = false := by
          rw [decide_eq_false_iff_not]; rw [beq_iff_eq] at hq; exact fun hh => hh hq
        rw [hd]
        clear hd
        go_enter Tryz.func109, Tryz.ntmps109
        go_wp2_with (first
          | (go_at_call 108; refine (KN.out _ HH.out).mono ?_; rintro e W1 ⟨rfl, hr1, hu1⟩; have HR1 := Lib.hid hr1; have HU1 := Lib.hid hu1; have HL1 := Lib.hid (lib_upto HL.out hu1 hG (Nat.le_of_lt hlt)); clear hr1 hu1)
          | (go_at_call 113; refine (KM.out _ HR1.out).mono ?_; rintro e W2 ⟨rfl, hr1, hu1⟩; have HR2 := Lib.hid hr1; have HU2 := Lib.hid (HU1.out.trans hu1); have HL2 := Lib.hid (lib_upto HL1.out hu1 hG (Nat.le_of_lt HR1.out.lt)); clear hr1 hu1; obtain ⟨c1, f1⟩ := HR2.out.cells; rw [HBAD.out] at c1)
          | (go_at_call 129; refine (KP.out _ HL2.out).mono ?_; rintro e W3 ⟨rfl, hb1⟩; have HR3 := Lib.hid (HR2.out.below hb1); have HU3 := Lib.hid (HU2.out.trans (Upto.of_below hb1)); clear hb1; obtain ⟨c2, f2⟩ := HR3.out.cells; rw [HBAD.out] at c2))
        go_ret
        exact ⟨rfl, by rw [orBad_eq, HBAD.out, QV.out]; exact HR3.out.bad _, HU3.out.set⟩
      | false =>
        have hd : decide (pw ≠ x) = true := by
          rw [decide_eq_true_eq]; rw [beq_eq_false_iff_ne] at hq; exact hq
        rw [hd]
        clear hd
        go_enter Tryz.func109, Tryz.ntmps109
        go_wp2_with (first
          | (go_at_call 108; refine (KN.out _ HH.out).mono ?_; rintro e W1 ⟨rfl, hr1, hu1⟩; have HR1 := Lib.hid hr1; have HU1 := Lib.hid hu1; have HL1 := Lib.hid (lib_upto HL.out hu1 hG (Nat.le_of_lt hlt)); clear hr1 hu1)
          | (go_at_call 113; refine (KM.out _ HR1.out).mono ?_; rintro e W2 ⟨rfl, hr1, hu1⟩; have HR2 := Lib.hid hr1; have HU2 := Lib.hid (HU1.out.trans hu1); have HL2 := Lib.hid (lib_upto HL1.out hu1 hG (Nat.le_of_lt HR1.out.lt)); clear hr1 hu1; obtain ⟨c1, f1⟩ := HR2.out.cells; rw [HBAD.out] at c1)
          | (go_at_call 129; refine (KP.out _ HL2.out).mono ?_; rintro e W3 ⟨rfl, hb1⟩; have HR3 := Lib.hid (HR2.out.below hb1); have HU3 := Lib.hid (HU2.out.trans (Upto.of_below hb1)); clear hb1; obtain ⟨c2, f2⟩ := HR3.out.cells; rw [HBAD.out] at c2))
        go_ret
        exact ⟨rfl, by rw [orBad_eq, HBAD.out, QV.out]; exact HR3.out.bad _, HU3.out.set⟩
end Go.Proofs.YtnmbbnhgoedjgaaGreatDoor.RuA

namespace Go.Proofs.YtnmbbnhgoedjgaaGreatDoor.Cf3
open Go Go.RowKit Go.Proofs.YtnmbbnhgoedjgaaGreatDoor.Ad1 Go.Proofs.YtnmbbnhgoedjgaaGreatDoor.St0 Go.Proofs.YtnmbbnhgoedjgaaGreatDoor.St1 Go.Proofs.YtnmbbnhgoedjgaaGreatDoor.Ru3 Go.Proofs.YtnmbbnhgoedjgaaGreatDoor.Ru6 Go.Proofs.YtnmbbnhgoedjgaaGreatDoor.Ru7
set_option linter.unusedVariables false
set_option linter.unusedSimpArgs false
set_option maxHeartbeats 1000000 in
theorem cnum_bad (s : ByteArray) (hs : s.size ≤ 9223372036854775807) (W : World) (hn : okNum 9 s.data.toList = false) :
    Calls Tryz.prog 102 #[.string s] W fun e w' => e = .returned (.tuple #[.int .i64 0, .bool false]) ∧ Below W.heap.size W w' := by
  have ht := trim_any s W hs
  rcases bad_ways s 9 hn with h1 | ⟨h1, h3 | ⟨h3, hlt, ⟨h7, h8⟩ | ⟨htn, hz⟩⟩⟩
  · clear ht hn
    go_enter Tryz.func102, Tryz.ntmps102
    go_wp2_with fail
    go_ret2
    exact ⟨rfl, Below.refl _ _⟩
  · clear ht hn
    have h3' : (9 : Int) < s.size := h3
    clear h3
    go_enter Tryz.func102, Tryz.ntmps102
    go_wp2_with fail
    go_ret2
    exact ⟨rfl, Below.refl _ _⟩
  · clear ht hn
    have h3' : ¬ (9 : Int) < s.size := h3
    clear h3
    go_enter Tryz.func102, Tryz.ntmps102
    go_wp2_with fail
    go_ret2
    exact ⟨rfl, Below.refl _ _⟩
  · have h3' : ¬ (9 : Int) < s.size := h3
    clear h3 hn
    generalize Lib.trimS s.data.toList digits = tr at ht htn
    have hte : tr.isEmpty = false := by simpa using htn
    have HT := Lib.hid ht
    clear ht htn
    rcases hz with ⟨h7, h8⟩ | h7
    all_goals
      go_enter Tryz.func102, Tryz.ntmps102
      go_wp2_with (go_at_call 105; refine HT.out.mono ?_; rintro e w1 ⟨rfl, hb1⟩; have HB := Lib.hid hb1; clear hb1)
      go_ret2
      exact ⟨rfl, HB.out⟩
set_option maxHeartbeats 1000000 in
theorem cnum_ok (s : ByteArray) (W : World) (hn : okNum 9 s.data.toList = true) :
    Calls Tryz.prog 102 #[.string s] W fun e w' => e = .returned (.tuple #[.int .i64 (dv s.data.toList : Nat), .bool true]) ∧ Below W.heap.size W w' := by
  obtain ⟨h1, h3, hne, hd, hlt, hcase⟩ := good_ways s 9 hn
  have h3' : ¬ (9 : Int) < s.size := h3
  have ht := trim_any s W (by omega)
  rw [(trim_digits _).2 hd] at ht
  have HT := Lib.hid ht
  have ha := Lib.hid (fun W => Tryz.strconv_Atoi s _ (by omega) (atoi_digs _ hd hne) W)
  clear ht h3 hd hne hn
  generalize dv s.data.toList = v at ha ⊢
  have hnil : (⟨([] : List UInt8).toArray⟩ : ByteArray) = ⟨#[]⟩ := rfl
  rw [hnil] at HT
  rcases hcase with ⟨h7, h8⟩ | h7
  all_goals
    go_enter Tryz.func102, Tryz.ntmps102
    go_wp2_with (first
      | (go_at_call 105; refine HT.out.mono ?_; rintro e w1 ⟨rfl, hb1⟩; have HB1 := Lib.hid hb1; clear hb1)
      | (go_at_call 144; refine (ha.out _).mono ?_; rintro e w2 ⟨rfl, hw2⟩))
    go_quiet (fail)
    go_wp2_with fail
    go_ret2
    obtain ⟨t, rfl⟩ := hw2
    exact ⟨rfl, bdrewN (bstep HB1.out (bytes_world _ _ _) HB1.out.size) _⟩
theorem cnum_any (s : ByteArray) (hs : s.size ≤ 9223372036854775807) (W : World) :
    Calls Tryz.prog 102 #[.string s] W fun e w' => e = .returned (.tuple #[.int .i64 (if okNum 9 s.data.toList then (dv s.data.toList : Nat) else 0), .bool (okNum 9 s.data.toList)]) ∧ Below W.heap.size W w' := by
  cases hn : okNum 9 s.data.toList with
  | true => exact cnum_ok s W hn
  | false => exact cnum_bad s hs W hn
end Go.Proofs.YtnmbbnhgoedjgaaGreatDoor.Cf3

