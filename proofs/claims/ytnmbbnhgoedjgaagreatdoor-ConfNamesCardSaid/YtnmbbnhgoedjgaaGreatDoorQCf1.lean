/- conf.Is: its closures. The rows of a configuration that is being read: its own, each in a block of its own. The reader in memory: its own block, its rows, what is kept. conf.prefixes. conf.once. A configuration's text has its lines; blanks, remarks and another order: plain Lean. -/
import Derived.Test.YtnmbbnhgoedjgaaGreatDoorQCg0
import Derived.Test.YtnmbbnhgoedjgaaGreatDoorQRuS
import Derived.Test.YtnmbbnhgoedjgaaGreatDoorQCgM
import Derived.Test.YtnmbbnhgoedjgaaGreatDoorQRuVa
import Derived.Test.YtnmbbnhgoedjgaaGreatDoorQCf3
import Derived.Deep.DeepCutAuto
namespace Go.Proofs.YtnmbbnhgoedjgaaGreatDoor.Cg1
open Go Go.RowKit Go.Proofs.YtnmbbnhgoedjgaaGreatDoor.Ad0 Go.Proofs.YtnmbbnhgoedjgaaGreatDoor.Ad1 Go.Proofs.YtnmbbnhgoedjgaaGreatDoor.St2 Go.Proofs.YtnmbbnhgoedjgaaGreatDoor.Ru0 Go.Proofs.YtnmbbnhgoedjgaaGreatDoor.Ru6 Go.Proofs.YtnmbbnhgoedjgaaGreatDoor.RuB Go.Proofs.YtnmbbnhgoedjgaaGreatDoor.RuC Go.Proofs.YtnmbbnhgoedjgaaGreatDoor.RuH Go.Proofs.YtnmbbnhgoedjgaaGreatDoor.RuY Go.Proofs.YtnmbbnhgoedjgaaGreatDoor.Cf0 Go.Proofs.YtnmbbnhgoedjgaaGreatDoor.Cf4 Go.Proofs.YtnmbbnhgoedjgaaGreatDoor.Cf6 Go.Proofs.YtnmbbnhgoedjgaaGreatDoor.Cg0
set_option linter.unusedVariables false
set_option linter.unusedSimpArgs false
theorem info5 (x : IfaceM) : (Tryz.prog.info? 45).map (·.size) = some (ifL x).toArray.size := by kernel_rfl
theorem info2n (t : NamedM × Value) : (Tryz.prog.info? 66).map (·.size) = some (nmL t).toArray.size := by kernel_rfl
theorem is1_any (HI : IsIfaceSaid) (x : IfaceM) (hx : x.name.length ≤ 9223372036854775807) (hp : x.addr.ok) (W : World) :
    Calls Tryz.prog 40 #[.agg (ifL x).toArray] W fun e w' => e = .returned (.bool (!isI x)) ∧ Below W.heap.size W w' := by
  have HK := Lib.hid (HI x hx hp)
  have HN := Lib.hid (info5 x)
  have HB := Lib.hid (bnew W (.cells (ifL x).toArray 45))
  have HP := Lib.hid (heap_alloc_new W (.cells (ifL x).toArray 45))
  generalize (ifL x).toArray = cs at *
  go_enter Tryz.func40, Tryz.ntmps40
  go_wp2_with (first
    | ((with_reducible refine Mem.load_row W.heap.size ?_ HP.out Tryz.underlying45 HN.out ?_ ?_); rfl; rfl)
    | (go_at_call 41; (with_reducible refine (HK.out _).mono ?_); rintro e w1 ⟨rfl, hb1⟩; have HB := Lib.hid (bstep HB.out hb1 HB.out.size); clear hb1))
  go_ret
  exact ⟨rfl, HB.out⟩
theorem is2_any (t : NamedM × Value) (hx : t.1.name.length ≤ 9223372036854775807) (ho : ∀ p ∈ t.1.l, p.ok) (hn : t.1.l.length ≤ 4611686018427387904) (W : World) (h : Sl W t.2 t.1.l.length (t.1.l.flatMap pfxL)) :
    Calls Tryz.prog 43 #[.agg (nmL t).toArray] W fun e w' => e = .returned (.bool (!(nameL t.1.name && prefsOK t.1.l))) ∧ Below W.heap.size W w' := by
  obtain ⟨⟨nm, l⟩, u⟩ := t
  dsimp only at *
  have HK := Lib.hid (fun W (h : Sl W u l.length (l.flatMap pfxL)) => isTable_any nm hx l ho hn u W h)
  have HB := Lib.hid (bnew W (.cells #[.string ⟨nm.toArray⟩, u] 66))
  have HS := Lib.hid (h.below HB.out)
  show Calls Tryz.prog 43 #[.agg #[.string ⟨nm.toArray⟩, u]] W _
  go_enter Tryz.func43, Tryz.ntmps43
  go_wp2_with (go_at_call 44; (with_reducible refine (HK.out _ HS.out).mono ?_); rintro e w1 ⟨rfl, hb1⟩; have HB := Lib.hid (bstep HB.out hb1 HB.out.size); clear hb1)
  go_ret
  refine ⟨?_, HB.out⟩
  show Ending.returned (Value.bool (!nameL nm || !prefsB l)) = _
  rw [Bool.not_and]
  rfl
theorem is3_any (r : RuleM) (h : Fits r) (W : World) :
    Calls Tryz.prog 46 #[.agg (rlL r).toArray] W fun e w' => e = .returned (.bool (!ruleR r)) ∧ Below W.heap.size W w' := by
  have HK := Lib.hid (fun W' => isP_any r h W')
  rw [rules_same r h.set.1 h.set.2] at HK
  have HN := Lib.hid (info32 r)
  unfold rlL
  rw [Array.toArray_toList]
  have HB := Lib.hid (bnew W (.cells (ruleC r) 75))
  have HP := Lib.hid (heap_alloc_new W (.cells (ruleC r) 75))
  generalize ruleC r = cs at *
  go_enter Tryz.func46, Tryz.ntmps46
  go_wp2_with (first
    | ((with_reducible refine Mem.load_row W.heap.size ?_ HP.out Tryz.underlying75 HN.out ?_ ?_); rfl; rfl)
    | (go_at_call 47; (with_reducible refine (HK.out _).mono ?_); rintro e w1 ⟨rfl, hb1⟩; have HB := Lib.hid (bstep HB.out hb1 HB.out.size); clear hb1))
  go_ret
  exact ⟨rfl, HB.out⟩
end Go.Proofs.YtnmbbnhgoedjgaaGreatDoor.Cg1

namespace Go.Proofs.YtnmbbnhgoedjgaaGreatDoor.Ch4
open Go Go.RowKit Go.Proofs.YtnmbbnhgoedjgaaGreatDoor.Ad0 Go.Proofs.YtnmbbnhgoedjgaaGreatDoor.St2 Go.Proofs.YtnmbbnhgoedjgaaGreatDoor.B1 Go.Proofs.YtnmbbnhgoedjgaaGreatDoor.Ru0 Go.Proofs.YtnmbbnhgoedjgaaGreatDoor.Ru1 Go.Proofs.YtnmbbnhgoedjgaaGreatDoor.Ru6 Go.Proofs.YtnmbbnhgoedjgaaGreatDoor.RuB Go.Proofs.YtnmbbnhgoedjgaaGreatDoor.RuC Go.Proofs.YtnmbbnhgoedjgaaGreatDoor.RuY Go.Proofs.YtnmbbnhgoedjgaaGreatDoor.Cf0 Go.Proofs.YtnmbbnhgoedjgaaGreatDoor.Cf4 Go.Proofs.YtnmbbnhgoedjgaaGreatDoor.Cf6 Go.Proofs.YtnmbbnhgoedjgaaGreatDoor.Cg0
set_option linter.unusedVariables false
set_option linter.unusedSimpArgs false
/-- Rows of different elements lie in different blocks. -/
theorem own_apart {W : World} {B B' : Nat} {e e' : TypeId} {k k' : Nat} {v v' : Value} {n n' : Nat} {xs xs' : List Value} (h : W.ownsRow B e k v n xs) (h' : W.ownsRow B' e' k' v' n' xs') (he : e ≠ e') : v.ownBlock = none ∨ v.ownBlock ≠ v'.ownBlock := by
  rcases h.2 with ⟨rfl, _⟩ | ⟨g, cap, cur, rfl, _, hg, _⟩
  · exact .inl rfl
  · refine .inr fun e1 => ?_
    rcases h'.2 with ⟨rfl, _⟩ | ⟨g', cap', cur', rfl, _, hg', _⟩
    · cases e1
    · simp only [Value.ownBlock, Option.some.injEq] at e1
      subst e1
      rw [hg] at hg'
      cases hg'
      exact he rfl
theorem own_lt {W : World} {B : Nat} {e : TypeId} {k : Nat} {v : Value} {n : Nat} {xs : List Value} (h : W.ownsRow B e k v n xs) : v.ownBlock = none ∨ ∃ g, v.ownBlock = some g ∧ B ≤ g ∧ g < W.heap.size := by
  rcases h.2 with ⟨rfl, _⟩ | ⟨g, cap, cur, rfl, hb, hg, _⟩
  · exact .inl rfl
  · exact .inr ⟨g, rfl, hb, (Array.getElem?_eq_some_iff.1 hg).1⟩
/-- The four rows, and each table's prefixes. -/
structure Rd (B : Nat) (v0 v1 v2 v3 : Value) (ts : List (NamedM × Value)) (c : ConfM) (W : World) : Prop where
  r0 : W.ownsRow B 45 5 v0 c.ifaces.length (c.ifaces.flatMap ifL)
  r1 : W.ownsRow B 43 2 v1 c.bogons.length (c.bogons.flatMap pfxL)
  r2 : W.ownsRow B 66 2 v2 ts.length (ts.flatMap nmL)
  r3 : W.ownsRow B 75 28 v3 c.rules.length (c.rules.flatMap rlL)
  tab : ts.map (·.1) = c.tables
  tin : ∀ t ∈ ts, W.ownsRow B 43 2 t.2 t.1.l.length (t.1.l.flatMap pfxL)
  tap : ∀ t ∈ ts, t.2.ownBlock = none ∨ t.2.ownBlock ≠ v1.ownBlock
section
variable {B : Nat} {v0 v1 v2 v3 : Value} {ts : List (NamedM × Value)} {c : ConfM} {W W' : World}
theorem Rd.conf (h : Rd B v0 v1 v2 v3 ts c W) : ConfIn W v0 v1 v2 v3 ts c :=
  ⟨own_sl h.r0, own_sl h.r1, own_sl h.r2, own_sl h.r3, h.tab, fun t ht => own_sl (h.tin t ht)⟩
theorem Rd.below (h : Rd B v0 v1 v2 v3 ts c W) (hb : Below W.heap.size W W') : Rd B v0 v1 v2 v3 ts c W' :=
  ⟨own_below h.r0 hb, own_below h.r1 hb, own_below h.r2 hb, own_below h.r3 hb, h.tab, fun t ht => own_below (h.tin t ht) hb, h.tap⟩
/-- The reader's own block is written, or any block that is none of these. -/
theorem Rd.kept {row : Option Nat} (h : Rd B v0 v1 v2 v3 ts c W) (hg : W.grownBy W' row) (hr : ∀ g, row = some g → g < B) : Rd B v0 v1 v2 v3 ts c W' := by
  have k : ∀ {e : TypeId} {s : Nat} {v : Value} {n : Nat} {xs : List Value}, W.ownsRow B e s v n xs → W'.ownsRow B e s v n xs := fun ho => ho.kept hg (by
    rcases own_lt ho with e | ⟨g, e, hb, _⟩
    · exact .inl e
    · refine .inr fun e' => ?_
      have := hr g (e'.symm.trans e)
      omega)
  exact ⟨k h.r0, k h.r1, k h.r2, k h.r3, h.tab, fun t ht => k (h.tin t ht), h.tap⟩
theorem Rd.grow0 {v' : Value} (x : IfaceM) (h : Rd B v0 v1 v2 v3 ts c W) (hg : W.grownBy W' v0.ownBlock) (ho : W'.ownsRow B 45 5 v' (c.ifaces.length + 1) (c.ifaces.flatMap ifL ++ ifL x)) : Rd B v' v1 v2 v3 ts { c with ifaces := c.ifaces ++ [x] } W' :=
  ⟨by simpa [List.length_append, List.flatMap_append] using ho, h.r1.kept hg (own_apart h.r1 h.r0 (by decide)), h.r2.kept hg (own_apart h.r2 h.r0 (by decide)), h.r3.kept hg (own_apart h.r3 h.r0 (by decide)), h.tab, fun t ht => (h.tin t ht).kept hg (own_apart (h.tin t ht) h.r0 (by decide)), h.tap⟩
theorem Rd.grow3 {v' : Value} (x : RuleM) (h : Rd B v0 v1 v2 v3 ts c W) (hg : W.grownBy W' v3.ownBlock) (ho : W'.ownsRow B 75 28 v' (c.rules.length + 1) (c.rules.flatMap rlL ++ rlL x)) : Rd B v0 v1 v2 v' ts { c with rules := c.rules ++ [x] } W' :=
  ⟨h.r0.kept hg (own_apart h.r0 h.r3 (by decide)), h.r1.kept hg (own_apart h.r1 h.r3 (by decide)), h.r2.kept hg (own_apart h.r2 h.r3 (by decide)), by simpa [List.length_append, List.flatMap_append] using ho, h.tab, fun t ht => (h.tin t ht).kept hg (own_apart (h.tin t ht) h.r3 (by decide)), h.tap⟩
theorem Rd.grow2 {v' : Value} (t : NamedM × Value) (h : Rd B v0 v1 v2 v3 ts c W) (hg : W.grownBy W' v2.ownBlock) (ho : W'.ownsRow B 66 2 v' (ts.length + 1) (ts.flatMap nmL ++ nmL t)) (ht : W.ownsRow B 43 2 t.2 t.1.l.length (t.1.l.flatMap pfxL)) (hta : t.2.ownBlock = none ∨ t.2.ownBlock ≠ v1.ownBlock) : Rd B v0 v1 v' v3 (ts ++ [t]) { c with tables := c.tables ++ [t.1] } W' :=
  ⟨h.r0.kept hg (own_apart h.r0 h.r2 (by decide)), h.r1.kept hg (own_apart h.r1 h.r2 (by decide)), by simpa [List.length_append, List.flatMap_append] using ho, h.r3.kept hg (own_apart h.r3 h.r2 (by decide)), by simp [h.tab],
    fun s hs => by
      rcases List.mem_append.1 hs with hs | hs
      · exact (h.tin s hs).kept hg (own_apart (h.tin s hs) h.r2 (by decide))
      · rw [List.mem_singleton] at hs
        subst hs
        exact ht.kept hg (own_apart ht h.r2 (by decide)),
    fun s hs => by
      rcases List.mem_append.1 hs with hs | hs
      · exact h.tap s hs
      · rw [List.mem_singleton] at hs
        subst hs
        exact hta⟩
/-- The bogons grow: in their block, or in a new one. -/
theorem Rd.grow1 {v' : Value} (l : List Pfx) (h : Rd B v0 v1 v2 v3 ts c W) (hg : W.grownBy W' v1.ownBlock) (ho : W'.ownsRow B 43 2 v' (c.bogons.length + l.length) (c.bogons.flatMap pfxL ++ l.flatMap pfxL)) (hn : v'.ownBlock = v1.ownBlock ∨ v'.ownBlock = none ∨ ∃ g, v'.ownBlock = some g ∧ W.heap.size ≤ g) : Rd B v0 v' v2 v3 ts { c with bogons := c.bogons ++ l } W' :=
  ⟨h.r0.kept hg (own_apart h.r0 h.r1 (by decide)), by simpa [List.length_append, List.flatMap_append] using ho, h.r2.kept hg (own_apart h.r2 h.r1 (by decide)), h.r3.kept hg (own_apart h.r3 h.r1 (by decide)), h.tab, fun t ht => (h.tin t ht).kept hg (h.tap t ht), fun t ht => by
    rcases hn with e | e | ⟨g, e, hge⟩
    · rw [e]; exact h.tap t ht
    · rcases own_lt (h.tin t ht) with e' | ⟨g', e', _, _⟩
      · exact .inl e'
      · refine .inr ?_; rw [e, e']; exact fun h => by cases h
    · rcases own_lt (h.tin t ht) with e' | ⟨g', e', _, hl⟩
      · exact .inl e'
      · refine .inr ?_
        rw [e, e']
        intro h
        cases h
        omega⟩
end
theorem Rd.start (B : Nat) (W : World) (c : ConfM) (h : c.ifaces = [] ∧ c.bogons = [] ∧ c.tables = [] ∧ c.rules = []) : Rd B (.slice none 0 0) (.slice none 0 0) (.slice none 0 0) (.slice none 0 0) [] c W := by
  obtain ⟨h0, h1, h2, h3⟩ := h
  exact ⟨by rw [h0]; exact World.ownsRow_nil _ _ _ _, by rw [h1]; exact World.ownsRow_nil _ _ _ _, World.ownsRow_nil _ _ _ _, by rw [h3]; exact World.ownsRow_nil _ _ _ _, by rw [h2]; rfl, fun t ht => by simp at ht, fun t ht => by simp at ht⟩
end Go.Proofs.YtnmbbnhgoedjgaaGreatDoor.Ch4

namespace Go.Proofs.YtnmbbnhgoedjgaaGreatDoor.Ch7
open Go Go.RowKit Go.Proofs.YtnmbbnhgoedjgaaGreatDoor.Ad0 Go.Proofs.YtnmbbnhgoedjgaaGreatDoor.Ad1 Go.Proofs.YtnmbbnhgoedjgaaGreatDoor.St2 Go.Proofs.YtnmbbnhgoedjgaaGreatDoor.St3 Go.Proofs.YtnmbbnhgoedjgaaGreatDoor.B1 Go.Proofs.YtnmbbnhgoedjgaaGreatDoor.Ru0 Go.Proofs.YtnmbbnhgoedjgaaGreatDoor.Ru1 Go.Proofs.YtnmbbnhgoedjgaaGreatDoor.Ru6 Go.Proofs.YtnmbbnhgoedjgaaGreatDoor.RuB Go.Proofs.YtnmbbnhgoedjgaaGreatDoor.RuC Go.Proofs.YtnmbbnhgoedjgaaGreatDoor.RuY Go.Proofs.YtnmbbnhgoedjgaaGreatDoor.Cf0 Go.Proofs.YtnmbbnhgoedjgaaGreatDoor.Cf4 Go.Proofs.YtnmbbnhgoedjgaaGreatDoor.Cf6 Go.Proofs.YtnmbbnhgoedjgaaGreatDoor.Cg0 Go.Proofs.YtnmbbnhgoedjgaaGreatDoor.Ch4
set_option linter.unusedVariables false
set_option linter.unusedSimpArgs false
/-- Below block B the world is as it was, but for block g. -/
structure Keep (B g : Nat) (w w' : World) : Prop where
  os : w'.os = w.os
  tape : w'.tape = w.tape
  output : w'.output = w.output
  size : w.heap.size ≤ w'.heap.size
  block : ∀ k, k < B → k ≠ g → w'.heap[k]? = w.heap[k]?
section
variable {B g : Nat} {a w w' : World}
theorem Keep.refl (B g : Nat) (w : World) : Keep B g w w := ⟨rfl, rfl, rfl, Nat.le_refl _, fun _ _ _ => rfl⟩
theorem Keep.trans {b c : World} (h : Keep B g a b) (k : Keep B g b c) : Keep B g a c :=
  ⟨k.os.trans h.os, k.tape.trans h.tape, k.output.trans h.output, Nat.le_trans h.size k.size, fun i hi hg => (k.block i hi hg).trans (h.block i hi hg)⟩
theorem Keep.of (h : Below B w w') : Keep B g w w' := ⟨h.os, h.tape, h.output, h.size, fun k hk _ => h.block k hk⟩
theorem Keep.below (h : Keep B g a w) (hb : Below w.heap.size w w') (hB : B ≤ w.heap.size) : Keep B g a w' := h.trans (Keep.of (hb.mono hB))
theorem Keep.alloc (h : Keep B g a w) (hB : B ≤ w.heap.size) (o : Obj) : Keep B g a (w.alloc o) := h.below (bnew w o) hB
theorem Keep.grown {row : Option Nat} (h : Keep B g a w) (hg : w.grownBy w' row) (hB : B ≤ w.heap.size) (hr : ∀ k, row = some k → B ≤ k) : Keep B g a w' :=
  h.trans ⟨hg.os, hg.tape, hg.output, hg.size, fun k hk _ => hg.block k (by omega) (fun e => by have := hr k e.symm; omega)⟩
theorem Keep.set (h : Keep B g a w) {p : Addr} (hp : p.block = g ∨ B ≤ p.block) (u : Value) : Keep B g a (w.setCell p u) :=
  h.trans ⟨rfl, rfl, rfl, by simp [World.setCell], fun k hk hg => Below.heap_setCell _ _ _ _ (by rcases hp with e | e <;> omega)⟩
/-- Below the reader's own block all is kept. -/
theorem Keep.low (h : Keep B g w w') (hg : g ≤ B) : Below g w w' := ⟨h.os, h.tape, h.output, h.size, fun k hk => h.block k (by omega) (by omega)⟩
theorem grown_set (w : World) (g o : Nat) (u : Value) : w.grownBy (w.setCell ⟨g, o, none⟩ u) (some g) :=
  ⟨rfl, rfl, rfl, by simp [World.setCell], fun k hk hg => Below.heap_setCell _ _ _ _ (by intro e; exact hg (by rw [e]))⟩
end
/-- The reader of conf: a configuration, and whether its numbers were told. -/
def rdC (v0 v1 v2 v3 : Value) (c : ConfM) : Array Value := #[v0, v1, v2, v3, .int .i64 c.flows, .int .i64 (if 0 ≤ c.errors then c.errors else 0), .bool (decide (c.flows ≠ 0)), .bool (decide (0 ≤ c.errors))]
structure RdrAt (g B : Nat) (v0 v1 v2 v3 : Value) (ts : List (NamedM × Value)) (c : ConfM) (W : World) : Prop where
  row : W.heap[g]? = some (.cells (rdC v0 v1 v2 v3 c) 54 (0, 0))
  rd : Rd B v0 v1 v2 v3 ts c W
  gB : g < B
  BW : B ≤ W.heap.size
/-- The reference's: the configuration alone. -/
structure RcfAt (g B : Nat) (v0 v1 v2 v3 : Value) (ts : List (NamedM × Value)) (c : ConfM) (W : World) : Prop where
  row : W.heap[g]? = some (.cells (confC v0 v1 v2 v3 c) 27 (0, 0))
  rd : Rd B v0 v1 v2 v3 ts c W
  gB : g < B
  BW : B ≤ W.heap.size
section
variable {g B : Nat} {v0 v1 v2 v3 : Value} {ts : List (NamedM × Value)} {c : ConfM} {W W' : World}
theorem RdrAt.below (h : RdrAt g B v0 v1 v2 v3 ts c W) (hb : Below W.heap.size W W') : RdrAt g B v0 v1 v2 v3 ts c W' :=
  ⟨(hb.block g (blk_lt' h.row)).trans h.row, h.rd.below hb, h.gB, Nat.le_trans h.BW hb.size⟩
theorem RcfAt.below (h : RcfAt g B v0 v1 v2 v3 ts c W) (hb : Below W.heap.size W W') : RcfAt g B v0 v1 v2 v3 ts c W' :=
  ⟨(hb.block g (blk_lt' h.row)).trans h.row, h.rd.below hb, h.gB, Nat.le_trans h.BW hb.size⟩
end
-- GROW: each row grows by what is appended to it
theorem set_size (w : World) (p : Addr) (u : Value) : (w.setCell p u).heap.size = w.heap.size := by simp [World.setCell]
theorem own_base {W : World} {B B' : Nat} {e : TypeId} {s : Nat} {v : Value} {n : Nat} {xs : List Value} (h : W.ownsRow B' e s v n xs) (hb : B ≤ B') : W.ownsRow B e s v n xs := by
  refine ⟨h.1, ?_⟩
  rcases h.2 with h2 | ⟨g, cap, cur, hv, hg, r⟩
  · exact .inl h2
  · exact .inr ⟨g, cap, cur, hv, Nat.le_trans hb hg, r⟩
theorem own_ne {W : World} {B g : Nat} {e : TypeId} {s : Nat} {v : Value} {n : Nat} {xs : List Value} (h : W.ownsRow B e s v n xs) (hg : g < B) : some g ≠ v.ownBlock := by
  rcases own_lt h with e | ⟨k, e, hb, _⟩
  · rw [e]; simp
  · rw [e]; intro e'; cases e'; omega
theorem own_from {W : World} {B : Nat} {e : TypeId} {s : Nat} {v : Value} {n : Nat} {xs : List Value} (h : W.ownsRow B e s v n xs) : ∀ k, v.ownBlock = some k → B ≤ k := fun k hk => (h.lt k hk).1
theorem row_far {V U w1 : World} {row : Option Nat} {g : Nat} {cs : Array Value} {T : TypeId} (hU : Below V.heap.size V U) (hg : U.grownBy w1 row) (h : V.heap[g]? = some (.cells cs T (0, 0))) (hne : some g ≠ row) : w1.heap[g]? = some (.cells cs T (0, 0)) := by
  have h1 := (hU.block g (blk_lt' h)).trans h
  exact (hg.block g (blk_lt' h1) hne).trans h1
theorem box_far {V U w1 : World} {row : Option Nat} {xb g k : Nat} {cs : Array Value} {T : TypeId} {u : Value} (hU : Below V.heap.size V U) (hg : U.grownBy w1 row) (h : V.heap[xb]? = some (.cells cs T (0, 0))) (hne : some xb ≠ row) (hx : xb ≠ g) : (w1.setCell ⟨g, k, none⟩ u).heap[xb]? = some (.cells cs T (0, 0)) :=
  (Below.heap_setCell _ _ _ _ hx).trans (row_far hU hg h hne)
theorem own_old {W : World} {B : Nat} {e : TypeId} {s : Nat} {v : Value} {n : Nat} {xs : List Value} {xb : Nat} (h : W.ownsRow B e s v n xs) (hx : W.heap.size ≤ xb) : some xb ≠ v.ownBlock := fun e => by
  have := (h.lt xb e.symm).2
  omega
theorem boxed (V : World) (o : Obj) : Below V.heap.size V (V.alloc o).drew := ((Below.refl _ V).alloc (Nat.le_refl _) o).drew
theorem own_new {W : World} {B N : Nat} {e e' : TypeId} {s s' : Nat} {v u : Value} {n n' : Nat} {xs ys : List Value} {V : World} (h : W.ownsRow B e s v n xs) (hN : W.heap.size ≤ N) (h' : V.ownsRow N e' s' u n' ys) : u.ownBlock = none ∨ u.ownBlock ≠ v.ownBlock := by
  rcases own_lt h' with e | ⟨k, e, hb, _⟩
  · exact .inl e
  · refine .inr fun e' => ?_
    have := (h.lt k (e'.symm.trans e)).2
    omega
/-- What stands behind the first elements. -/
theorem sl_drop {W : World} {b o n cap k : Nat} {cs : List Value} (hb : b < W.heap.size) (hr : W.rangeAt b o cs) (hk : k ≤ n) (hn : n ≤ cap) : Sl W (.slice (some ⟨b, o + k, none⟩) (n - k : Nat) (cap - k : Nat)) (n - k) (cs.drop k) :=
  ⟨_, _, rfl, by omega, .inr ⟨b, o + k, rfl, hb, fun j v hj => by
    rw [Nat.add_assoc]
    exact hr (k + j) v (by rwa [List.getElem?_drop] at hj)⟩⟩
theorem rdr_grow0 {g B : Nat} {v0 v1 v2 v3 v' : Value} {ts : List (NamedM × Value)} {c : ConfM} {V U w1 : World} (x : IfaceM) (h : RdrAt g B v0 v1 v2 v3 ts c V) (hU : Below V.heap.size V U) (hg : U.grownBy w1 v0.ownBlock) (ho : w1.ownsRow B 45 5 v' (c.ifaces.length + 1) (c.ifaces.flatMap ifL ++ ifL x))  :
    RdrAt g B v' v1 v2 v3 ts { c with ifaces := c.ifaces ++ [x] } (w1.setCell ⟨g, 0, none⟩ v') ∧ Keep B g V (w1.setCell ⟨g, 0, none⟩ v') := by
  have h1 := h.below hU
  have rd := h1.rd.grow0 x hg ho
  have row1 := (hg.block g (blk_lt' h1.row) (own_ne h1.rd.r0 h1.gB)).trans h1.row
  have kp := ((Keep.of (g := g) (hU.mono h.BW)).grown hg h1.BW (own_from h1.rd.r0)).set (p := ⟨g, 0, none⟩) (.inl rfl) v'
  exact ⟨⟨set_at row1, rd.kept (grown_set w1 g 0 v') (fun k e => by cases e; exact h.gB), h.gB, by rw [set_size]; exact Nat.le_trans h1.BW hg.size⟩, kp⟩
theorem rdr_grow1 {g B : Nat} {v0 v1 v2 v3 v' : Value} {ts : List (NamedM × Value)} {c : ConfM} {V U w1 : World} (l : List Pfx) (h : RdrAt g B v0 v1 v2 v3 ts c V) (hU : Below V.heap.size V U) (hg : U.grownBy w1 v1.ownBlock) (ho : w1.ownsRow B 43 2 v' (c.bogons.length + l.length) (c.bogons.flatMap pfxL ++ l.flatMap pfxL)) (hn : v'.ownBlock = v1.ownBlock ∨ v'.ownBlock = none ∨ ∃ k, v'.ownBlock = some k ∧ U.heap.size ≤ k) :
    RdrAt g B v0 v' v2 v3 ts { c with bogons := c.bogons ++ l } (w1.setCell ⟨g, 1, none⟩ v') ∧ Keep B g V (w1.setCell ⟨g, 1, none⟩ v') := by
  have h1 := h.below hU
  have rd := h1.rd.grow1 l hg ho hn
  have row1 := (hg.block g (blk_lt' h1.row) (own_ne h1.rd.r1 h1.gB)).trans h1.row
  have kp := ((Keep.of (g := g) (hU.mono h.BW)).grown hg h1.BW (own_from h1.rd.r1)).set (p := ⟨g, 1, none⟩) (.inl rfl) v'
  exact ⟨⟨set_at row1, rd.kept (grown_set w1 g 1 v') (fun k e => by cases e; exact h.gB), h.gB, by rw [set_size]; exact Nat.le_trans h1.BW hg.size⟩, kp⟩
theorem rdr_keep1 {g B : Nat} {v0 v1 v2 v3 v' : Value} {ts : List (NamedM × Value)} {c : ConfM} {V U w1 : World} (h : RdrAt g B v0 v1 v2 v3 ts c V) (hU : Below V.heap.size V U) (hg : U.grownBy w1 v1.ownBlock) : Keep B g V (w1.setCell ⟨g, 1, none⟩ v') := by
  have h1 := h.below hU
  exact ((Keep.of (g := g) (hU.mono h.BW)).grown hg h1.BW (own_from h1.rd.r1)).set (p := ⟨g, 1, none⟩) (.inl rfl) v'
theorem rdr_grow2 {g B : Nat} {v0 v1 v2 v3 v' : Value} {ts : List (NamedM × Value)} {c : ConfM} {V U w1 : World} (t : NamedM × Value) (h : RdrAt g B v0 v1 v2 v3 ts c V) (hU : Below V.heap.size V U) (hg : U.grownBy w1 v2.ownBlock) (ho : w1.ownsRow B 66 2 v' (ts.length + 1) (ts.flatMap nmL ++ nmL t)) (ht : V.ownsRow B 43 2 t.2 t.1.l.length (t.1.l.flatMap pfxL)) (hta : t.2.ownBlock = none ∨ t.2.ownBlock ≠ v1.ownBlock) :
    RdrAt g B v0 v1 v' v3 (ts ++ [t]) { c with tables := c.tables ++ [t.1] } (w1.setCell ⟨g, 2, none⟩ v') ∧ Keep B g V (w1.setCell ⟨g, 2, none⟩ v') := by
  have h1 := h.below hU
  have rd := h1.rd.grow2 t hg ho (own_below ht hU) hta
  have row1 := (hg.block g (blk_lt' h1.row) (own_ne h1.rd.r2 h1.gB)).trans h1.row
  have kp := ((Keep.of (g := g) (hU.mono h.BW)).grown hg h1.BW (own_from h1.rd.r2)).set (p := ⟨g, 2, none⟩) (.inl rfl) v'
  exact ⟨⟨set_at row1, rd.kept (grown_set w1 g 2 v') (fun k e => by cases e; exact h.gB), h.gB, by rw [set_size]; exact Nat.le_trans h1.BW hg.size⟩, kp⟩
theorem rdr_keep2 {g B : Nat} {v0 v1 v2 v3 v' : Value} {ts : List (NamedM × Value)} {c : ConfM} {V U w1 : World} (h : RdrAt g B v0 v1 v2 v3 ts c V) (hU : Below V.heap.size V U) (hg : U.grownBy w1 v2.ownBlock) : Keep B g V (w1.setCell ⟨g, 2, none⟩ v') := by
  have h1 := h.below hU
  exact ((Keep.of (g := g) (hU.mono h.BW)).grown hg h1.BW (own_from h1.rd.r2)).set (p := ⟨g, 2, none⟩) (.inl rfl) v'
theorem rdr_grow3 {g B : Nat} {v0 v1 v2 v3 v' : Value} {ts : List (NamedM × Value)} {c : ConfM} {V U w1 : World} (x : RuleM) (h : RdrAt g B v0 v1 v2 v3 ts c V) (hU : Below V.heap.size V U) (hg : U.grownBy w1 v3.ownBlock) (ho : w1.ownsRow B 75 28 v' (c.rules.length + 1) (c.rules.flatMap rlL ++ rlL x))  :
    RdrAt g B v0 v1 v2 v' ts { c with rules := c.rules ++ [x] } (w1.setCell ⟨g, 3, none⟩ v') ∧ Keep B g V (w1.setCell ⟨g, 3, none⟩ v') := by
  have h1 := h.below hU
  have rd := h1.rd.grow3 x hg ho
  have row1 := (hg.block g (blk_lt' h1.row) (own_ne h1.rd.r3 h1.gB)).trans h1.row
  have kp := ((Keep.of (g := g) (hU.mono h.BW)).grown hg h1.BW (own_from h1.rd.r3)).set (p := ⟨g, 3, none⟩) (.inl rfl) v'
  exact ⟨⟨set_at row1, rd.kept (grown_set w1 g 3 v') (fun k e => by cases e; exact h.gB), h.gB, by rw [set_size]; exact Nat.le_trans h1.BW hg.size⟩, kp⟩
theorem rdr_keep3 {g B : Nat} {v0 v1 v2 v3 v' : Value} {ts : List (NamedM × Value)} {c : ConfM} {V U w1 : World} (h : RdrAt g B v0 v1 v2 v3 ts c V) (hU : Below V.heap.size V U) (hg : U.grownBy w1 v3.ownBlock) : Keep B g V (w1.setCell ⟨g, 3, none⟩ v') := by
  have h1 := h.below hU
  exact ((Keep.of (g := g) (hU.mono h.BW)).grown hg h1.BW (own_from h1.rd.r3)).set (p := ⟨g, 3, none⟩) (.inl rfl) v'
-- END GROW
/-- What a line's reader answers. -/
def LineGot (g B : Nat) (o : Option ConfM) (W : World) (e : Ending) (w' : World) : Prop := match o with
  | some c => e = .returned (.bool true) ∧ (∃ v0 v1 v2 v3 ts, RdrAt g B v0 v1 v2 v3 ts c w') ∧ Keep B g W w'
  | none => e = .returned (.bool false) ∧ Keep B g W w'
end Go.Proofs.YtnmbbnhgoedjgaaGreatDoor.Ch7

namespace Go.Proofs.YtnmbbnhgoedjgaaGreatDoor.Ch1
open Go Go.RowKit Go.Proofs.YtnmbbnhgoedjgaaGreatDoor.Ad0 Go.Proofs.YtnmbbnhgoedjgaaGreatDoor.Ad1 Go.Proofs.YtnmbbnhgoedjgaaGreatDoor.St2 Go.Proofs.YtnmbbnhgoedjgaaGreatDoor.St3 Go.Proofs.YtnmbbnhgoedjgaaGreatDoor.B1 Go.Proofs.YtnmbbnhgoedjgaaGreatDoor.Ru0 Go.Proofs.YtnmbbnhgoedjgaaGreatDoor.Ru6 Go.Proofs.YtnmbbnhgoedjgaaGreatDoor.RuB Go.Proofs.YtnmbbnhgoedjgaaGreatDoor.RuC Go.Proofs.YtnmbbnhgoedjgaaGreatDoor.RuI Go.Proofs.YtnmbbnhgoedjgaaGreatDoor.RuY Go.Proofs.YtnmbbnhgoedjgaaGreatDoor.Cf0 Go.Proofs.YtnmbbnhgoedjgaaGreatDoor.Cf4 Go.Proofs.YtnmbbnhgoedjgaaGreatDoor.Cf6 Go.Proofs.YtnmbbnhgoedjgaaGreatDoor.Cg0
set_option linter.unusedVariables false
set_option linter.unusedSimpArgs false
theorem prefs_snoc : ∀ (a : List Wd) (x : Wd), prefsOf (a ++ [x]) = (prefsOf a).bind fun l => (prefOK x).map fun p => l ++ [p]
  | [], x => by
    show (prefOK x).bind (fun p => (some []).map fun l => p :: l) = _
    cases prefOK x <;> rfl
  | y :: t, x => by
    show (prefOK y).bind (fun p => (prefsOf (t ++ [x])).map fun l => p :: l) = ((prefOK y).bind fun p => (prefsOf t).map fun l => p :: l).bind _
    rw [prefs_snoc t x]
    cases prefOK y with
    | none => rfl
    | some p =>
      cases prefsOf t with
      | none => rfl
      | some l => cases prefOK x <;> rfl
theorem prefs_none : ∀ (a b : List Wd), prefsOf a = none → prefsOf (a ++ b) = none
  | [], _, h => by cases h
  | y :: t, b, h => by
    have h : (prefOK y).bind (fun p => (prefsOf t).map fun l => p :: l) = none := h
    show (prefOK y).bind (fun p => (prefsOf (t ++ b)).map fun l => p :: l) = none
    cases hp : prefOK y with
    | none => rfl
    | some p =>
      rw [hp] at h
      cases ht : prefsOf t with
      | none => rw [prefs_none t b ht]; rfl
      | some l => rw [ht] at h; cases h
theorem pref_key (l : Wd) (p : Pfx) (h : prefL l = some p) : p.ok := by
  have := prefL_ok l
  rw [h] at this
  exact this
theorem prefs_len : ∀ (a : List Wd) (l : List Pfx), prefsOf a = some l → l.length = a.length
  | [], l, h => by cases h; rfl
  | y :: t, l, h => by
    have h : (prefOK y).bind (fun p => (prefsOf t).map fun l => p :: l) = some l := h
    cases hp : prefOK y with
    | none => rw [hp] at h; cases h
    | some p =>
      rw [hp] at h
      cases ht : prefsOf t with
      | none => rw [ht] at h; cases h
      | some k => rw [ht] at h; cases h; simp [prefs_len t k ht]
theorem info2p : (Tryz.prog.info? 43).map (fun i => (i.zero, i.size, i.bytes)) = some (some (.agg #[.int .u32 0, .int .i64 0]), 2, 16) := by kernel_rfl
/-- What prefixes answers: a row of its own. -/
def PrefsGot (W : World) (ws : List Wd) (e : Ending) (w' : World) : Prop := ∃ v, e = .returned (.tuple #[v, .bool (prefsOf ws).isSome]) ∧ w'.ownsRow W.heap.size 43 2 v ((prefsOf ws).getD []).length (((prefsOf ws).getD []).flatMap pfxL) ∧ ((prefsOf ws).getD [] = [] → v = .slice none 0 0) ∧ Below W.heap.size W w'
set_option maxRecDepth 20000 in
set_option maxHeartbeats 4000000 in
theorem prefixes_any (ws : List Wd) (hn : ws.length ≤ 1048576) (hs : ∀ x ∈ ws, x.length < 4294967281) (v : Value) (W : World) (h : Sl W v ws.length (ws.map fun w => .string ⟨w.toArray⟩)) (hl : LibOK W) :
    Calls Tryz.prog 62 #[v] W fun e w' => PrefsGot W ws e w' := by
  have HL := Lib.hid (fun W' (hb : Below W.heap.size W W') => hl.below hb)
  have Hs := Lib.hid hs
  obtain ⟨A, cap, rfl, hcap, h⟩ := h
  have HS := Lib.hid h
  clear hl hs h
  go_enter Tryz.func62, Tryz.ntmps62
  go_wp2_with fail
  go_loopw [4, 11] (fun s4 s11 wr => ∃ (k : Nat) (l : List Pfx), k ≤ ws.length ∧ s11 = .int .i64 k ∧ prefsOf (ws.take k) = some l ∧ wr.ownsRow W.heap.size 43 2 s4 l.length (l.flatMap pfxL) ∧ (l = [] → s4 = .slice none 0 0) ∧ Below W.heap.size W wr) (fun s4 s11 _ => ws.length - (intOf s11).toNat)
  case atStart => exact ⟨0, [], by omega, rfl, rfl, World.ownsRow_nil _ _ _ _, fun _ => rfl, Below.refl _ _⟩
  case round =>
    obtain ⟨k, l, hkl, rfl, hq, ho, hnil, hb⟩ := hrel
    have HNil := Lib.hid hnil
    clear hnil
    have HQ := Lib.hid hq
    have HOw := Lib.hid ho
    have HB := Lib.hid hb
    have hll : l.length ≤ 1048576 := by have := prefs_len _ _ hq; rw [List.length_take] at this; omega
    clear hq ho
    by_cases hlt : k < ws.length
    · have hlt' : (k : Int) < ws.length := by omega
      have hk63 : (k : Int) + 1 ≤ 9223372036854775807 := by omega
      obtain ⟨x, hx⟩ : ∃ x, ws[k]? = some x := ⟨_, List.getElem?_eq_getElem hlt⟩
      rcases HS.out with ⟨h0, _⟩ | ⟨b, o, rfl, hbk, hr⟩
      · omega
      have c0 : wr.cell? ⟨b, o + k, none⟩ = some (.string ⟨x.toArray⟩) := (hb.cell (by exact hbk)).trans (hr k _ (by rw [List.getElem?_map, hx]; rfl))
      have HTk : Hid (prefsOf (ws.take (k + 1)) = (prefOK x).map fun p => l ++ [p]) := Lib.hid (by
        rw [List.take_add_one, hx, Option.toList_some, prefs_snoc, HQ.out]
        rfl)
      have HNo : Hid (prefOK x = none → prefsOf ws = none) := fun e => by
        rw [← List.take_append_drop (k + 1) ws]
        exact prefs_none _ _ (by rw [HTk.out, e]; rfl)
      have KP := Lib.hid (fun W' hL => pref_any ⟨x.toArray⟩ (by simpa [ByteArray.size] using Hs.out x (List.mem_of_getElem? hx)) W' hL)
      have e0 : (⟨x.toArray⟩ : ByteArray).data.toList = x := rfl
      rw [e0] at KP
      clear e0 hr hx hb
      cases hp : prefL x with
      | none =>
        have HZ := Lib.hid (HNo.out (by unfold prefOK; rw [hp]; rfl))
        rw [hp] at KP
        go_wp2_with (go_at_call 103; (with_reducible refine (KP.out _ (HL.out _ HB.out)).mono ?_); rintro e w1 ⟨rfl, hb1⟩; have HB := Lib.hid (bstep HB.out hb1 HB.out.size); unfold prefV; clear hb1)
        go_ret2
        exact ⟨_, by rw [HZ.out]; rfl, by rw [HZ.out]; exact World.ownsRow_nil _ _ _ _, fun _ => rfl, HB.out.alloc HB.out.size _⟩
      | some p =>
        have hok := pref_key x p hp
        have KI := Lib.hid (fun W' => is_any p hok W')
        rw [hp] at KP
        cases hf : isF p with
        | false =>
          have HZ := Lib.hid (HNo.out (by unfold prefOK; rw [hp]; simp [hf]))
          rw [hf] at KI
          go_wp2_with (first
            | (go_at_call 103; (with_reducible refine (KP.out _ (HL.out _ HB.out)).mono ?_); rintro e w1 ⟨rfl, hb1⟩; have HB := Lib.hid (bstep HB.out hb1 HB.out.size); unfold prefV; clear hb1; have HBa := Lib.hid (HB.out.alloc HB.out.size (.cells #[.int .u32 (p.addr : Nat), .int .i64 p.len] 43)))
            | (go_at_call 88; (with_reducible refine (KI.out _).mono ?_); rintro e w2 ⟨rfl, hb2⟩; have HB := Lib.hid (bstep HBa.out hb2 HBa.out.size); clear hb2))
          go_ret2
          exact ⟨_, by rw [HZ.out]; rfl, by rw [HZ.out]; exact World.ownsRow_nil _ _ _ _, fun _ => rfl, HB.out⟩
        | true =>
          have HM := Lib.hid (show prefsOf (ws.take (k + 1)) = some (l ++ [p]) by rw [HTk.out]; unfold prefOK; rw [hp]; simp [hf])
          rw [hf] at KI
          go_wp2_with (first
            | (go_at_call 103; (with_reducible refine (KP.out _ (HL.out _ HB.out)).mono ?_); rintro e w1 ⟨rfl, hb1⟩; have HOw := Lib.hid (own_below HOw.out hb1); have HB := Lib.hid (bstep HB.out hb1 HB.out.size); unfold prefV; clear hb1; have HBa := Lib.hid (HB.out.alloc HB.out.size (.cells #[.int .u32 (p.addr : Nat), .int .i64 p.len] 43)); have HOw := Lib.hid (HOw.out.alloc (.cells #[.int .u32 (p.addr : Nat), .int .i64 p.len] 43)); have HRp := Lib.hid (heap_alloc_new w1 (.cells #[.int .u32 (p.addr : Nat), .int .i64 p.len] 43)))
            | (go_at_call 88; (with_reducible refine (KI.out _).mono ?_); rintro e w2 ⟨rfl, hb2⟩; have HOw := Lib.hid (own_below HOw.out hb2); have HRp := row_step HRp hb2; have HB := Lib.hid (bstep HBa.out hb2 HBa.out.size); have g0 := cell_of_row _ _ 0 _ _ _ HRp.out; have g1 := cell_of_row _ _ 1 _ _ _ HRp.out; clear hb2)
            | (at_builtin; refine wpList_append_row rfl _ _ 23 rfl W.heap.size 43 (.agg #[.int .u32 0, .int .i64 0]) 2 16 (by decide) Tryz.underlying23 info2p rfl _ _ _ rfl HOw.out #[.int .u32 (p.addr : Nat), .int .i64 p.len] rfl (by intro y hy; simp at hy; rcases hy with rfl | rfl <;> rfl) rfl (by simp only [maxLen]; omega) (by omega) HB.out.size ?_; intro v' w' ho hb hz; have HO2 := Lib.hid ho; have HB2 := Lib.hid (HB.out.trans hb); clear ho hb hz))
          go_roundw
          case rel => exact ⟨k + 1, l ++ [p], by omega, by go_num, HM.out, by rw [List.length_append, List.flatMap_append]; simpa [pfxL] using HO2.out, fun e => by simp at e, HB2.out⟩
          case measure => simp only [intOf]; go_num
    · have hge : ¬ (k : Int) < ws.length := by omega
      have hke : k = ws.length := by omega
      have HZ := Lib.hid (show prefsOf ws = some l by have h := HQ.out; rwa [hke, List.take_length] at h)
      go_wp2_with fail
      go_ret2
      exact ⟨_, by rw [HZ.out]; rfl, by rw [HZ.out]; exact HOw.out, fun e => by rw [HZ.out] at e; exact HNil.out e, HB.out⟩
end Go.Proofs.YtnmbbnhgoedjgaaGreatDoor.Ch1

namespace Go.Proofs.YtnmbbnhgoedjgaaGreatDoor.Ch2
open Go Go.RowKit Go.Proofs.YtnmbbnhgoedjgaaGreatDoor.St0 Go.Proofs.YtnmbbnhgoedjgaaGreatDoor.Ru0 Go.Proofs.YtnmbbnhgoedjgaaGreatDoor.Ru6 Go.Proofs.YtnmbbnhgoedjgaaGreatDoor.RuC Go.Proofs.YtnmbbnhgoedjgaaGreatDoor.RuE Go.Proofs.YtnmbbnhgoedjgaaGreatDoor.Cf0 Go.Proofs.YtnmbbnhgoedjgaaGreatDoor.Cf4 Go.Proofs.YtnmbbnhgoedjgaaGreatDoor.Cf3
set_option linter.unusedVariables false
set_option linter.unusedSimpArgs false
/-- What a line of two words with a number says. -/
def onceOf (t : Bool) (ws : List Wd) (low high : Nat) : Option Nat := if t then none else match ws with
  | [_, s] => numIn s low high
  | _ => none
/-- New blocks, and writes to one. -/
def Kept2 (W : World) (g : Nat) (w' : World) : Prop := ∃ w1, Below W.heap.size W w1 ∧ w1.grownBy w' (some g)
theorem kept0 {W w1 : World} {g : Nat} (hb : Below W.heap.size W w1) : Kept2 W g w1 := ⟨w1, hb, ⟨rfl, rfl, rfl, Nat.le_refl _, fun _ _ _ => rfl⟩⟩
theorem grown_cell (w : World) (g o : Nat) (u : Value) : w.grownBy (w.setCell ⟨g, o, none⟩ u) (some g) :=
  ⟨rfl, rfl, rfl, by simp [World.setCell], fun k hk hg => Below.heap_setCell _ _ _ _ (by intro e; exact hg (by rw [e]))⟩
def OnceGot (W : World) (g i j : Nat) (o : Option Nat) (e : Ending) (w' : World) : Prop := match o with
  | some n => e = .returned (.bool true) ∧ ∃ w1, Below W.heap.size W w1 ∧ w' = (w1.setCell ⟨g, i, none⟩ (.int .i64 (n : Nat))).setCell ⟨g, j, none⟩ (.bool true)
  | none => e = .returned (.bool false) ∧ Kept2 W g w'
theorem once_none (t : Bool) (ws : List Wd) (low high : Nat) (h : ws.length ≠ 2) : onceOf t ws low high = none := by
  unfold onceOf
  cases t
  · match ws, h with
    | [], _ => rfl
    | [_], _ => rfl
    | [_, _], h => exact absurd rfl h
    | _ :: _ :: _ :: _, _ => rfl
  · rfl
theorem two_low {W w1 : World} {g i j : Nat} {u v : Value} (hb : Below W.heap.size W w1) (hg : g < W.heap.size) : Kept2 W g ((w1.setCell ⟨g, i, none⟩ u).setCell ⟨g, j, none⟩ v) :=
  ⟨w1, hb, by
    have h := grown_cell w1 g i u
    have k := grown_cell (w1.setCell ⟨g, i, none⟩ u) g j v
    exact ⟨k.os.trans h.os, k.tape.trans h.tape, k.output.trans h.output, Nat.le_trans h.size k.size, fun b hb hn => (k.block b (Nat.lt_of_lt_of_le hb h.size) hn).trans (h.block b hb hn)⟩⟩
set_option maxRecDepth 20000 in
set_option maxHeartbeats 4000000 in
theorem once_any (t : Bool) (a : Int) (g i j : Nat) (hij : i ≠ j) (ws : List Wd) (hs : ∀ x ∈ ws, x.length ≤ 9223372036854775807) (low high : Nat) (v : Value) (W : World) (h : Sl W v ws.length (ws.map fun w => .string ⟨w.toArray⟩))
    (hi : W.cell? ⟨g, i, none⟩ = some (.int .i64 a)) (hj : W.cell? ⟨g, j, none⟩ = some (.bool t)) (fi : ∀ w1, Below W.heap.size W w1 → w1.frozen? ⟨g, i, none⟩ = false) (fj : ∀ w1, Below W.heap.size W w1 → w1.frozen? ⟨g, j, none⟩ = false) :
    Calls Tryz.prog 60 #[.pointer (some ⟨g, i, none⟩), .pointer (some ⟨g, j, none⟩), v, .int .i64 (low : Nat), .int .i64 (high : Nat)] W fun e w' => OnceGot W g i j (onceOf t ws low high) e w' := by
  have hg : g < W.heap.size := World.block_lt_of_cell? W _ hi
  obtain ⟨A, cap, rfl, hcap, h⟩ := h
  cases t with
  | true =>
    have HZ := Lib.hid (show onceOf true ws low high = none from rfl)
    clear h fi fj
    go_enter Tryz.func60, Tryz.ntmps60
    go_wp2_with fail
    go_ret
    rw [HZ.out]
    exact ⟨rfl, kept0 (Below.refl _ _)⟩
  | false =>
  by_cases hl : ws.length = 2
  rotate_left
  · have HZ := Lib.hid (once_none false ws low high hl)
    have hl' : ((ws.length : Int) != 2) = true := by simpa using fun e : (ws.length : Int) = 2 => hl (by omega)
    clear h fi fj hl
    go_enter Tryz.func60, Tryz.ntmps60
    go_wp2_with fail
    go_ret
    rw [HZ.out]
    exact ⟨rfl, kept0 (Below.refl _ _)⟩
  match ws, hl with
  | [x, s], _ =>
    rcases h with ⟨h0, _⟩ | ⟨b, o, rfl, hbk, hr⟩
    · simp at h0
    have c1 : W.cell? ⟨b, o + 1, none⟩ = some (.string ⟨s.toArray⟩) := hr 1 _ rfl
    have KN := Lib.hid (cnum_any ⟨s.toArray⟩ (by simpa [ByteArray.size] using hs s (by simp)) W)
    have e0 : (⟨s.toArray⟩ : ByteArray).data.toList = s := rfl
    rw [e0] at KN
    have HF := Lib.hid fi
    have HG := Lib.hid fj
    have Hi : Hid (_ ∧ _) := ⟨hi, hj⟩
    have hc2 : (2 : Int) ≤ cap := by simp at hcap; omega
    clear e0 hr fi fj hs hi
    cases hk : okNum 9 s with
    | false =>
      have HZ := Lib.hid (show onceOf false [x, s] low high = none by show numIn s low high = none; unfold numIn; rw [hk]; rfl)
      rw [hk] at KN
      go_enter Tryz.func60, Tryz.ntmps60
      go_wp2_with (go_at_call 102; (with_reducible refine KN.out.mono ?_); rintro e w1 ⟨rfl, hb1⟩; have HB := Lib.hid hb1; have f1 := HF.out _ hb1; have f2 := HG.out _ hb1; have g1 := (hb1.cell (by exact hg)).trans Hi.out.1; have g2 := (hb1.cell (by exact hg)).trans Hi.out.2; clear hb1)
      go_ret
      rw [HZ.out]
      exact ⟨rfl, two_low HB.out hg⟩
    | true =>
      rw [hk] at KN
      have hnum : onceOf false [x, s] low high = if (decide (low ≤ dv s) && decide (dv s ≤ high)) then some (dv s) else none := by
        show numIn s low high = _
        unfold numIn
        rw [hk]
        rfl
      generalize dv s = n at KN hnum
      by_cases h1 : (low : Int) ≤ n
      · by_cases h2 : (n : Int) ≤ high
        · have HZ := Lib.hid (show onceOf false [x, s] low high = some n by rw [hnum, decide_eq_true (show low ≤ n by omega), decide_eq_true (show n ≤ high by omega)]; rfl)
          clear hnum
          go_enter Tryz.func60, Tryz.ntmps60
          go_wp2_with (go_at_call 102; (with_reducible refine KN.out.mono ?_); rintro e w1 ⟨rfl, hb1⟩; have HB := Lib.hid hb1; have f1 := HF.out _ hb1; have f2 := HG.out _ hb1; have g1 := (hb1.cell (by exact hg)).trans Hi.out.1; have g2 := (hb1.cell (by exact hg)).trans Hi.out.2; clear hb1)
          go_ret
          rw [HZ.out]
          exact ⟨rfl, _, HB.out, rfl⟩
        · have HZ := Lib.hid (show onceOf false [x, s] low high = none by rw [hnum, decide_eq_false (show ¬ n ≤ high by omega), Bool.and_false]; rfl)
          clear hnum
          go_enter Tryz.func60, Tryz.ntmps60
          go_wp2_with (go_at_call 102; (with_reducible refine KN.out.mono ?_); rintro e w1 ⟨rfl, hb1⟩; have HB := Lib.hid hb1; have f1 := HF.out _ hb1; have f2 := HG.out _ hb1; have g1 := (hb1.cell (by exact hg)).trans Hi.out.1; have g2 := (hb1.cell (by exact hg)).trans Hi.out.2; clear hb1)
          go_ret
          rw [HZ.out]
          refine ⟨?_, two_low HB.out hg⟩
          show Ending.returned (Value.bool (decide (n ≤ high))) = _
          rw [decide_eq_false (show ¬ n ≤ high by omega)]
      · have HZ := Lib.hid (show onceOf false [x, s] low high = none by rw [hnum, decide_eq_false (show ¬ low ≤ n by omega)]; rfl)
        clear hnum
        go_enter Tryz.func60, Tryz.ntmps60
        go_wp2_with (go_at_call 102; (with_reducible refine KN.out.mono ?_); rintro e w1 ⟨rfl, hb1⟩; have HB := Lib.hid hb1; have f1 := HF.out _ hb1; have f2 := HG.out _ hb1; have g1 := (hb1.cell (by exact hg)).trans Hi.out.1; have g2 := (hb1.cell (by exact hg)).trans Hi.out.2; clear hb1)
        go_ret
        rw [HZ.out]
        exact ⟨rfl, two_low HB.out hg⟩
end Go.Proofs.YtnmbbnhgoedjgaaGreatDoor.Ch2

namespace Go.Proofs.YtnmbbnhgoedjgaaGreatDoor.Cf1
open Go Go.RowKit Go.Proofs.YtnmbbnhgoedjgaaGreatDoor.Ad0 Go.Proofs.YtnmbbnhgoedjgaaGreatDoor.St0 Go.Proofs.YtnmbbnhgoedjgaaGreatDoor.Ad3 Go.Proofs.YtnmbbnhgoedjgaaGreatDoor.St4 Go.Proofs.YtnmbbnhgoedjgaaGreatDoor.StC Go.Proofs.YtnmbbnhgoedjgaaGreatDoor.Ru0 Go.Proofs.YtnmbbnhgoedjgaaGreatDoor.Ru1 Go.Proofs.YtnmbbnhgoedjgaaGreatDoor.Ru3 Go.Proofs.YtnmbbnhgoedjgaaGreatDoor.Ru4 Go.Proofs.YtnmbbnhgoedjgaaGreatDoor.Ru6 Go.Proofs.YtnmbbnhgoedjgaaGreatDoor.RuB Go.Proofs.YtnmbbnhgoedjgaaGreatDoor.Rw0 Go.Proofs.YtnmbbnhgoedjgaaGreatDoor.RuY Go.Proofs.YtnmbbnhgoedjgaaGreatDoor.Cf0
set_option linter.unusedVariables false
set_option linter.unusedSimpArgs false
/-- No line ends in it. -/
def one (w : Wd) : Prop := (10 : UInt8) ∉ w
instance (w : Wd) : Decidable (one w) := inferInstanceAs (Decidable ((10 : UInt8) ∉ w))
theorem one_app {a b : Wd} (h : one a) (k : one b) : one (a ++ b) := fun hm => by
  rcases List.mem_append.1 hm with h' | h'
  · exact h h'
  · exact k h'
theorem one_cons {a : UInt8} {b : Wd} (h : a ≠ 10) (k : one b) : one (a :: b) := fun hm => by
  rcases List.mem_cons.1 hm with h' | h'
  · exact h h'.symm
  · exact k h'
theorem one_nil : one [] := fun h => by cases h
def Ones (l : List Wd) : Prop := ∀ w ∈ l, one w
theorem ones_nil : Ones [] := fun _ h => by cases h
theorem ones_cons {a : Wd} {l : List Wd} (h : one a) (t : Ones l) : Ones (a :: l) := fun w hw => by
  rcases List.mem_cons.1 hw with rfl | h'
  · exact h
  · exact t w h'
theorem ones_app {a b : List Wd} (h : Ones a) (t : Ones b) : Ones (a ++ b) := fun w hw => by
  rcases List.mem_append.1 hw with h' | h'
  · exact h w h'
  · exact t w h'
theorem ones_if {c : Prop} [Decidable c] {a b : List Wd} (h : c → Ones a) (t : ¬c → Ones b) : Ones (if c then a else b) := by
  split
  · exact h ‹_›
  · exact t ‹_›
theorem one_spaced (l : List Wd) (h : Ones l) : one (spaced l) := by
  cases l with
  | nil => exact one_nil
  | cons a t =>
    refine one_app (h a (by simp)) ?_
    intro hm
    obtain ⟨w, hw, hx⟩ := List.mem_flatMap.1 hm
    rcases List.mem_cons.1 hx with h' | h'
    · exact absurd h' (by decide)
    · exact h w (List.mem_cons_of_mem _ hw) h'
theorem one_name (w : Wd) (h : nameL w = true) : one w := by
  unfold nameL at h
  simp only [Bool.and_eq_true] at h
  intro hm
  have := List.all_eq_true.1 h.2 10 hm
  exact absurd this (by decide)
theorem one_dec (n : Nat) : one (Lib.decDigits n) := fun hm => by
  have := List.all_eq_true.1 (dig_dec n) 10 hm
  exact absurd this (by decide)
theorem one_itoa (n : Int) (h : 0 ≤ n) : one (Lib.itoa n) := by rw [itoa_of n h]; exact one_dec _
theorem one_printL (a : Nat) : one (printL a) := by
  rw [printL_eq]
  have h := fun j => one_dec (Ad3.octF a j)
  exact one_app (h 0) (one_cons (by decide) (one_app (h 1) (one_cons (by decide) (one_app (h 2) (one_cons (by decide) (h 3))))))
theorem one_printP (p : Pfx) : one (printP p) := by
  unfold printP
  split
  · rename_i h
    exact one_app (one_printL _) (one_cons (by decide) (one_itoa _ h.1))
  · exact one_nil
theorem one_flags : ∀ n : Fin 64, (10 : UInt8) ∉ flagsW n.val := by decide +kernel
theorem ones_side (s : SideM) (b : Bool) (h : sideR s b = true) : Ones (tkS s) := by
  have h' := h
  unfold sideR at h'
  rw [if_not, Bool.and_eq_true, Bool.not_eq_true'] at h'
  obtain ⟨hq, h'⟩ := h'
  simp only [Bool.or_eq_false_iff, decide_eq_false_iff_not] at hq
  obtain ⟨⟨⟨q0, q1⟩, q2⟩, -⟩ := hq
  have hwho : one (whoW s) := by
    unfold whoW
    cases ha : s.any with
    | true => exact (by decide : (10 : UInt8) ∉ wAny)
    | false =>
      rw [ha] at h'
      simp only [Bool.false_eq_true, if_false] at h' ⊢
      by_cases ht : s.table = []
      · have hno : ¬ (s.table ≠ []) := by simp [ht]
        simp only [if_neg hno]
        exact one_printP _
      · rw [if_pos ht] at h'
        simp only [if_pos ht]
        simp at h'
        exact one_cons (by decide) (one_app (one_name _ h'.1) (one_cons (by decide) one_nil))
  unfold tkS
  refine ones_cons hwho (ones_if (fun _ => ones_nil) (fun _ => ones_cons (by decide) (ones_cons ?_ ones_nil)))
  unfold portsW
  split
  · exact one_itoa _ (by omega)
  · exact one_app (one_itoa _ (by omega)) (one_cons (by decide) (one_itoa _ (by omega)))
theorem one_protoW (n : Int) (h : 0 ≤ n) : one (protoW n) := by
  unfold protoW
  split
  · exact (by decide : (10 : UInt8) ∉ wIcmp)
  · split
    · exact (by decide : (10 : UInt8) ∉ wTcp)
    · split
      · exact (by decide : (10 : UInt8) ∉ wUdp)
      · exact one_itoa n h
theorem ones_tokens (r : RuleM) (h : ruleR r = true) (hs : r.set ≤ 9223372036854775807) : Ones (tokens r) := by
  have hf := facts r h hs
  have fl (n : Int) (h0 : n.toNat < 64) : one (flagsW n.toNat) := one_flags ⟨n.toNat, h0⟩
  refine ones_cons (by split <;> exact (by decide)) ?_
  refine ones_app (ones_if (fun _ => ones_cons (by decide) ones_nil) (fun _ => ones_nil)) ?_
  refine ones_app (ones_if (fun _ => ones_cons (by decide) ones_nil) (fun _ => ones_nil)) ?_
  refine ones_app (ones_if (fun _ => ones_nil) (fun ho => ones_cons (by decide) (ones_cons (one_name _ (on_name r h ho)) ones_nil))) ?_
  refine ones_app (ones_if (fun _ => ones_nil) (fun ho => ones_cons (by decide) (ones_cons (one_protoW _ hf.proto.1) ones_nil))) ?_
  refine ones_cons (by decide) ?_
  refine ones_app (ones_side r.frm _ hf.sides.1) ?_
  refine ones_cons (by decide) ?_
  refine ones_app (ones_side r.dst _ hf.sides.2) ?_
  refine ones_app (ones_if (fun _ => ones_nil) (fun ho => ones_cons (by decide) (ones_cons (one_app (fl _ (by have := hf.set; have := hf.mask; omega)) (one_cons (by decide) (fl _ (by have := hf.mask; omega)))) ones_nil))) ?_
  refine ones_app (ones_if (fun _ => ones_nil) (fun ho => ones_cons (by decide) (ones_cons (one_itoa _ (by have := hf.typ; omega)) ones_nil))) ?_
  refine ones_app (ones_if (fun _ => ones_cons (by decide) ones_nil) (fun _ => ones_nil)) ?_
  refine ones_app (ones_if (fun ho => ones_cons (by decide) (ones_cons (one_name _ (pin_name _ hf.pins.1 ho)) (ones_cons (one_printL _) ones_nil))) (fun _ => ones_nil)) ?_
  refine ones_app (ones_if (fun ho => ones_cons (by decide) (ones_cons (one_name _ (pin_name _ hf.pins.2 ho)) (ones_cons (one_printL _) ones_nil))) (fun _ => ones_nil)) ?_
  exact ones_if (fun _ => ones_nil) (fun ho => ones_cons (by decide) (ones_cons (one_itoa _ hf.tab.1) ones_nil))
theorem one_mode : ∀ k : Fin 5, (10 : UInt8) ∉ modeW (k.val : Nat) := by decide +kernel
theorem ones_lines (c : ConfM) (h : IsC c) (ho : OkC c) : Ones (linesT c) := by
  unfold linesT
  refine ones_cons (one_spaced _ (ones_cons (by decide) (ones_cons (one_itoa _ (by have := h.flows; omega)) ones_nil))) ?_
  refine ones_cons (one_spaced _ (ones_cons (by decide) (ones_cons (one_itoa _ h.errors.1) ones_nil))) ?_
  refine ones_app ?_ (ones_app ?_ (ones_app ?_ ?_))
  · intro w hw
    obtain ⟨x, hx, rfl⟩ := List.mem_map.1 hw
    obtain ⟨h1, h2, h3, h4⟩ := isI_facts x (List.all_eq_true.1 h.ifaces x hx)
    have hm := one_mode ⟨x.rpf.toNat, by omega⟩
    have e3 : ((x.rpf.toNat : Nat) : Int) = x.rpf := by omega
    simp only [e3] at hm
    exact one_spaced _ (ones_cons (by decide) (ones_cons (one_name _ h1) (ones_cons (one_printP _) (ones_cons (by decide) (ones_cons (one_itoa _ (by omega)) (ones_cons (by decide) (ones_cons hm ones_nil)))))))
  · intro w hw
    obtain ⟨x, hx, rfl⟩ := List.mem_map.1 hw
    exact one_spaced _ (ones_cons (by decide) (ones_cons (one_printP _) ones_nil))
  · intro w hw
    obtain ⟨x, hx, rfl⟩ := List.mem_map.1 hw
    have ht := List.all_eq_true.1 h.tables x hx
    simp only [Bool.and_eq_true] at ht
    refine one_spaced _ (ones_cons (by decide) (ones_cons (one_name _ ht.1) ?_))
    intro v hv
    obtain ⟨p, hp, rfl⟩ := List.mem_map.1 hv
    exact one_printP p
  · intro w hw
    obtain ⟨x, hx, rfl⟩ := List.mem_map.1 hw
    have hr := List.all_eq_true.1 h.rules x hx
    unfold printed
    rw [if_pos hr]
    exact one_spaced _ (ones_tokens x hr (ho.rules x hx).set.2)
/-- A configuration's text is parsed back. -/
theorem text_back (c : ConfM) (h : isC c = true) (ho : OkC c) (hc : (checkC c).1 = 0) : parseC (textC c) = (c, 0, 0) := by
  have hi := isC_facts c h
  unfold parseC
  rw [if_neg (by have := hi.text; omega)]
  have hp := parts_unlines (linesT c) [] (ones_lines c hi ho)
  rw [List.append_nil] at hp
  show goL startC 0 (parts 10 (unlines (linesT c))) = _
  rw [hp]
  have hr : runL startC (linesT c ++ parts 10 []) = some c := by
    rw [runL_append, run_text c hi ho]
    rfl
  rw [goL_run _ _ _ 0 hr]
  unfold endC
  rw [hc]
  rfl
/-! ## Blanks and remarks -/
def wRemark : Wd := [32, 32, 35, 32, 120]
theorem run_remarks (c : ConfM) : ∀ n : Nat, runL c (List.replicate n wRemark) = some c
  | 0 => rfl
  | n + 1 => run_remarks c n
theorem ones_rep (n : Nat) : Ones (List.replicate n wRemark) := fun w hw => by
  rw [(List.mem_replicate.1 hw).2]
  exact (by decide : (10 : UInt8) ∉ wRemark)
theorem blank_back (c : ConfM) (n : Nat) (h : isC c = true) (ho : OkC c) (hc : (checkC c).1 = 0) (hl : (unlines (List.replicate n wRemark) ++ (textC c ++ [10, 32, 32, 32])).length ≤ 8192) : parseC (unlines (List.replicate n wRemark) ++ (textC c ++ [10, 32, 32, 32])) = (c, 0, 0) := by
  have hi := isC_facts c h
  unfold parseC
  rw [if_neg (by omega)]
  rw [parts_unlines _ _ (ones_rep n)]
  show goL startC 0 (_ ++ parts 10 (unlines (linesT c) ++ [10, 32, 32, 32])) = _
  rw [parts_unlines _ _ (ones_lines c hi ho)]
  have hr : runL startC (List.replicate n wRemark ++ (linesT c ++ parts 10 [10, 32, 32, 32])) = some c := by
    rw [runL_append, run_remarks]
    show runL startC (linesT c ++ _) = _
    rw [runL_append, run_text c hi ho]
    rfl
  rw [goL_run _ _ _ 0 hr]
  unfold endC
  rw [hc]
  rfl
def wNothing : Wd := [110, 111, 116, 104, 105, 110, 103]
theorem step_nothing (c : ConfM) : stepL c wNothing = none := by
  have hw : wordsL wNothing = [wNothing] := by decide +kernel
  have hr : ruleOf [wNothing] = none := by decide +kernel
  unfold stepL
  rw [hw]
  show lineL c wNothing [wNothing] = none
  have e : lineL c wNothing [wNothing] = (ruleOf (wordsL wNothing)).map fun r => { c with rules := c.rules ++ [r] } := rfl
  rw [e, hw, hr]
  rfl
theorem bad_line (t : Wd) (n : Nat) (hl : (unlines (List.replicate n wRemark) ++ (wNothing ++ 10 :: t)).length ≤ 8192) : parseC (unlines (List.replicate n wRemark) ++ (wNothing ++ 10 :: t)) = ({}, ((n + 1 : Nat) : Int), 2) := by
  unfold parseC
  rw [if_neg (by omega)]
  rw [parts_unlines _ _ (ones_rep n), parts_append 10 wNothing t (by decide)]
  rw [goL_append _ _ _ _ 0 (run_remarks startC n)]
  have e : ∀ (k : Nat) (l : List Wd), goL startC k (wNothing :: l) = (match stepL startC wNothing with
      | some c' => goL c' (k + 1) l
      | none => (({} : ConfM), ((k + 1 : Nat) : Int), (2 : Int))) := fun _ _ => rfl
  rw [e, step_nothing]
  simp
end Go.Proofs.YtnmbbnhgoedjgaaGreatDoor.Cf1

