/- addr.ParsePrefix and addr.PrintPrefix. addr.PrintPrefix, strconv.Itoa and addr.Print where the library's table is given. castellanref3.Num, Dec and Split. castellanref3.Parse. What is printed is read as it was: plain lists of bytes. castellanref3.Print and PrintPrefix. -/
import Derived.Test.YtnmbbnhgoedjgaaGreatDoorQSt2
import Derived.Test.YtnmbbnhgoedjgaaGreatDoorQAd3
import Derived.Test.YtnmbbnhgoedjgaaGreatDoorQSt1
import Derived.Deep.AppendLies
import Derived.OwnWalk
import Derived.LoopTactic
import Derived.Lib.SmallJoins
namespace Go.Proofs.YtnmbbnhgoedjgaaGreatDoor.St3
open Go Go.RowKit Go.Proofs.YtnmbbnhgoedjgaaGreatDoor.Ad0 Go.Proofs.YtnmbbnhgoedjgaaGreatDoor.Ad1 Go.Proofs.YtnmbbnhgoedjgaaGreatDoor.St0 Go.Proofs.YtnmbbnhgoedjgaaGreatDoor.St1 Go.Proofs.YtnmbbnhgoedjgaaGreatDoor.St2
set_option linter.unusedVariables false
set_option linter.unusedSimpArgs false
def prefL (l : List UInt8) : Option Pfx :=
  if (Lib.cut l [47]).2.2 = true then (if okNum 3 (Lib.cut l [47]).2.1 && decide (dv (Lib.cut l [47]).2.1 ≤ 32) then (parseL (Lib.cut l [47]).1).map fun a => ⟨a, (dv (Lib.cut l [47]).2.1 : Nat)⟩ else none)
  else (parseL (Lib.cut l [47]).1).map fun a => ⟨a, 32⟩
def prefV (r : Option Pfx) : Value := match r with
  | some p => .tuple #[.agg #[.int .u32 p.addr, .int .i64 p.len], .int .i64 0]
  | none => .tuple #[.agg #[.int .u32 0, .int .i64 0], .int .i64 2]
theorem box2 {w : World} {g : Nat} {x y : Value} {T : TypeId} (h : w.heap[g]? = some (.cells #[x, y] T (0, 0))) :
    w.cell? ⟨g, 0, none⟩ = some x ∧ w.cell? ⟨g, 1, none⟩ = some y ∧ w.frozen? ⟨g, 0, none⟩ = false ∧ w.frozen? ⟨g, 1, none⟩ = false :=
  ⟨(cell_of_row _ _ 0 _ _ _ h).trans rfl, (cell_of_row _ _ 1 _ _ _ h).trans rfl, frozen_of_row _ _ 0 _ _ h, frozen_of_row _ _ 1 _ _ h⟩
theorem set_at {w : World} {g k : Nat} {c : Array Value} {T : TypeId} {fr : Nat × Nat} {v : Value} (h : w.heap[g]? = some (.cells c T fr)) : (w.setCell ⟨g, k, none⟩ v).heap[g]? = some (.cells (c.setIfInBounds k v) T fr) := by
  unfold World.setCell
  simp only [Array.getElem?_modify, h]
  simp
theorem set_b {B g k : Nat} {w0 w : World} {v : Value} (hb : Below B w0 w) (hg : B ≤ g) : Below B w0 (w.setCell ⟨g, k, none⟩ v) :=
  ⟨hb.os, hb.tape, hb.output, by unfold World.setCell; simpa using hb.size, fun i hi => by
    unfold World.setCell
    simp only [Array.getElem?_modify]
    rw [if_neg (by omega)]
    exact hb.block i hi⟩
/-- A result out of a box, and one beside it. -/
theorem box_ret {P : Program} {fn : Func} {R : Ending → World → Prop} {a : Act} {w : World} {t u : Tmp} {T : TypeId} {v : Value} {g : Nat} {c : Array Value} {fr : Nat × Nat} {fs : Array Field}
    (hc : w.heap[g]? = some (.cells c T fr)) (h : fn.results = #[.cell t T, .tmp u]) 
    (ht : a.tmps.getD t undef = .pointer (some ⟨g, 0, none⟩)) (hv : a.tmps.getD u undef = v) (hu : P.underlying T = some (.struct fs)) (hi : (P.info? T).map (·.size) = some c.size)
    (hd : a.defers = []) (hR : R (.returned (.tuple #[.agg c, v])) w) : bodyPost P fn R .ret a w := by
  refine bodyPost_ret ?_ hd hR
  have hl := run_loadVar_row (P := P) _ _ T T c fr _ hc hu rfl hi
  unfold results
  rw [h]
  have e1 : (asAddr (a.tmps.getD t undef)).run P w = .ok ⟨g, 0, none⟩ w := by rw [ht]; rfl
  simp only [List.mapM_toArray, List.mapM_cons, List.mapM_nil, Array.mapM_eq_mapM_toList, Sem.run_bind, Sem.run_pure, Result.andThen, e1, hl, hv, bind_assoc, pure_bind]
  have e2 : (asAddr (a.tmps[t]?.getD undef)).run P w = .ok ⟨g, 0, none⟩ w := by simpa using e1
  simp [Sem.run_bind, Sem.run_pure, Result.andThen, e2, hl, hv]
theorem row_step {W w1 : World} {g : Nat} {o : Obj} (h : Hid (W.heap[g]? = some o)) (hb : Below W.heap.size W w1) : Hid (w1.heap[g]? = some o) := (hb.block g (blk_lt' h)).trans h
/-- What number answers at 32, in its two ways. -/
theorem number_Q (l : List UInt8) (hb : l.length ≤ 9223372036854775807) (W : World) : Calls Tryz.prog 146 #[.string ⟨l.toArray⟩, .int .i64 32] W fun e w' => ((okNum 3 l && decide (dv l ≤ 32)) = true → e = .returned (.tuple #[.int .i64 (dv l : Nat), .bool true])) ∧
    ((okNum 3 l && decide (dv l ≤ 32)) = false → ∃ n : Int, e = .returned (.tuple #[.int .i64 n, .bool false])) ∧ Below W.heap.size W w' := by
  have hl : (⟨l.toArray⟩ : ByteArray).data.toList = l := rfl
  have hz : (⟨l.toArray⟩ : ByteArray).size ≤ 9223372036854775807 := by rw [size_data]; exact hb
  by_cases h : okNum 3 l = true
  · refine (number_ok ⟨l.toArray⟩ 32 (by decide) W h).mono ?_
    rintro e w' ⟨rfl, hb⟩
    rw [h]
    simp only [Bool.true_and]
    refine ⟨fun ho => ?_, fun ho => ⟨(dv l : Nat), ?_⟩, hb⟩
    · rw [ho]
    · rw [ho]
  · simp only [Bool.not_eq_true] at h
    refine (number_bad ⟨l.toArray⟩ hz 32 W h).mono ?_
    rintro e w' ⟨rfl, hb⟩
    rw [h]
    exact ⟨fun ho => (by cases ho), fun _ => ⟨0, rfl⟩, hb⟩
set_option maxHeartbeats 2000000 in
theorem pref_any (s : ByteArray) (hs : s.size < 4294967281) (w : World) (hl : LibOK w) :
    Calls Tryz.prog 103 #[.string s] w fun e w' => e = .returned (prefV (prefL s.data.toList)) ∧ Below w.heap.size w w' := by
  obtain ⟨m, hm⟩ := hl.maxLen
  have h0 : (w.alloc (.cells #[.int .u32 0, .int .i64 0] 43)).cell? ⟨0, 0, none⟩ = some (.int .i64 m) := ((bnew w _).cell (World.block_lt_of_cell? w _ hm)).trans hm
  have hcut := Tryz.strings_Cut s ⟨#[47]⟩ m _ hs h0
  have HL0 := Lib.hid (hl.below (bnew w (.cells #[.int .u32 0, .int .i64 0] 43)))
  unfold prefL
  have hlen : (Lib.cut s.data.toList [47]).1.length ≤ s.size ∧ (Lib.cut s.data.toList [47]).2.1.length ≤ s.size := by
    rw [size_data]
    unfold Lib.cut
    split <;> simp <;> omega
  change Calls _ _ _ _ (fun e w' => e = .returned (.tuple #[.string ⟨(Lib.cut s.data.toList [47]).1.toArray⟩, .string ⟨(Lib.cut s.data.toList [47]).2.1.toArray⟩, .bool (Lib.cut s.data.toList [47]).2.2]) ∧ _) at hcut
  generalize Lib.cut s.data.toList [47] = c at hcut hlen ⊢
  obtain ⟨f, b, ok⟩ := c
  dsimp only at hcut hlen ⊢
  have hf : (⟨f.toArray⟩ : ByteArray).size < 4294967281 := by rw [size_data]; show f.length < _; omega
  have hbl : b.length ≤ 9223372036854775807 := by omega
  have HB0 := Lib.hid (bnew w (.cells #[.int .u32 0, .int .i64 0] 43))
  have HR0 := Lib.hid (heap_alloc_new w (.cells #[.int .u32 0, .int .i64 0] 43))
  have HCUT := Lib.hid hcut
  have HN := Lib.hid (fun W => number_Q b hbl W)
  have HP := Lib.hid (fun W hL => parse_any ⟨f.toArray⟩ hf W hL)
  have hpl : (⟨f.toArray⟩ : ByteArray).data.toList = f := rfl
  rw [hpl] at HP
  clear hcut hm h0 hlen hbl hf hl hpl
  generalize parseL f = r at HP ⊢
  have HPN : r = none → Hid (∀ W, LibOK W → Calls Tryz.prog 147 #[.string ⟨f.toArray⟩] W fun e w' => e = .returned (.tuple #[.int .u32 0, .int .i64 2]) ∧ Below W.heap.size W w') := fun e => by subst e; exact HP
  have HPS : ∀ a : Nat, r = some a → Hid (∀ W, LibOK W → Calls Tryz.prog 147 #[.string ⟨f.toArray⟩] W fun e w' => e = .returned (.tuple #[.int .u32 (a : Nat), .int .i64 0]) ∧ Below W.heap.size W w') := fun a e => by subst e; exact HP
  clear HP
  cases ok
  · simp only [Bool.false_eq_true, if_false]
    cases r with
    | none =>
      have HP := HPN rfl
      clear HPN HPS HN
      have key : Calls Tryz.prog 103 #[.string s] w fun e w' => e = .returned (.tuple #[.agg #[.int .u32 0, .int .i64 0], .int .i64 2]) ∧ Below w.heap.size w w' := by
        skip
        go_enter Tryz.func103, Tryz.ntmps103
        go_wp2_with (first
          | (go_at_call 145; refine HCUT.out.mono ?_; rintro e w1 ⟨rfl, n1, rfl⟩; have HB1 := Lib.hid (bdrewN HB0.out n1); have HL1 := Lib.hid (HL0.out.below (bdrewN (Below.refl _ _) n1)); have HR1 : Hid ((((w.alloc (.cells #[.int .u32 0, .int .i64 0] 43)).drewN n1).heap[w.heap.size]? = _)) := HR0)
          | fail
          | (go_at_call 147; refine (HP.out _ HL1.out).mono ?_; rintro e w2 ⟨rfl, hb2⟩; have HB2 := Lib.hid (bstep HB1.out hb2 HB1.out.size); have HR2 := row_step HR1 hb2; clear hb2; obtain ⟨d0, d1, d2, d3⟩ := box2 HR2.out))
        have hr := set_at (k := 1) (v := .int .i64 0) (set_at (k := 0) (v := .int .u32 0) HR2.out)
        exact box_ret hr rfl rfl rfl Tryz.underlying43 (by kernel_rfl) rfl ⟨rfl, set_b (set_b HB2.out (Nat.le_refl _)) (Nat.le_refl _)⟩
      exact key
    | some a =>
      have HP := HPS a rfl
      clear HPN HPS HN
      have key : Calls Tryz.prog 103 #[.string s] w fun e w' => e = .returned (.tuple #[.agg #[.int .u32 (a : Nat), .int .i64 32], .int .i64 0]) ∧ Below w.heap.size w w' := by
        skip
        go_enter Tryz.func103, Tryz.ntmps103
        go_wp2_with (first
          | (go_at_call 145; refine HCUT.out.mono ?_; rintro e w1 ⟨rfl, n1, rfl⟩; have HB1 := Lib.hid (bdrewN HB0.out n1); have HL1 := Lib.hid (HL0.out.below (bdrewN (Below.refl _ _) n1)); have HR1 : Hid ((((w.alloc (.cells #[.int .u32 0, .int .i64 0] 43)).drewN n1).heap[w.heap.size]? = _)) := HR0)
          | fail
          | (go_at_call 147; refine (HP.out _ HL1.out).mono ?_; rintro e w2 ⟨rfl, hb2⟩; have HB2 := Lib.hid (bstep HB1.out hb2 HB1.out.size); have HR2 := row_step HR1 hb2; clear hb2; obtain ⟨d0, d1, d2, d3⟩ := box2 HR2.out))
        have hr := set_at (k := 1) (v := .int .i64 32) (set_at (k := 0) (v := .int .u32 (a : Nat)) HR2.out)
        exact box_ret hr rfl rfl rfl Tryz.underlying43 (by kernel_rfl) rfl ⟨rfl, set_b (set_b HB2.out (Nat.le_refl _)) (Nat.le_refl _)⟩
      exact key
  · simp only [if_true]
    by_cases hk : (okNum 3 b && decide (dv b ≤ 32)) = true
    · have HNG : Hid (∀ W, Calls Tryz.prog 146 #[.string ⟨b.toArray⟩, .int .i64 32] W fun e w' => e = .returned (.tuple #[.int .i64 (dv b : Nat), .bool true]) ∧ Below W.heap.size W w') := fun W => (HN.out W).mono fun e w' hh => ⟨hh.1 hk, hh.2.2⟩
      rw [if_pos hk]
      clear hk HN
      cases r with
      | none =>
       have HP := HPN rfl
       clear HPN HPS
       have key : Calls Tryz.prog 103 #[.string s] w fun e w' => e = .returned (.tuple #[.agg #[.int .u32 0, .int .i64 0], .int .i64 2]) ∧ Below w.heap.size w w' := by
         skip
         go_enter Tryz.func103, Tryz.ntmps103
         go_wp2_with (first
           | (go_at_call 145; refine HCUT.out.mono ?_; rintro e w1 ⟨rfl, n1, rfl⟩; have HB1 := Lib.hid (bdrewN HB0.out n1); have HL1 := Lib.hid (HL0.out.below (bdrewN (Below.refl _ _) n1)); have HR1 : Hid ((((w.alloc (.cells #[.int .u32 0, .int .i64 0] 43)).drewN n1).heap[w.heap.size]? = _)) := HR0)
           | (go_at_call 146; refine (HNG.out _).mono ?_; rintro e w3 ⟨rfl, hb3⟩; have HB1 := Lib.hid (bstep HB1.out hb3 HB1.out.size); have HR1 := row_step HR1 hb3; have HL1 := Lib.hid (HL1.out.below hb3); clear hb3)
           | (go_at_call 147; refine (HP.out _ HL1.out).mono ?_; rintro e w2 ⟨rfl, hb2⟩; have HB2 := Lib.hid (bstep HB1.out hb2 HB1.out.size); have HR2 := row_step HR1 hb2; clear hb2; obtain ⟨d0, d1, d2, d3⟩ := box2 HR2.out))
         have hr := set_at (k := 1) (v := .int .i64 0) (set_at (k := 0) (v := .int .u32 0) HR2.out)
         exact box_ret hr rfl rfl rfl Tryz.underlying43 (by kernel_rfl) rfl ⟨rfl, set_b (set_b HB2.out (Nat.le_refl _)) (Nat.le_refl _)⟩
       exact key
      | some a =>
       have HP := HPS a rfl
       clear HPN HPS
       have key : Calls Tryz.prog 103 #[.string s] w fun e w' => e = .returned (.tuple #[.agg #[.int .u32 (a : Nat), .int .i64 (dv b : Nat)], .int .i64 0]) ∧ Below w.heap.size w w' := by
         skip
         go_enter Tryz.func103, Tryz.ntmps103
         go_wp2_with (first
           | (go_at_call 145; refine HCUT.out.mono ?_; rintro e w1 ⟨rfl, n1, rfl⟩; have HB1 := Lib.hid (bdrewN HB0.out n1); have HL1 := Lib.hid (HL0.out.below (bdrewN (Below.refl _ _) n1)); have HR1 : Hid ((((w.alloc (.cells #[.int .u32 0, .int .i64 0] 43)).drewN n1).heap[w.heap.size]? = _)) := HR0)
           | (go_at_call 146; refine (HNG.out _).mono ?_; rintro e w3 ⟨rfl, hb3⟩; have HB1 := Lib.hid (bstep HB1.out hb3 HB1.out.size); have HR1 := row_step HR1 hb3; have HL1 := Lib.hid (HL1.out.below hb3); clear hb3)
           | (go_at_call 147; refine (HP.out _ HL1.out).mono ?_; rintro e w2 ⟨rfl, hb2⟩; have HB2 := Lib.hid (bstep HB1.out hb2 HB1.out.size); have HR2 := row_step HR1 hb2; clear hb2; obtain ⟨d0, d1, d2, d3⟩ := box2 HR2.out))
         have hr := set_at (k := 1) (v := .int .i64 (dv b : Nat)) (set_at (k := 0) (v := .int .u32 (a : Nat)) HR2.out)
         exact box_ret hr rfl rfl rfl Tryz.underlying43 (by kernel_rfl) rfl ⟨rfl, set_b (set_b HB2.out (Nat.le_refl _)) (Nat.le_refl _)⟩
       exact key
    · rw [if_neg hk]
      simp only [Bool.not_eq_true] at hk
      have HNB : Hid (∀ W, Calls Tryz.prog 146 #[.string ⟨b.toArray⟩, .int .i64 32] W fun e w' => (∃ n : Int, e = .returned (.tuple #[.int .i64 n, .bool false])) ∧ Below W.heap.size W w') := fun W => (HN.out W).mono fun e w' hh => ⟨hh.2.1 hk, hh.2.2⟩
      clear HPN HPS HN hk
      have key : Calls Tryz.prog 103 #[.string s] w fun e w' => e = .returned (.tuple #[.agg #[.int .u32 0, .int .i64 0], .int .i64 2]) ∧ Below w.heap.size w w' := by
        skip
        go_enter Tryz.func103, Tryz.ntmps103
        go_wp2_with (first
          | (go_at_call 145; refine HCUT.out.mono ?_; rintro e w1 ⟨rfl, n1, rfl⟩; have HB1 := Lib.hid (bdrewN HB0.out n1); have HL1 := Lib.hid (HL0.out.below (bdrewN (Below.refl _ _) n1)); have HR1 : Hid ((((w.alloc (.cells #[.int .u32 0, .int .i64 0] 43)).drewN n1).heap[w.heap.size]? = _)) := HR0)
          | (go_at_call 146; refine (HNB.out _).mono ?_; rintro e w3 ⟨⟨n, rfl⟩, hb3⟩; have HB2 := Lib.hid (bstep HB1.out hb3 HB1.out.size); have HR2 := row_step HR1 hb3; clear hb3; obtain ⟨d0, d1, d2, d3⟩ := box2 HR2.out)
          | fail)
        have hr := set_at (k := 1) (v := .int .i64 0) (set_at (k := 0) (v := .int .u32 0) HR2.out)
        exact box_ret hr rfl rfl rfl Tryz.underlying43 (by kernel_rfl) rfl ⟨rfl, set_b (set_b HB2.out (Nat.le_refl _)) (Nat.le_refl _)⟩
      exact key
end Go.Proofs.YtnmbbnhgoedjgaaGreatDoor.St3

namespace Go.Proofs.YtnmbbnhgoedjgaaGreatDoor.St4
open Go Go.RowKit Go.Proofs.YtnmbbnhgoedjgaaGreatDoor.Ad0 Go.Proofs.YtnmbbnhgoedjgaaGreatDoor.Ad1 Go.Proofs.YtnmbbnhgoedjgaaGreatDoor.Ad3 Go.Proofs.YtnmbbnhgoedjgaaGreatDoor.St1 Go.Proofs.YtnmbbnhgoedjgaaGreatDoor.St2 Go.Proofs.YtnmbbnhgoedjgaaGreatDoor.St3
set_option linter.unusedVariables false
set_option linter.unusedSimpArgs false
theorem below_grow {B : Nat} (w : World) (k : Nat) (os : Array Obj) (hB : B ≤ w.heap.size) : Below B w (Sort.grow (w.drewN k) os) := by
  refine ⟨rfl, rfl, rfl, by simp [Sort.grow, World.drewN], fun i hi => ?_⟩
  simp only [Sort.grow, World.drewN]
  rw [Array.getElem?_append_left (by omega)]
theorem itoa_any (n : Int) (h0 : -9223372036854775808 ≤ n) (h1 : n ≤ 9223372036854775807) (w : World) (hl : LibOK w) :
    Calls Tryz.prog 75 #[.int .i64 n] w fun e w' => e = .returned (.string ⟨(Lib.itoa n).toArray⟩) ∧ Below w.heap.size w w' := by
  refine (Tryz.strconv_Itoa n h0 h1 w hl.pow10).mono ?_
  rintro e w' ⟨rfl, k, os, rfl⟩
  exact ⟨rfl, below_grow w k os (Nat.le_refl _)⟩
def printL (a : Nat) : List UInt8 := Lib.join ((octL a).map (·.data.toList)) [46]
theorem print_lib (a : Nat) (ha : a < 4294967296) (w : World) (hl : LibOK w) :
    Calls Tryz.prog 127 #[.int .u32 a] w fun e w' => e = .returned (.string ⟨(printL a).toArray⟩) ∧ Below w.heap.size w w' := by
  refine print_any a ha w fun j hj W hb => ?_
  exact itoa_any _ (by omega) (by have : octF a j < 256 := Nat.mod_lt _ (by decide); omega) W (hl.below hb)
/-- addr.PrintPrefix. -/
def printP (p : Pfx) : List UInt8 := if 0 ≤ p.len ∧ p.len ≤ 32 then printL p.addr ++ 47 :: Lib.itoa p.len else []
theorem keep1 {B : Nat} {w : World} {g : Nat} {c0 c1 : Value} {W w1 : World} (hb : Below W.heap.size W w1)
    (h : W.cell? ⟨g, 0, none⟩ = some c0 ∧ W.cell? ⟨g, 1, none⟩ = some c1 ∧ B ≤ W.heap.size ∧ Below B w W ∧ LibOK W) :
    w1.cell? ⟨g, 0, none⟩ = some c0 ∧ w1.cell? ⟨g, 1, none⟩ = some c1 ∧ B ≤ w1.heap.size ∧ Below B w w1 ∧ LibOK w1 :=
  ⟨(hb.cell (World.block_lt_of_cell? W _ h.1)).trans h.1, (hb.cell (World.block_lt_of_cell? W _ h.2.1)).trans h.2.1, Nat.le_trans h.2.2.1 hb.size, bstep h.2.2.2.1 hb h.2.2.1, h.2.2.2.2.below hb⟩
theorem begin1 {B : Nat} {w : World} {g : Nat} {c0 c1 : Value} {W : World} (h0 : W.cell? ⟨g, 0, none⟩ = some c0) (h1 : W.cell? ⟨g, 1, none⟩ = some c1) (hs : B ≤ W.heap.size) (hb : Below B w W) (hl : LibOK W) :
    W.drew.cell? ⟨g, 0, none⟩ = some c0 ∧ W.drew.cell? ⟨g, 1, none⟩ = some c1 ∧ B ≤ W.drew.heap.size ∧ Below B w W.drew ∧ LibOK W.drew :=
  ⟨h0, h1, hs, hb.drew, hl.below (Below.refl _ _).drew⟩
theorem lib5 {B : Nat} {w : World} {g : Nat} {c0 c1 : Value} {W : World} (h : W.cell? ⟨g, 0, none⟩ = some c0 ∧ W.cell? ⟨g, 1, none⟩ = some c1 ∧ B ≤ W.heap.size ∧ Below B w W ∧ LibOK W) : LibOK W := h.2.2.2.2
theorem below5 {B : Nat} {w : World} {g : Nat} {c0 c1 : Value} {W : World} (h : W.cell? ⟨g, 0, none⟩ = some c0 ∧ W.cell? ⟨g, 1, none⟩ = some c1 ∧ B ≤ W.heap.size ∧ Below B w W ∧ LibOK W) : Below B w W := h.2.2.2.1
theorem print_len (a : Nat) : (printL a).length ≤ 15 := join_len a
set_option maxHeartbeats 2000000 in
theorem pprint_any (p : Pfx) (hp : p.addr < 4294967296) (w : World) (hl : LibOK w) :
    Calls Tryz.prog 76 #[.agg #[.int .u32 p.addr, .int .i64 p.len]] w fun e w' => e = .returned (.string ⟨(printP p).toArray⟩) ∧ Below w.heap.size w w' := by
  unfold printP
  obtain ⟨D0, D1, D2, D3⟩ : _ ∧ _ ∧ _ ∧ _ := box2 (heap_alloc_new w (.cells #[.int .u32 p.addr, .int .i64 p.len] 43))
  have DB := Lib.hid (bnew w (.cells #[.int .u32 p.addr, .int .i64 p.len] 43))
  have DL := Lib.hid (hl.below (bnew w (.cells #[.int .u32 p.addr, .int .i64 p.len] 43)))
  by_cases hlen : 0 ≤ p.len ∧ p.len ≤ 32
  · rw [if_pos hlen]
    obtain ⟨l0, l1⟩ := hlen
    have hn0 : ¬ p.len < 0 := by omega
    have hn1 : ¬ 32 < p.len := by omega
    have hI := fun W hL => itoa_any p.len (by omega) (by omega) W hL
    have hil : (Lib.itoa p.len).length ≤ 3 := by
      obtain ⟨n, hn⟩ := Int.eq_ofNat_of_zero_le l0
      rw [hn]
      have e := congrArg List.length (itoa_nat n)
      have := dec_len n (by omega)
      exact (by rw [e]; exact this)
    have hpl := print_len p.addr
    have HI := Lib.hid hI
    have HP := Lib.hid (fun W hL => print_lib p.addr hp W hL)
    clear l0 l1 hI
    have e1 : (⟨(printL p.addr).toArray⟩ : ByteArray) ++ ⟨#[47]⟩ ++ ⟨(Lib.itoa p.len).toArray⟩ = ⟨(printL p.addr ++ 47 :: Lib.itoa p.len).toArray⟩ := by
      apply ByteArray.ext
      simp [ByteArray.data_append]
    rw [← e1]
    have z1 : (⟨(printL p.addr).toArray⟩ : ByteArray).size = (printL p.addr).length := by rw [size_data]
    have z2 : (⟨(Lib.itoa p.len).toArray⟩ : ByteArray).size = (Lib.itoa p.len).length := by rw [size_data]
    generalize (⟨(printL p.addr).toArray⟩ : ByteArray) = s1 at HP z1 ⊢
    generalize (⟨(Lib.itoa p.len).toArray⟩ : ByteArray) = s3 at HI z2 ⊢
    have hadd1 := fun W => run_string_add_sum (P := Tryz.prog) W s1 ⟨#[47]⟩ (by show s1.size + 1 ≤ _; omega)
    have z3 : (s1 ++ ⟨#[47]⟩).size = s1.size + 1 := by rw [ByteArray.size_append]; rfl
    generalize (s1 ++ ⟨#[47]⟩) = s2 at hadd1 z3 ⊢
    have hadd2 := fun W => run_string_add_sum (P := Tryz.prog) W s2 s3 (by omega)
    generalize (s2 ++ s3) = s4 at hadd2 ⊢
    have hno1 : ¬ (9223372036854775807 < s1.size + 1) := by omega
    have hno2 : ¬ (9223372036854775807 < s2.size + s3.size) := by omega
    clear z1 z2 z3 e1 hil hpl
    go_enter Tryz.func76, Tryz.ntmps76
    go_wp2_with fail
    have hz : w.heap.size < w.heap.size + 1 := by omega
    go_region_held3 (fun w' => w'.cell? ⟨w.heap.size, 0, none⟩ = some (.int .u32 p.addr) ∧ w'.cell? ⟨w.heap.size, 1, none⟩ = some (.int .i64 p.len) ∧ w.heap.size ≤ w'.heap.size ∧ Below w.heap.size w w' ∧ LibOK w')
      (first | exact begin1 D0 D1 DB.out.size DB.out DL.out | exact keep1 (by assumption) (by assumption))
      (first
        | (go_at_call 127; (with_reducible refine (HP.out _ (lib5 (by assumption))).mono ?_); rintro e v1 ⟨rfl, hb1⟩)
        | (go_at_call 75; (with_reducible refine (HI.out _ (lib5 (by assumption))).mono ?_); rintro e v1 ⟨rfl, hb1⟩))
    go_wp2
    go_ret
    exact ⟨rfl, below5 (by assumption)⟩
  · rw [if_neg hlen]
    have hn : p.len < 0 ∨ 32 < p.len := by omega
    rcases hn with hn | hn
    · go_enter Tryz.func76, Tryz.ntmps76
      go_wp2_with fail
      go_ret
      exact ⟨rfl, DB.out⟩
    · have hn0 : ¬ p.len < 0 := by omega
      go_enter Tryz.func76, Tryz.ntmps76
      go_wp2_with fail
      go_ret
      exact ⟨rfl, DB.out⟩
end Go.Proofs.YtnmbbnhgoedjgaaGreatDoor.St4

namespace Go.Proofs.YtnmbbnhgoedjgaaGreatDoor.St5
open Go Go.RowKit Go.Proofs.YtnmbbnhgoedjgaaGreatDoor.Ad1 Go.Proofs.YtnmbbnhgoedjgaaGreatDoor.St0 Go.Proofs.YtnmbbnhgoedjgaaGreatDoor.St1
set_option linter.unusedVariables false
set_option linter.unusedSimpArgs false
theorem at_list (s : ByteArray) (j : Nat) (hj : j < s.size) : s.data.toList[j]? = some s[j] := by
  rw [Array.getElem?_toList]
  exact Array.getElem?_eq_getElem hj
theorem take_step (s : ByteArray) (j : Nat) (hj : j < s.size) : s.data.toList.take (j + 1) = s.data.toList.take j ++ [s[j]] := by
  have h := at_list s j hj
  have hl : j < s.data.toList.length := by rw [← size_data]; exact hj
  rw [List.take_succ_eq_append_getElem hl]
  congr 2
theorem dvF_snoc (l : List UInt8) (b : UInt8) : ∀ n, dvF n (l ++ [b]) = 10 * dvF n l + (b.toNat - 48) := by
  induction l with
  | nil => intro n; rfl
  | cons x l ih => intro n; exact ih _
end Go.Proofs.YtnmbbnhgoedjgaaGreatDoor.St5
/- castellanref3.Dec. -/
namespace Go.Proofs.YtnmbbnhgoedjgaaGreatDoor.St6
open Go Go.RowKit Go.Proofs.YtnmbbnhgoedjgaaGreatDoor.Ad1 Go.Proofs.YtnmbbnhgoedjgaaGreatDoor.St0 Go.Proofs.YtnmbbnhgoedjgaaGreatDoor.St1
set_option linter.unusedVariables false
set_option linter.unusedSimpArgs false
theorem dec_small (n : Nat) (h10 : n < 10) (w : World) :
    Calls Tryz.prog 82 #[.int .i64 n] w fun e w' => e = .returned (.string ⟨(Lib.decDigits n).toArray⟩) ∧ Below w.heap.size w w' := by
  have hc := run_convert_bytes_back (P := Tryz.prog) (w.alloc (.cells #[.int .u8 (48 + (n : Int))] 5)) 118 9 5 ⟨w.heap.size, 0, none⟩ 1 [UInt8.ofNat (48 + n)] Tryz.underlying118 Tryz.underlying5 Tryz.underlying9 (fun j hj => by
    have : j = 0 := by simpa using hj
    subst this
    refine (cell_of_row _ _ 0 _ _ _ (heap_alloc_new w _)).trans ?_
    have e : (UInt8.ofNat (48 + n)).toNat = 48 + n := by simp; omega
    simp only [List.getElem_cons_zero, e]
    rfl)
  rw [Lib.decDigits_one h10]
  have h0 : (0 : Int) ≤ n := by omega
  have h9 : (n : Int) < 10 := by omega
  simp only [List.length_cons, List.length_nil] at hc
  generalize ([UInt8.ofNat (48 + n)].toArray) = y at hc ⊢
  clear h10
  generalize (n : Int) = m at hc h0 h9 ⊢
  go_enter Tryz.func82, Tryz.ntmps82
  go_wp2_with fail
  go_ret
  exact ⟨rfl, bnew _ _⟩
theorem dec_bound (n : Nat) : (Lib.decDigits n).length ≤ n + 1 := by
  induction n using Nat.strongRecOn with
  | _ n ih =>
    rw [Lib.decDigits]
    split
    · simp
    · have := ih (n / 10) (by omega)
      simp only [List.length_append, List.length_cons, List.length_nil]
      omega
theorem dec_any (n : Nat) : ∀ (hn : n ≤ 9223372036854775807) (w : World),
    Calls Tryz.prog 82 #[.int .i64 n] w fun e w' => e = .returned (.string ⟨(Lib.decDigits n).toArray⟩) ∧ Below w.heap.size w w' := by
  induction n using Nat.strongRecOn with
  | _ n ih =>
    intro hn w
    by_cases h10 : n < 10
    · exact dec_small n h10 w
    · have h9 : ¬ (n : Int) < 10 := by omega
      have h0 : (0 : Int) ≤ n := by omega
      have hm : (n : Int) ≤ 9223372036854775807 := by omega
      have e1 : ((n / 10 : Nat) : Int) = (n : Int) / 10 := by omega
      have e2 : ((n % 10 : Nat) : Int) = (n : Int) % 10 := by omega
      have e3 : Lib.decDigits n = Lib.decDigits (n / 10) ++ Lib.decDigits (n % 10) := by
        rw [Lib.decDigits, dif_neg h10, Lib.decDigits_one (show n % 10 < 10 by omega)]
      have b1 := dec_bound (n / 10)
      have b2 := dec_bound (n % 10)
      have h1 := fun w => ih (n / 10) (by omega) (by omega) w
      have h2 := fun w => ih (n % 10) (by omega) (by omega) w
      rw [e1] at h1
      rw [e2] at h2
      rw [e3]
      have z1 : (⟨(Lib.decDigits (n / 10)).toArray⟩ : ByteArray).size = (Lib.decDigits (n / 10)).length := by rw [size_data]
      have z2 : (⟨(Lib.decDigits (n % 10)).toArray⟩ : ByteArray).size = (Lib.decDigits (n % 10)).length := by rw [size_data]
      have e4 : (⟨(Lib.decDigits (n / 10)).toArray⟩ : ByteArray) ++ ⟨(Lib.decDigits (n % 10)).toArray⟩ = ⟨(Lib.decDigits (n / 10) ++ Lib.decDigits (n % 10)).toArray⟩ := by
        apply ByteArray.ext
        simp [ByteArray.data_append]
      rw [← e4]
      generalize (⟨(Lib.decDigits (n / 10)).toArray⟩ : ByteArray) = s1 at h1 z1 ⊢
      generalize (⟨(Lib.decDigits (n % 10)).toArray⟩ : ByteArray) = s2 at h2 z2 ⊢
      have hadd := fun W => run_string_add_sum (P := Tryz.prog) W s1 s2 (by omega)
      have hno : ¬ (9223372036854775807 < s1.size + s2.size) := by omega
      generalize s1 ++ s2 = s3 at hadd ⊢
      clear ih b1 b2 z1 z2 e1 e2 e3 e4 hn h10
      have H1 := Lib.hid h1
      have H2 := Lib.hid h2
      clear h1 h2
      generalize (n : Int) = m at h0 h9 hm H1 H2 ⊢
      go_enter Tryz.func82, Tryz.ntmps82
      go_wp2_with (first
        | (go_at_call 82; (with_reducible refine (H1.out _).mono ?_); rintro e w1 ⟨rfl, hb1⟩)
        | (go_at_call 82; (with_reducible refine (H2.out _).mono ?_); rintro e w2 ⟨rfl, hb2⟩))
      go_ret
      exact ⟨rfl, bstep hb1 hb2 hb1.size⟩
end Go.Proofs.YtnmbbnhgoedjgaaGreatDoor.St6
/- castellanref3.Split. -/
namespace Go.Proofs.YtnmbbnhgoedjgaaGreatDoor.St7
open Go Go.RowKit Go.Proofs.YtnmbbnhgoedjgaaGreatDoor.Ad1 Go.Proofs.YtnmbbnhgoedjgaaGreatDoor.St0 Go.Proofs.YtnmbbnhgoedjgaaGreatDoor.St1 Go.Proofs.YtnmbbnhgoedjgaaGreatDoor.St5
set_option linter.unusedVariables false
set_option linter.unusedSimpArgs false
end Go.Proofs.YtnmbbnhgoedjgaaGreatDoor.St7

namespace Go.Proofs.YtnmbbnhgoedjgaaGreatDoor.St8
open Go Go.RowKit Go.Proofs.YtnmbbnhgoedjgaaGreatDoor.Ad0 Go.Proofs.YtnmbbnhgoedjgaaGreatDoor.St0 Go.Proofs.YtnmbbnhgoedjgaaGreatDoor.St2
set_option linter.unusedVariables false
set_option linter.unusedSimpArgs false
/-- A number of so much at most. -/
def okM (most : Nat) (p : List UInt8) : Bool := okNum 3 p && decide (dv p ≤ most)
end Go.Proofs.YtnmbbnhgoedjgaaGreatDoor.St8
/- castellanref3.ParsePrefix. -/
namespace Go.Proofs.YtnmbbnhgoedjgaaGreatDoor.St9
open Go Go.RowKit Go.Proofs.YtnmbbnhgoedjgaaGreatDoor.Ad0 Go.Proofs.YtnmbbnhgoedjgaaGreatDoor.St0 Go.Proofs.YtnmbbnhgoedjgaaGreatDoor.St2 Go.Proofs.YtnmbbnhgoedjgaaGreatDoor.St3 Go.Proofs.YtnmbbnhgoedjgaaGreatDoor.St8
set_option linter.unusedVariables false
set_option linter.unusedSimpArgs false
def prefR (ps : List (List UInt8)) : Option Pfx := match ps with
  | [a] => (parseL a).map fun a => ⟨a, 32⟩
  | [a, b] => if okM 32 b then (parseL a).map fun a => ⟨a, (dv b : Nat)⟩ else none
  | _ => none
theorem no_slash (k : Nat) (r : List UInt8) (h : 47 ∈ r) : okNum k r = false := by
  have hall : r.all isDig = false := by
    rw [Bool.eq_false_iff]
    intro ha
    have := List.all_eq_true.1 ha 47 h
    exact absurd this (by decide)
  unfold okNum
  rw [hall]; simp
theorem pref_parts (l : List UInt8) : prefL l = prefR (parts 47 l) := by
  unfold prefL
  by_cases h : 47 ∈ l
  · obtain ⟨a, r, rfl, hn⟩ := first_at 47 l h
    rw [cut_hit 47 a r hn, parts_append 47 a r hn]
    simp only [if_true]
    by_cases hr : 47 ∈ r
    · rw [no_slash 3 r hr]
      have h2 : (parts 47 r).length = r.count 47 + 1 := parts_len 47 r
      have h3 : 0 < r.count 47 := List.count_pos_iff.2 hr
      match hp : parts 47 r with
      | [] => rw [hp] at h2; simp at h2
      | [x] => rw [hp] at h2; simp at h2; omega
      | x :: y :: t => rfl
    · rw [parts_none 47 r hr]
      rfl
  · rw [cut_none 47 l h, parts_none 47 l h]
    rfl
end Go.Proofs.YtnmbbnhgoedjgaaGreatDoor.St9

namespace Go.Proofs.YtnmbbnhgoedjgaaGreatDoor.StC
open Go Go.RowKit Go.Proofs.YtnmbbnhgoedjgaaGreatDoor.Ad0 Go.Proofs.YtnmbbnhgoedjgaaGreatDoor.Ad3 Go.Proofs.YtnmbbnhgoedjgaaGreatDoor.St0 Go.Proofs.YtnmbbnhgoedjgaaGreatDoor.St2 Go.Proofs.YtnmbbnhgoedjgaaGreatDoor.St3 Go.Proofs.YtnmbbnhgoedjgaaGreatDoor.St4 Go.Proofs.YtnmbbnhgoedjgaaGreatDoor.St8 Go.Proofs.YtnmbbnhgoedjgaaGreatDoor.St9
set_option linter.unusedVariables false
set_option linter.unusedSimpArgs false
def goodDec (n : Nat) : Bool := okNum 3 (Lib.decDigits n) && dv (Lib.decDigits n) == n && !(Lib.decDigits n).contains 46 && !(Lib.decDigits n).contains 47
theorem good_all : ∀ m : Fin 256, goodDec m.val = true := by decide +kernel
theorem good (n : Nat) (h : n < 256) : okNum 3 (Lib.decDigits n) = true ∧ dv (Lib.decDigits n) = n ∧ 46 ∉ Lib.decDigits n ∧ 47 ∉ Lib.decDigits n := by
  have := good_all ⟨n, h⟩
  unfold goodDec at this
  simpa [and_assoc] using this
theorem octF_lt (a j : Nat) : octF a j < 256 := Nat.mod_lt _ (by decide)
theorem printL_eq (a : Nat) : printL a = Lib.decDigits (octF a 0) ++ 46 :: (Lib.decDigits (octF a 1) ++ 46 :: (Lib.decDigits (octF a 2) ++ 46 :: Lib.decDigits (octF a 3))) := by
  unfold printL
  simp [octL, Lib.join, List.intercalate, List.intersperse, octS_list]
theorem print_parts (a : Nat) : parts 46 (printL a) = [Lib.decDigits (octF a 0), Lib.decDigits (octF a 1), Lib.decDigits (octF a 2), Lib.decDigits (octF a 3)] := by
  rw [printL_eq, parts_append _ _ _ (good _ (octF_lt a 0)).2.2.1, parts_append _ _ _ (good _ (octF_lt a 1)).2.2.1, parts_append _ _ _ (good _ (octF_lt a 2)).2.2.1, parts_none _ _ (good _ (octF_lt a 3)).2.2.1]
theorem print_no (a : Nat) : 47 ∉ printL a := by
  have h0 := (good _ (octF_lt a 0)).2.2.2
  have h1 := (good _ (octF_lt a 1)).2.2.2
  have h2 := (good _ (octF_lt a 2)).2.2.2
  have h3 := (good _ (octF_lt a 3)).2.2.2
  rw [printL_eq]
  simp [h0, h1, h2, h3]
theorem oct_sum (a : Nat) (ha : a < 4294967296) : ((octF a 0 * 256 + octF a 1) * 256 + octF a 2) * 256 + octF a 3 = a := by
  unfold octF
  simp
  omega
theorem okP_dec (a j : Nat) : okP (Lib.decDigits (octF a j)) = true := by
  have h := good _ (octF_lt a j)
  have hl := octF_lt a j
  unfold okP
  rw [h.1, h.2.1]
  simp; omega
theorem back_addr (a : Nat) (ha : a < 4294967296) : parseL (printL a) = some a := by
  unfold parseL
  rw [print_parts, num4_ok _ _ _ _ (okP_dec a 0) (okP_dec a 1) (okP_dec a 2) (okP_dec a 3)]
  have e0 := (good _ (octF_lt a 0)).2.1
  have e1 := (good _ (octF_lt a 1)).2.1
  have e2 := (good _ (octF_lt a 2)).2.1
  have e3 := (good _ (octF_lt a 3)).2.1
  have hs := oct_sum a ha
  generalize Lib.decDigits (octF a 0) = l0 at *
  generalize Lib.decDigits (octF a 1) = l1 at *
  generalize Lib.decDigits (octF a 2) = l2 at *
  generalize Lib.decDigits (octF a 3) = l3 at *
  have : accF [l0, l1, l2, l3] 4 = (((0 * 256 + dv l0) * 256 + dv l1) * 256 + dv l2) * 256 + dv l3 := rfl
  rw [this, e0, e1, e2, e3, Nat.zero_mul, Nat.zero_add, hs]
theorem back_pfx (a n : Nat) (ha : a < 4294967296) (hn : n ≤ 32) : prefL (printP ⟨a, n⟩) = some ⟨a, n⟩ := by
  have h := good n (by omega)
  rw [pref_parts]
  unfold printP
  rw [if_pos (by simp; omega)]
  rw [show Lib.itoa ((⟨a, n⟩ : Pfx).len) = Lib.decDigits n from itoa_nat n]
  rw [parts_append _ _ _ (print_no a), parts_none _ _ h.2.2.2]
  have hk : okM 32 (Lib.decDigits n) = true := by
    unfold okM
    rw [h.1, h.2.1]; simpa using hn
  simp only [prefR, hk, if_true, back_addr a ha, Option.map_some, h.2.1]
end Go.Proofs.YtnmbbnhgoedjgaaGreatDoor.StC

namespace Go.Proofs.YtnmbbnhgoedjgaaGreatDoor.StA
open Go Go.RowKit Go.Proofs.YtnmbbnhgoedjgaaGreatDoor.Ad0 Go.Proofs.YtnmbbnhgoedjgaaGreatDoor.Ad1 Go.Proofs.YtnmbbnhgoedjgaaGreatDoor.Ad3 Go.Proofs.YtnmbbnhgoedjgaaGreatDoor.St1 Go.Proofs.YtnmbbnhgoedjgaaGreatDoor.St2 Go.Proofs.YtnmbbnhgoedjgaaGreatDoor.St3 Go.Proofs.YtnmbbnhgoedjgaaGreatDoor.St4 Go.Proofs.YtnmbbnhgoedjgaaGreatDoor.St6
set_option linter.unusedVariables false
set_option linter.unusedSimpArgs false
theorem oct0 (a : Nat) (ha : a < 4294967296) : ((a : Int) / 16777216) = ((octF a 0 : Nat) : Int) := by
  unfold octF
  simp
  omega
theorem oct1 (a : Nat) (ha : a < 4294967296) : wrap64 (bits .and .u32 ((a : Int) / 65536) 255) = ((octF a 1 : Nat) : Int) := by
  have := oct_wrap (a / 65536) (Nat.lt_of_le_of_lt (Nat.div_le_self _ _) ha)
  simpa [octF] using this
theorem oct2 (a : Nat) (ha : a < 4294967296) : wrap64 (bits .and .u32 ((a : Int) / 256) 255) = ((octF a 2 : Nat) : Int) := by
  have := oct_wrap (a / 256) (Nat.lt_of_le_of_lt (Nat.div_le_self _ _) ha)
  simpa [octF] using this
theorem oct3 (a : Nat) (ha : a < 4294967296) : wrap64 (bits .and .u32 (a : Int) 255) = ((octF a 3 : Nat) : Int) := by
  have := oct_wrap a ha
  simpa [octF] using this
theorem dec_oct (a j : Nat) (W : World) : Calls Tryz.prog 82 #[.int .i64 (octF a j : Nat)] W fun e w' => e = .returned (.string (octS a j)) ∧ Below W.heap.size W w' := by
  have : octF a j < 256 := Nat.mod_lt _ (by decide)
  have h := dec_any (octF a j) (by omega) W
  unfold octS
  rw [itoa_nat]
  exact h
theorem octS_size (a j : Nat) : (octS a j).size ≤ 3 := by rw [size_data]; exact octS_len a j
theorem printL_sum (a : Nat) : octS a 0 ++ ⟨#[46]⟩ ++ octS a 1 ++ ⟨#[46]⟩ ++ octS a 2 ++ ⟨#[46]⟩ ++ octS a 3 = ⟨(printL a).toArray⟩ := by
  apply ByteArray.ext
  apply Array.ext'
  simp [printL, octL, Lib.join, List.intercalate, List.intersperse, ByteArray.data_append]
theorem app_size (a b : ByteArray) : (a ++ b).size = a.size + b.size := ByteArray.size_append
set_option maxHeartbeats 2000000 in
theorem rprint_any (a : Nat) (ha : a < 4294967296) (w : World) :
    Calls Tryz.prog 132 #[.int .u32 a] w fun e w' => e = .returned (.string ⟨(printL a).toArray⟩) ∧ Below w.heap.size w w' := by
  have h0 := fun W => dec_oct a 0 W
  have h1 := fun W => dec_oct a 1 W
  have h2 := fun W => dec_oct a 2 W
  have h3 := fun W => dec_oct a 3 W
  rw [← printL_sum]
  have z0 := octS_size a 0
  have z1 := octS_size a 1
  have z2 := octS_size a 2
  have z3 := octS_size a 3
  generalize octS a 0 = s0 at *
  generalize octS a 1 = s1 at *
  generalize octS a 2 = s2 at *
  generalize octS a 3 = s3 at *
  have hd : (⟨#[46]⟩ : ByteArray).size = 1 := rfl
  have ha0 := fun W => run_string_add_sum (P := Tryz.prog) W s0 ⟨#[46]⟩ (by omega)
  have hz0 : (s0 ++ (⟨#[46]⟩ : ByteArray)).size = s0.size + (⟨#[46]⟩ : ByteArray).size := app_size _ _
  have hn0 : ¬ (9223372036854775807 < s0.size + 1) := by omega
  generalize s0 ++ (⟨#[46]⟩ : ByteArray) = t0 at ha0 hz0 ⊢
  have ha1 := fun W => run_string_add_sum (P := Tryz.prog) W t0 s1 (by omega)
  have hz1 : (t0 ++ s1).size = t0.size + s1.size := app_size _ _
  have hn1 : ¬ (9223372036854775807 < t0.size + s1.size) := by omega
  generalize t0 ++ s1 = t1 at ha1 hz1 ⊢
  have ha2 := fun W => run_string_add_sum (P := Tryz.prog) W t1 ⟨#[46]⟩ (by omega)
  have hz2 : (t1 ++ (⟨#[46]⟩ : ByteArray)).size = t1.size + (⟨#[46]⟩ : ByteArray).size := app_size _ _
  have hn2 : ¬ (9223372036854775807 < t1.size + 1) := by omega
  generalize t1 ++ (⟨#[46]⟩ : ByteArray) = t2 at ha2 hz2 ⊢
  have ha3 := fun W => run_string_add_sum (P := Tryz.prog) W t2 s2 (by omega)
  have hz3 : (t2 ++ s2).size = t2.size + s2.size := app_size _ _
  have hn3 : ¬ (9223372036854775807 < t2.size + s2.size) := by omega
  generalize t2 ++ s2 = t3 at ha3 hz3 ⊢
  have ha4 := fun W => run_string_add_sum (P := Tryz.prog) W t3 ⟨#[46]⟩ (by omega)
  have hz4 : (t3 ++ (⟨#[46]⟩ : ByteArray)).size = t3.size + (⟨#[46]⟩ : ByteArray).size := app_size _ _
  have hn4 : ¬ (9223372036854775807 < t3.size + 1) := by omega
  generalize t3 ++ (⟨#[46]⟩ : ByteArray) = t4 at ha4 hz4 ⊢
  have ha5 := fun W => run_string_add_sum (P := Tryz.prog) W t4 s3 (by omega)
  have hz5 : (t4 ++ s3).size = t4.size + s3.size := app_size _ _
  have hn5 : ¬ (9223372036854775807 < t4.size + s3.size) := by omega
  generalize t4 ++ s3 = t5 at ha5 hz5 ⊢
  clear z0 z1 z2 z3 hz0 hz1 hz2 hz3 hz4 hz5 hd
  have H0 := Lib.hid h0
  have H1 := Lib.hid h1
  have H2 := Lib.hid h2
  have H3 := Lib.hid h3
  clear h0 h1 h2 h3
  go_enter Tryz.func132, Tryz.ntmps132
  have X0 := Lib.hid (oct0 a ha)
  have X1 := Lib.hid (oct1 a ha)
  have X2 := Lib.hid (oct2 a ha)
  have X3 := Lib.hid (oct3 a ha)
  go_wp2_with (first
    | (go_at_call 82; rw [X0.out]; (with_reducible refine (H0.out _).mono ?_); rintro e w1 ⟨rfl, hb1⟩; have HB1 := Lib.hid hb1; clear hb1)
    | (go_at_call 82; rw [X1.out]; (with_reducible refine (H1.out _).mono ?_); rintro e w2 ⟨rfl, hb2⟩; have HB2 := Lib.hid (bstep HB1.out hb2 HB1.out.size); clear hb2)
    | (go_at_call 82; rw [X2.out]; (with_reducible refine (H2.out _).mono ?_); rintro e w3 ⟨rfl, hb3⟩; have HB3 := Lib.hid (bstep HB2.out hb3 HB2.out.size); clear hb3)
    | (go_at_call 82; rw [X3.out]; (with_reducible refine (H3.out _).mono ?_); rintro e w4 ⟨rfl, hb4⟩; have HB4 := Lib.hid (bstep HB3.out hb4 HB3.out.size); clear hb4))
  go_ret
  exact ⟨rfl, HB4.out⟩
theorem dec_len_any (n : Int) (h0 : 0 ≤ n) (h1 : n ≤ 9223372036854775807) (w : World) : Calls Tryz.prog 82 #[.int .i64 n] w fun e w' => e = .returned (.string ⟨(Lib.itoa n).toArray⟩) ∧ Below w.heap.size w w' := by
  obtain ⟨k, rfl⟩ := Int.eq_ofNat_of_zero_le h0
  have h := dec_any k (by omega) w
  rw [← itoa_nat] at h
  exact h
set_option maxHeartbeats 2000000 in
theorem rpprint_any (p : Pfx) (hp : p.addr < 4294967296) (w : World) (hl : LibOK w) :
    Calls Tryz.prog 83 #[.agg #[.int .u32 p.addr, .int .i64 p.len]] w fun e w' => e = .returned (.string ⟨(printP p).toArray⟩) ∧ Below w.heap.size w w' := by
  unfold printP
  obtain ⟨D0, D1, D2, D3⟩ : _ ∧ _ ∧ _ ∧ _ := box2 (heap_alloc_new w (.cells #[.int .u32 p.addr, .int .i64 p.len] 43))
  have DB := Lib.hid (bnew w (.cells #[.int .u32 p.addr, .int .i64 p.len] 43))
  have DL := Lib.hid (hl.below (bnew w (.cells #[.int .u32 p.addr, .int .i64 p.len] 43)))
  by_cases hlen : 0 ≤ p.len ∧ p.len ≤ 32
  · rw [if_pos hlen]
    obtain ⟨l0, l1⟩ := hlen
    have hn0 : ¬ p.len < 0 := by omega
    have hn1 : ¬ 32 < p.len := by omega
    have hI := fun W => dec_len_any p.len l0 (by omega) W
    have hil : (Lib.itoa p.len).length ≤ 3 := by
      obtain ⟨n, hn⟩ := Int.eq_ofNat_of_zero_le l0
      rw [hn]
      have e := congrArg List.length (itoa_nat n)
      have := dec_len n (by omega)
      exact (by rw [e]; exact this)
    have hpl := print_len p.addr
    have HI := Lib.hid hI
    have HP := Lib.hid (fun W => rprint_any p.addr hp W)
    clear l0 l1 hI
    have e1 : (⟨(printL p.addr).toArray⟩ : ByteArray) ++ ⟨#[47]⟩ ++ ⟨(Lib.itoa p.len).toArray⟩ = ⟨(printL p.addr ++ 47 :: Lib.itoa p.len).toArray⟩ := by
      apply ByteArray.ext
      simp [ByteArray.data_append]
    rw [← e1]
    have z1 : (⟨(printL p.addr).toArray⟩ : ByteArray).size = (printL p.addr).length := by rw [size_data]
    have z2 : (⟨(Lib.itoa p.len).toArray⟩ : ByteArray).size = (Lib.itoa p.len).length := by rw [size_data]
    generalize (⟨(printL p.addr).toArray⟩ : ByteArray) = s1 at HP z1 ⊢
    generalize (⟨(Lib.itoa p.len).toArray⟩ : ByteArray) = s3 at HI z2 ⊢
    have hadd1 := fun W => run_string_add_sum (P := Tryz.prog) W s1 ⟨#[47]⟩ (by show s1.size + 1 ≤ _; omega)
    have z3 : (s1 ++ ⟨#[47]⟩).size = s1.size + 1 := by rw [ByteArray.size_append]; rfl
    generalize (s1 ++ ⟨#[47]⟩) = s2 at hadd1 z3 ⊢
    have hadd2 := fun W => run_string_add_sum (P := Tryz.prog) W s2 s3 (by omega)
    generalize (s2 ++ s3) = s4 at hadd2 ⊢
    have hno1 : ¬ (9223372036854775807 < s1.size + 1) := by omega
    have hno2 : ¬ (9223372036854775807 < s2.size + s3.size) := by omega
    clear z1 z2 z3 e1 hil hpl
    go_enter Tryz.func83, Tryz.ntmps83
    go_wp2_with fail
    have hz : w.heap.size < w.heap.size + 1 := by omega
    go_region_held3 (fun w' => w'.cell? ⟨w.heap.size, 0, none⟩ = some (.int .u32 p.addr) ∧ w'.cell? ⟨w.heap.size, 1, none⟩ = some (.int .i64 p.len) ∧ w.heap.size ≤ w'.heap.size ∧ Below w.heap.size w w' ∧ LibOK w')
      (first | exact begin1 D0 D1 DB.out.size DB.out DL.out | exact keep1 (by assumption) (by assumption))
      (first
        | (go_at_call 132; (with_reducible refine (HP.out _).mono ?_); rintro e v1 ⟨rfl, hb1⟩)
        | (go_at_call 82; (with_reducible refine (HI.out _).mono ?_); rintro e v1 ⟨rfl, hb1⟩))
    go_wp2
    go_ret
    exact ⟨rfl, below5 (by assumption)⟩
  · rw [if_neg hlen]
    have hn : p.len < 0 ∨ 32 < p.len := by omega
    rcases hn with hn | hn
    · go_enter Tryz.func83, Tryz.ntmps83
      go_wp2_with fail
      go_ret
      exact ⟨rfl, DB.out⟩
    · have hn0 : ¬ p.len < 0 := by omega
      go_enter Tryz.func83, Tryz.ntmps83
      go_wp2_with fail
      go_ret
      exact ⟨rfl, DB.out⟩
end Go.Proofs.YtnmbbnhgoedjgaaGreatDoor.StA

