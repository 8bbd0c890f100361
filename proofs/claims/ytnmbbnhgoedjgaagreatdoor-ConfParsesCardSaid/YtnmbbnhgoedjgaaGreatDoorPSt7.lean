/- addr.ParsePrefix and addr.PrintPrefix. addr.PrintPrefix, strconv.Itoa and addr.Print where the library's table is given. castellanref3.Num, Dec and Split. -/
import Derived.Test.YtnmbbnhgoedjgaaGreatDoorPSt2
import Derived.Test.YtnmbbnhgoedjgaaGreatDoorPAd3
import Derived.Test.YtnmbbnhgoedjgaaGreatDoorPSt1
import Derived.Deep.AppendLies
import Derived.OwnWalk
import Derived.LoopTactic
import Derived.Lib.SmallJoins
namespace Go.Proofs.YtnmbbnhgoedjgaaGreatDoor.St3
open Go Go.RowKit Go.Proofs.YtnmbbnhgoedjgaaGreatDoor.Ad0 Go.Proofs.YtnmbbnhgoedjgaaGreatDoor.Ad1 Go.Proofs.YtnmbbnhgoedjgaaGreatDoor.St0 Go.Proofs.YtnmbbnhgoedjgaaGreatDoor.St1 Go.Proofs.YtnmbbnhgoedjgaaGreatDoor.St2
set_option linter.unusedVariables false
set_option linter.unusedSimpArgs false
def prefL (l : List UInt8) : Option Pfx :=
  if (Lib.cut l [47]).2.2 = true then (if okNum 3 (Lib.cut l [47]).2.1 && decide (dv (Lib.cut l [47]).2.1 ≤ 32) then (parseL (Lib.cut l [47]).1).map fun a => ⟨a, (dv (Lib.cut l [47]).2.1 : Nat)⟩ else none)
  else (parseL (Lib.cut l [47]).1).map fun a => ⟨a, 32⟩
def prefV (r : Option Pfx) : Value := match r with
  | some p => .tuple #[.agg #[.int .u32 p.addr, .int .i64 p.len], .int .i64 0]
  | none => .tuple #[.agg #[.int .u32 0, .int .i64 0], .int .i64 2]
theorem box2 {w : World} {g : Nat} {x y : Value} {T : TypeId} (h : w.heap[g]? = some (.cells #[x, y] T (0, 0))) :
    w.cell? ⟨g, 0, none⟩ = some x ∧ w.cell? ⟨g, 1, none⟩ = some y ∧ w.frozen? ⟨g, 0, none⟩ = false ∧ w.frozen? ⟨g, 1, none⟩ = false :=
  ⟨(cell_of_row _ _ 0 _ _ _ h).trans rfl, (cell_of_row _ _ 1 _ _ _ h).trans rfl, frozen_of_row _ _ 0 _ _ h, frozen_of_row _ _ 1 _ _ h⟩
theorem set_at {w : World} {g k : Nat} {c : Array Value} {T : TypeId} {fr : Nat × Nat} {v : Value} (h : w.heap[g]? = some (.cells c T fr)) : (w.setCell ⟨g, k, none⟩ v).heap[g]? = some (.cells (c.setIfInBounds k v) T fr) := by
  unfold World.setCell
  simp only [Array.getElem?_modify, h]
  simp
theorem set_b {B g k : Nat} {w0 w : World} {v : Value} (hb : Below B w0 w) (hg : B ≤ g) : Below B w0 (w.setCell ⟨g, k, none⟩ v) :=
  ⟨hb.os, hb.tape, hb.output, by unfold World.setCell; simpa using hb.size, fun i hi => by
    unfold World.setCell
    simp only [Array.getElem?_modify]
    rw [if_neg (by omega)]
    exact hb.block i hi⟩
/-- A result out of a box, and one beside it. -/
theorem box_ret {P : Program} {fn : Func} {R : Ending → World → Prop} {a : Act} {w : World} {t u : Tmp} {T : TypeId} {v : Value} {g : Nat} {c : Array Value} {fr : Nat × Nat} {fs : Array Field}
    (hc : w.heap[g]? = some (.cells c T fr)) (h : fn.results = #[.cell t T, .tmp u]) 
    (ht : a.tmps.getD t undef = .pointer (some ⟨g, 0, none⟩)) (hv : a.tmps.getD u undef = v) (hu : P.underlying T = some (.struct fs)) (hi : (P.info? T).map (·.size) = some c.size)
    (hd : a.defers = []) (hR : R (.returned (.tuple #[.agg c, v])) w) : bodyPost P fn R .ret a w := by
  refine bodyPost_ret ?_ hd hR
  have hl := run_loadVar_row (P := P) _ _ T T c fr _ hc hu rfl hi
  unfold results
  rw [h]
  have e1 : (asAddr (a.tmps.getD t undef)).run P w = .ok ⟨g, 0, none⟩ w := by rw [ht]; rfl
  simp only [List.mapM_toArray, List.mapM_cons, List.mapM_nil, Array.mapM_eq_mapM_toList, Sem.run_bind, Sem.run_pure, Result.andThen, e1, hl, hv, bind_assoc, pure_bind]
  have e2 : (asAddr (a.tmps[t]?.getD undef)).run P w = .ok ⟨g, 0, none⟩ w := by simpa using e1
  simp [Sem.run_bind, Sem.run_pure, Result.andThen, e2, hl, hv]
theorem row_step {W w1 : World} {g : Nat} {o : Obj} (h : Hid (W.heap[g]? = some o)) (hb : Below W.heap.size W w1) : Hid (w1.heap[g]? = some o) := (hb.block g (blk_lt' h)).trans h
/-- What number answers at 32, in its two ways. -/
theorem number_Q (l : List UInt8) (hb : l.length ≤ 9223372036854775807) (W : World) : Calls Tryz.prog 146 #[.string ⟨l.toArray⟩, .int .i64 32] W fun e w' => ((okNum 3 l && decide (dv l ≤ 32)) = true → e = .returned (.tuple #[.int .i64 (dv l : Nat), .bool true])) ∧
    ((okNum 3 l && decide (dv l ≤ 32)) = false → ∃ n : Int, e = .returned (.tuple #[.int .i64 n, .bool false])) ∧ Below W.heap.size W w' := by
  have hl : (⟨l.toArray⟩ : ByteArray).data.toList = l := rfl
  have hz : (⟨l.toArray⟩ : ByteArray).size ≤ 9223372036854775807 := by rw [size_data]; exact hb
  by_cases h : okNum 3 l = true
  · refine (number_ok ⟨l.toArray⟩ 32 (by decide) W h).mono ?_
    rintro e w' ⟨rfl, hb⟩
    rw [h]
    simp only [Bool.true_and]
    refine ⟨fun ho => ?_, fun ho => ⟨(dv l : Nat), ?_⟩, hb⟩
    · rw [ho]
    · rw [ho]
  · simp only [Bool.not_eq_true] at h
    refine (number_bad ⟨l.toArray⟩ hz 32 W h).mono ?_
    rintro e w' ⟨rfl, hb⟩
    rw [h]
    exact ⟨fun ho => (by cases ho), fun _ => ⟨0, rfl⟩, hb⟩
set_option maxHeartbeats 2000000 in
theorem pref_any (s : ByteArray) (hs : s.size < 4294967281) (w : World) (hl : LibOK w) :
    Calls Tryz.prog 103 #[.string s] w fun e w' => e = .returned (prefV (prefL s.data.toList)) ∧ Below w.heap.size w w' := by
  obtain ⟨m, hm⟩ := hl.maxLen
  have h0 : (w.alloc (.cells #[.int .u32 0, .int .i64 0] 43)).cell? ⟨0, 0, none⟩ = some (.int .i64 m) := ((bnew w _).cell (World.block_lt_of_cell? w _ hm)).trans hm
  have hcut := Tryz.strings_Cut s ⟨#[47]⟩ m _ hs h0
  have HL0 := Lib.hid (hl.below (bnew w (.cells #[.int .u32 0, .int .i64 0] 43)))
  unfold prefL
  have hlen : (Lib.cut s.data.toList [47]).1.length ≤ s.size ∧ (Lib.cut s.data.toList [47]).2.1.length ≤ s.size := by
    rw [size_data]
    unfold Lib.cut
    split <;> simp <;> omega
  change Calls _ _ _ _ (fun e w' => e = .returned (.tuple #[.string ⟨(Lib.cut s.data.toList [47]).1.toArray⟩, .string ⟨(Lib.cut s.data.toList [47]).2.1.toArray⟩, .bool (Lib.cut s.data.toList [47]).2.2]) ∧ _) at hcut
  generalize Lib.cut s.data.toList [47] = c at hcut hlen ⊢
  obtain ⟨f, b, ok⟩ := c
  dsimp only at hcut hlen ⊢
  have hf : (⟨f.toArray⟩ : ByteArray).size < 4294967281 := by rw [size_data]; show f.length < _; omega
  have hbl : b.length ≤ 9223372036854775807 := by omega
  have HB0 := Lib.hid (bnew w (.cells #[.int .u32 0, .int .i64 0] 43))
  have HR0 := Lib.hid (heap_alloc_new w (.cells #[.int .u32 0, .int .i64 0] 43))
  have HCUT := Lib.hid hcut
  have HN := Lib.hid (fun W => number_Q b hbl W)
  have HP := Lib.hid (fun W hL => parse_any ⟨f.toArray⟩ hf W hL)
  have hpl : (⟨f.toArray⟩ : ByteArray).data.toList = f := rfl
  rw [hpl] at HP
  clear hcut hm h0 hlen hbl hf hl hpl
  generalize parseL f = r at HP ⊢
  have HPN : r = none → Hid (∀ W, LibOK W → Calls Tryz.prog 147 #[.string ⟨f.toArray⟩] W fun e w' => e = .returned (.tuple #[.int .u32 0, .int .i64 2]) ∧ Below W.heap.size W w') := fun e => by subst e; exact HP
  have HPS : ∀ a : Nat, r = some a → Hid (∀ W, LibOK W → Calls Tryz.prog 147 #[.string ⟨f.toArray⟩] W fun e w' => e = .returned (.tuple #[.int .u32 (a : Nat), .int .i64 0]) ∧ Below W.heap.size W w') := fun a e => by subst e; exact HP
  clear HP
  cases ok
  · simp only [Bool.false_eq_true, if_false]
    cases r with
    | none =>
      have HP := HPN rfl
      clear HPN HPS HN
      have key : Calls Tryz.prog 103 #[.string s] w fun e w' => e = .returned (.tuple #[.agg #[.int .u32 0, .int .i64 0], .int .i64 2]) ∧ Below w.heap.size w w' := by
        skip
        go_enter Tryz.func103, Tryz.ntmps103
        go_wp2_with (first
          | (go_at_call 145; refine HCUT.out.mono ?_; rintro e w1 ⟨rfl, n1, rfl⟩; have HB1 := Lib.hid (bdrewN HB0.out n1); have HL1 := Lib.hid (HL0.out.below (bdrewN (Below.refl _ _) n1)); have HR1 : Hid ((((w.alloc (.cells #[.int .u32 0, .int .i64 0] 43)).drewN n1).heap[w.heap.size]? = _)) := HR0)
          | fail
          | (go_at_call 147; refine (HP.out _ HL1.out).mono ?_; rintro e w2 ⟨rfl, hb2⟩; have HB2 := Lib.hid (bstep HB1.out hb2 HB1.out.size); have HR2 := row_step HR1 hb2; clear hb2; obtain ⟨d0, d1, d2, d3⟩ := box2 HR2.out))
        have hr := set_at (k := 1) (v := .int .i64 0) (set_at (k := 0) (v := .int .u32 0) HR2.out)
        exact box_ret hr rfl rfl rfl Tryz.underlying43 (by kernel_rfl) rfl ⟨rfl, set_b (set_b HB2.out (Nat.le_refl _)) (Nat.le_refl _)⟩
      exact key
    | some a =>
      have HP := HPS a rfl
      clear HPN HPS HN
      have key : Calls Tryz.prog 103 #[.string s] w fun e w' => e = .returned (.tuple #[.agg #[.int .u32 (a : Nat), .int .i64 32], .int .i64 0]) ∧ Below w.heap.size w w' := by
        skip
        go_enter Tryz.func103, Tryz.ntmps103
        go_wp2_with (first
          | (go_at_call 145; refine HCUT.out.mono ?_; rintro e w1 ⟨rfl, n1, rfl⟩; have HB1 := Lib.hid (bdrewN HB0.out n1); have HL1 := Lib.hid (HL0.out.below (bdrewN (Below.refl _ _) n1)); have HR1 : Hid ((((w.alloc (.cells #[.int .u32 0, .int .i64 0] 43)).drewN n1).heap[w.heap.size]? = _)) := HR0)
          | fail
          | (go_at_call 147; refine (HP.out _ HL1.out).mono ?_; rintro e w2 ⟨rfl, hb2⟩; have HB2 := Lib.hid (bstep HB1.out hb2 HB1.out.size); have HR2 := row_step HR1 hb2; clear hb2; obtain ⟨d0, d1, d2, d3⟩ := box2 HR2.out))
        have hr := set_at (k := 1) (v := .int .i64 32) (set_at (k := 0) (v := .int .u32 (a : Nat)) HR2.out)
        exact box_ret hr rfl rfl rfl Tryz.underlying43 (by kernel_rfl) rfl ⟨rfl, set_b (set_b HB2.out (Nat.le_refl _)) (Nat.le_refl _)⟩
      exact key
  · simp only [if_true]
    by_cases hk : (okNum 3 b && decide (dv b ≤ 32)) = true
    · have HNG : Hid (∀ W, Calls Tryz.prog 146 #[.string ⟨b.toArray⟩, .int .i64 32] W fun e w' => e = .returned (.tuple #[.int .i64 (dv b : Nat), .bool true]) ∧ Below W.heap.size W w') := fun W => (HN.out W).mono fun e w' hh => ⟨hh.1 hk, hh.2.2⟩
      rw [if_pos hk]
      clear hk HN
      cases r with
      | none =>
       have HP := HPN rfl
       clear HPN HPS
       have key : Calls Tryz.prog 103 #[.string s] w fun e w' => e = .returned (.tuple #[.agg #[.int .u32 0, .int .i64 0], .int .i64 2]) ∧ Below w.heap.size w w' := by
         skip
         go_enter Tryz.func103, Tryz.ntmps103
         go_wp2_with (first
           | (go_at_call 145; refine HCUT.out.mono ?_; rintro e w1 ⟨rfl, n1, rfl⟩; have HB1 := Lib.hid (bdrewN HB0.out n1); have HL1 := Lib.hid (HL0.out.below (bdrewN (Below.refl _ _) n1)); have HR1 : Hid ((((w.alloc (.cells #[.int .u32 0, .int .i64 0] 43)).drewN n1).heap[w.heap.size]? = _)) := HR0)
           | (go_at_call 146; refine (HNG.out _).mono ?_; rintro e w3 ⟨rfl, hb3⟩; have HB1 := Lib.hid (bstep HB1.out hb3 HB1.out.size); have HR1 := row_step HR1 hb3; have HL1 := Lib.hid (HL1.out.below hb3); clear hb3)
           | (go_at_call 147; refine (HP.out _ HL1.out).mono ?_; rintro e w2 ⟨rfl, hb2⟩; have HB2 := Lib.hid (bstep HB1.out hb2 HB1.out.size); have HR2 := row_step HR1 hb2; clear hb2; obtain ⟨d0, d1, d2, d3⟩ := box2 HR2.out))
         have hr := set_at (k := 1) (v := .int .i64 0) (set_at (k := 0) (v := .int .u32 0) HR2.out)
         exact box_ret hr rfl rfl rfl Tryz.underlying43 (by kernel_rfl) rfl ⟨rfl, set_b (set_b HB2.out (Nat.le_refl _)) (Nat.le_refl _)⟩
       exact key
      | some a =>
       have HP := HPS a rfl
       clear HPN HPS
       have key : Calls Tryz.prog 103 #[.string s] w fun e w' => e = .returned (.tuple #[.agg #[.int .u32 (a : Nat), .int .i64 (dv b : Nat)], .int .i64 0]) ∧ Below w.heap.size w w' := by
         skip
         go_enter Tryz.func103, Tryz.ntmps103
         go_wp2_with (first
           | (go_at_call 145; refine HCUT.out.mono ?_; rintro e w1 ⟨rfl, n1, rfl⟩; have HB1 := Lib.hid (bdrewN HB0.out n1); have HL1 := Lib.hid (HL0.out.below (bdrewN (Below.refl _ _) n1)); have HR1 : Hid ((((w.alloc (.cells #[.int .u32 0, .int .i64 0] 43)).drewN n1).heap[w.heap.size]? = _)) := HR0)
           | (go_at_call 146; refine (HNG.out _).mono ?_; rintro e w3 ⟨rfl, hb3⟩; have HB1 := Lib.hid (bstep HB1.out hb3 HB1.out.size); have HR1 := row_step HR1 hb3; have HL1 := Lib.hid (HL1.out.below hb3); clear hb3)
           | (go_at_call 147; refine (HP.out _ HL1.out).mono ?_; rintro e w2 ⟨rfl, hb2⟩; have HB2 := Lib.hid (bstep HB1.out hb2 HB1.out.size); have HR2 := row_step HR1 hb2; clear hb2; obtain ⟨d0, d1, d2, d3⟩ := box2 HR2.out))
         have hr := set_at (k := 1) (v := .int .i64 (dv b : Nat)) (set_at (k := 0) (v := .int .u32 (a : Nat)) HR2.out)
         exact box_ret hr rfl rfl rfl Tryz.underlying43 (by kernel_rfl) rfl ⟨rfl, set_b (set_b HB2.out (Nat.le_refl _)) (Nat.le_refl _)⟩
       exact key
    · rw [if_neg hk]
      simp only [Bool.not_eq_true] at hk
      have HNB : Hid (∀ W, Calls Tryz.prog 146 #[.string ⟨b.toArray⟩, .int .i64 32] W fun e w' => (∃ n : Int, e = .returned (.tuple #[.int .i64 n, .bool false])) ∧ Below W.heap.size W w') := fun W => (HN.out W).mono fun e w' hh => ⟨hh.2.1 hk, hh.2.2⟩
      clear HPN HPS HN hk
      have key : Calls Tryz.prog 103 #[.string s] w fun e w' => e = .returned (.tuple #[.agg #[.int .u32 0, .int .i64 0], .int .i64 2]) ∧ Below w.heap.size w w' := by
        skip
        go_enter Tryz.func103, Tryz.ntmps103
        go_wp2_with (first
          | (go_at_call 145; refine HCUT.out.mono ?_; rintro e w1 ⟨rfl, n1, rfl⟩; have HB1 := Lib.hid (bdrewN HB0.out n1); have HL1 := Lib.hid (HL0.out.below (bdrewN (Below.refl _ _) n1)); have HR1 : Hid ((((w.alloc (.cells #[.int .u32 0, .int .i64 0] 43)).drewN n1).heap[w.heap.size]? = _)) := HR0)
          | (go_at_call 146; refine (HNB.out _).mono ?_; rintro e w3 ⟨⟨n, rfl⟩, hb3⟩; have HB2 := Lib.hid (bstep HB1.out hb3 HB1.out.size); have HR2 := row_step HR1 hb3; clear hb3; obtain ⟨d0, d1, d2, d3⟩ := box2 HR2.out)
          | fail)
        have hr := set_at (k := 1) (v := .int .i64 0) (set_at (k := 0) (v := .int .u32 0) HR2.out)
        exact box_ret hr rfl rfl rfl Tryz.underlying43 (by kernel_rfl) rfl ⟨rfl, set_b (set_b HB2.out (Nat.le_refl _)) (Nat.le_refl _)⟩
      exact key
end Go.Proofs.YtnmbbnhgoedjgaaGreatDoor.St3

namespace Go.Proofs.YtnmbbnhgoedjgaaGreatDoor.St4
open Go Go.RowKit Go.Proofs.YtnmbbnhgoedjgaaGreatDoor.Ad0 Go.Proofs.YtnmbbnhgoedjgaaGreatDoor.Ad1 Go.Proofs.YtnmbbnhgoedjgaaGreatDoor.Ad3 Go.Proofs.YtnmbbnhgoedjgaaGreatDoor.St1 Go.Proofs.YtnmbbnhgoedjgaaGreatDoor.St2 Go.Proofs.YtnmbbnhgoedjgaaGreatDoor.St3
set_option linter.unusedVariables false
set_option linter.unusedSimpArgs false
theorem below_grow {B : Nat} (w : World) (k : Nat) (os : Array Obj) (hB : B ≤ w.heap.size) : Below B w (Sort.grow (w.drewN k) os) := by
  refine ⟨rfl, rfl, rfl, by simp [Sort.grow, World.drewN], fun i hi => ?_⟩
  simp only [Sort.grow, World.drewN]
  rw [Array.getElem?_append_left (by omega)]
theorem itoa_any (n : Int) (h0 : -9223372036854775808 ≤ n) (h1 : n ≤ 9223372036854775807) (w : World) (hl : LibOK w) :
    Calls Tryz.prog 75 #[.int .i64 n] w fun e w' => e = .returned (.string ⟨(Lib.itoa n).toArray⟩) ∧ Below w.heap.size w w' := by
  refine (Tryz.strconv_Itoa n h0 h1 w hl.pow10).mono ?_
  rintro e w' ⟨rfl, k, os, rfl⟩
  exact ⟨rfl, below_grow w k os (Nat.le_refl _)⟩
def printL (a : Nat) : List UInt8 := Lib.join ((octL a).map (·.data.toList)) [46]
theorem print_lib (a : Nat) (ha : a < 4294967296) (w : World) (hl : LibOK w) :
    Calls Tryz.prog 127 #[.int .u32 a] w fun e w' => e = .returned (.string ⟨(printL a).toArray⟩) ∧ Below w.heap.size w w' := by
  refine print_any a ha w fun j hj W hb => ?_
  exact itoa_any _ (by omega) (by have : octF a j < 256 := Nat.mod_lt _ (by decide); omega) W (hl.below hb)
/-- addr.PrintPrefix. -/
def printP (p : Pfx) : List UInt8 := if 0 ≤ p.len ∧ p.len ≤ 32 then printL p.addr ++ 47 :: Lib.itoa p.len else []
theorem keep1 {B : Nat} {w : World} {g : Nat} {c0 c1 : Value} {W w1 : World} (hb : Below W.heap.size W w1)
    (h : W.cell? ⟨g, 0, none⟩ = some c0 ∧ W.cell? ⟨g, 1, none⟩ = some c1 ∧ B ≤ W.heap.size ∧ Below B w W ∧ LibOK W) :
    w1.cell? ⟨g, 0, none⟩ = some c0 ∧ w1.cell? ⟨g, 1, none⟩ = some c1 ∧ B ≤ w1.heap.size ∧ Below B w w1 ∧ LibOK w1 :=
  ⟨(hb.cell (World.block_lt_of_cell? W _ h.1)).trans h.1, (hb.cell (World.block_lt_of_cell? W _ h.2.1)).trans h.2.1, Nat.le_trans h.2.2.1 hb.size, bstep h.2.2.2.1 hb h.2.2.1, h.2.2.2.2.below hb⟩
theorem begin1 {B : Nat} {w : World} {g : Nat} {c0 c1 : Value} {W : World} (h0 : W.cell? ⟨g, 0, none⟩ = some c0) (h1 : W.cell? ⟨g, 1, none⟩ = some c1) (hs : B ≤ W.heap.size) (hb : Below B w W) (hl : LibOK W) :
    W.drew.cell? ⟨g, 0, none⟩ = some c0 ∧ W.drew.cell? ⟨g, 1, none⟩ = some c1 ∧ B ≤ W.drew.heap.size ∧ Below B w W.drew ∧ LibOK W.drew :=
  ⟨h0, h1, hs, hb.drew, hl.below (Below.refl _ _).drew⟩
theorem lib5 {B : Nat} {w : World} {g : Nat} {c0 c1 : Value} {W : World} (h : W.cell? ⟨g, 0, none⟩ = some c0 ∧ W.cell? ⟨g, 1, none⟩ = some c1 ∧ B ≤ W.heap.size ∧ Below B w W ∧ LibOK W) : LibOK W := h.2.2.2.2
theorem below5 {B : Nat} {w : World} {g : Nat} {c0 c1 : Value} {W : World} (h : W.cell? ⟨g, 0, none⟩ = some c0 ∧ W.cell? ⟨g, 1, none⟩ = some c1 ∧ B ≤ W.heap.size ∧ Below B w W ∧ LibOK W) : Below B w W := h.2.2.2.1
theorem print_len (a : Nat) : (printL a).length ≤ 15 := join_len a
set_option maxHeartbeats 2000000 in
theorem pprint_any (p : Pfx) (hp : p.addr < 4294967296) (w : World) (hl : LibOK w) :
    Calls Tryz.prog 76 #[.agg #[.int .u32 p.addr, .int .i64 p.len]] w fun e w' => e = .returned (.string ⟨(printP p).toArray⟩) ∧ Below w.heap.size w w' := by
  unfold printP
  obtain ⟨D0, D1, D2, D3⟩ : _ ∧ _ ∧ _ ∧ _ := box2 (heap_alloc_new w (.cells #[.int .u32 p.addr, .int .i64 p.len] 43))
  have DB := Lib.hid (bnew w (.cells #[.int .u32 p.addr, .int .i64 p.len] 43))
  have DL := Lib.hid (hl.below (bnew w (.cells #[.int .u32 p.addr, .int .i64 p.len] 43)))
  by_cases hlen : 0 ≤ p.len ∧ p.len ≤ 32
  · rw [if_pos hlen]
    obtain ⟨l0, l1⟩ := hlen
    have hn0 : ¬ p.len < 0 := by omega
    have hn1 : ¬ 32 < p.len := by omega
    have hI := fun W hL => itoa_any p.len (by omega) (by omega) W hL
    have hil : (Lib.itoa p.len).length ≤ 3 := by
      obtain ⟨n, hn⟩ := Int.eq_ofNat_of_zero_le l0
      rw [hn]
      have e := congrArg List.length (itoa_nat n)
      have := dec_len n (by omega)
      exact (by rw [e]; exact this)
    have hpl := print_len p.addr
    have HI := Lib.hid hI
    have HP := Lib.hid (fun W hL => print_lib p.addr hp W hL)
    clear l0 l1 hI
    have e1 : (⟨(printL p.addr).toArray⟩ : ByteArray) ++ ⟨#[47]⟩ ++ ⟨(Lib.itoa p.len).toArray⟩ = ⟨(printL p.addr ++ 47 :: Lib.itoa p.len).toArray⟩ := by
      apply ByteArray.ext
      simp [ByteArray.data_append]
    rw [← e1]
    have z1 : (⟨(printL p.addr).toArray⟩ : ByteArray).size = (printL p.addr).length := by rw [size_data]
    have z2 : (⟨(Lib.itoa p.len).toArray⟩ : ByteArray).size = (Lib.itoa p.len).length := by rw [size_data]
    generalize (⟨(printL p.addr).toArray⟩ : ByteArray) = s1 at HP z1 ⊢
    generalize (⟨(Lib.itoa p.len).toArray⟩ : ByteArray) = s3 at HI z2 ⊢
    have hadd1 := fun W => run_string_add_sum (P := Tryz.prog) W s1 ⟨#[47]⟩ (by show s1.size + 1 ≤ _; omega)
    have z3 : (s1 ++ ⟨#[47]⟩).size = s1.size + 1 := by rw [ByteArray.size_append]; rfl
    generalize (s1 ++ ⟨#[47]⟩) = s2 at hadd1 z3 ⊢
    have hadd2 := fun W => run_string_add_sum (P := Tryz.prog) W s2 s3 (by omega)
    generalize (s2 ++ s3) = s4 at hadd2 ⊢
    have hno1 : ¬ (9223372036854775807 < s1.size + 1) := by omega
    have hno2 : ¬ (9223372036854775807 < s2.size + s3.size) := by omega
    clear z1 z2 z3 e1 hil hpl
    go_enter Tryz.func76, Tryz.ntmps76
    go_wp2_with fail
    have hz : w.heap.size < w.heap.size + 1 := by omega
    go_region_held3 (fun w' => w'.cell? ⟨w.heap.size, 0, none⟩ = some (.int .u32 p.addr) ∧ w'.cell? ⟨w.heap.size, 1, none⟩ = some (.int .i64 p.len) ∧ w.heap.size ≤ w'.heap.size ∧ Below w.heap.size w w' ∧ LibOK w')
      (first | exact begin1 D0 D1 DB.out.size DB.out DL.out | exact keep1 (by assumption) (by assumption))
      (first
        | (go_at_call 127; (with_reducible refine (HP.out _ (lib5 (by assumption))).mono ?_); rintro e v1 ⟨rfl, hb1⟩)
        | (go_at_call 75; (with_reducible refine (HI.out _ (lib5 (by assumption))).mono ?_); rintro e v1 ⟨rfl, hb1⟩))
    go_wp2
    go_ret
    exact ⟨rfl, below5 (by assumption)⟩
  · rw [if_neg hlen]
    have hn : p.len < 0 ∨ 32 < p.len := by omega
    rcases hn with hn | hn
    · go_enter Tryz.func76, Tryz.ntmps76
      go_wp2_with fail
      go_ret
      exact ⟨rfl, DB.out⟩
    · have hn0 : ¬ p.len < 0 := by omega
      go_enter Tryz.func76, Tryz.ntmps76
      go_wp2_with fail
      go_ret
      exact ⟨rfl, DB.out⟩
end Go.Proofs.YtnmbbnhgoedjgaaGreatDoor.St4

namespace Go.Proofs.YtnmbbnhgoedjgaaGreatDoor.St5
open Go Go.RowKit Go.Proofs.YtnmbbnhgoedjgaaGreatDoor.Ad1 Go.Proofs.YtnmbbnhgoedjgaaGreatDoor.St0 Go.Proofs.YtnmbbnhgoedjgaaGreatDoor.St1
set_option linter.unusedVariables false
set_option linter.unusedSimpArgs false
/-- (it, whether it is at most so much), or (0, false). -/
def numV (l : List UInt8) (most : Int) : Value := if okNum 9 l then .tuple #[.int .i64 (dv l : Nat), .bool (decide ((dv l : Int) ≤ most))] else .tuple #[.int .i64 0, .bool false]
theorem at_list (s : ByteArray) (j : Nat) (hj : j < s.size) : s.data.toList[j]? = some s[j] := by
  rw [Array.getElem?_toList]
  exact Array.getElem?_eq_getElem hj
theorem take_step (s : ByteArray) (j : Nat) (hj : j < s.size) : s.data.toList.take (j + 1) = s.data.toList.take j ++ [s[j]] := by
  have h := at_list s j hj
  have hl : j < s.data.toList.length := by rw [← size_data]; exact hj
  rw [List.take_succ_eq_append_getElem hl]
  congr 2
theorem dvF_snoc (l : List UInt8) (b : UInt8) : ∀ n, dvF n (l ++ [b]) = 10 * dvF n l + (b.toNat - 48) := by
  induction l with
  | nil => intro n; rfl
  | cons x l ih => intro n; exact ih _
theorem dv_step (s : ByteArray) (j : Nat) (hj : j < s.size) : dv (s.data.toList.take (j + 1)) = 10 * dv (s.data.toList.take j) + (s[j].toNat - 48) := by
  rw [take_step s j hj]
  exact dvF_snoc _ _ _
theorem dig_step (s : ByteArray) (j : Nat) (hj : j < s.size) (h : (s.data.toList.take j).all isDig = true) (hb : isDig s[j] = true) : (s.data.toList.take (j + 1)).all isDig = true := by
  rw [take_step s j hj]
  simp only [List.all_append, h, Bool.true_and, List.all_cons, List.all_nil, Bool.and_true]
  exact hb
theorem dig_bad (s : ByteArray) (j : Nat) (hj : j < s.size) (hb : isDig s[j] = false) : okNum 9 s.data.toList = false := by
  have hall : s.data.toList.all isDig = false := by
    rw [Bool.eq_false_iff]
    intro h
    have := List.all_eq_true.1 h s[j] (List.mem_of_getElem? (at_list s j hj))
    rw [hb] at this; cases this
  unfold okNum
  rw [hall]; simp
theorem dv_take_lt (l : List UInt8) (j : Nat) (hj : j ≤ 9) (h : (l.take j).all isDig = true) : dv (l.take j) < 1000000000 := by
  have h1 := dvF_lt (l.take j) 0 h
  have h2 : 10 ^ (l.take j).length ≤ 10 ^ 9 := Nat.pow_le_pow_right (by decide) (by simp; omega)
  unfold dv
  omega
set_option maxHeartbeats 1000000 in
theorem num_any (s : ByteArray) (hs : s.size ≤ 9223372036854775807) (most : Int) (w : World) :
    Calls Tryz.prog 65 #[.string s, .int .i64 most] w fun e w' => e = .returned (numV s.data.toList most) ∧ w' = w := by
  by_cases h0 : s.size < 1
  · have hb : okNum 9 s.data.toList = false := by
      have : s.data.toList = [] := List.eq_nil_of_length_eq_zero (by rw [← size_data]; omega)
      rw [this]; rfl
    have h0' : (s.size : Int) < 1 := by omega
    unfold numV
    rw [hb]
    go_enter Tryz.func65, Tryz.ntmps65
    go_wp2_with fail
    go_ret2
    exact ⟨rfl, rfl⟩
  · by_cases h9 : 9 < s.size
    · have hb : okNum 9 s.data.toList = false := by
        have : decide (s.data.toList.length ≤ 9) = false := by rw [← size_data]; simpa using h9
        unfold okNum
        rw [this]; simp
      have h0' : ¬ (s.size : Int) < 1 := by omega
      have h9' : (9 : Int) < s.size := by omega
      unfold numV
      rw [hb]
      go_enter Tryz.func65, Tryz.ntmps65
      go_wp2_with fail
      go_ret2
      exact ⟨rfl, rfl⟩
    · have hlt : 0 < s.size := by omega
      have h0' : ¬ (s.size : Int) < 1 := by omega
      have h9' : ¬ (9 : Int) < s.size := by omega
      have hz := at_list s 0 hlt
      by_cases h4 : s[0].toNat = 48 ∧ 1 < s.size
      · obtain ⟨h5, h6⟩ := h4
        have hb : okNum 9 s.data.toList = false := by
          have e1 : (s.data.toList.head? == some 48) = true := by
            rw [List.head?_eq_getElem?, hz, beq_iff_eq]
            congr 1
            rw [← UInt8.toNat_inj, h5]; rfl
          have e2 : decide (1 < s.data.toList.length) = true := by rw [← size_data]; simpa using h6
          unfold okNum
          rw [e1, e2]; simp
        have h7 : (((s[0].toNat : Nat) : Int) == 48) = true := by rw [beq_iff_eq]; omega
        have h8 : (1 : Int) < s.size := by omega
        unfold numV
        rw [hb]
        clear hz
        go_enter Tryz.func65, Tryz.ntmps65
        go_wp2_with fail
        go_ret2
        exact ⟨rfl, rfl⟩
      · have hlen : ∀ b, isDig b = true → okNum 9 s.data.toList = s.data.toList.all isDig := by
          intro _ _
          have e1 : s.data.toList.isEmpty = false := by
            rw [List.isEmpty_eq_false_iff]
            intro e
            rw [e] at hz; cases hz
          have e2 : decide (s.data.toList.length ≤ 9) = true := by rw [← size_data, decide_eq_true_eq]; omega
          have e3 : ((s.data.toList.head? == some 48) && decide (1 < s.data.toList.length)) = false := by
            rw [Bool.and_eq_false_iff]
            by_cases h6 : 1 < s.size
            · left
              rw [List.head?_eq_getElem?, hz, beq_eq_false_iff_ne]
              intro hx
              exact h4 ⟨by rw [Option.some.inj hx]; rfl, h6⟩
            · right
              rw [← size_data]; simpa using h6
          unfold okNum
          rw [e1, e2, e3]; simp
        have hok := hlen 48 rfl
        clear hlen hz
        have HOK := Lib.hid hok
        clear hok
        have hcase : ((((s[0].toNat : Nat) : Int) == 48) = true ∧ ¬ (1 : Int) < s.size) ∨ ((((s[0].toNat : Nat) : Int) == 48) = false ∧ ¬ (1 : Int) < s.size) ∨ ((((s[0].toNat : Nat) : Int) == 48) = false ∧ (1 : Int) < s.size) := by
          by_cases h5 : s[0].toNat = 48
          · left
            exact ⟨by rw [beq_iff_eq]; omega, fun h6 => h4 ⟨h5, by omega⟩⟩
          · right
            rw [beq_eq_false_iff_ne]; omega
        rcases hcase with ⟨h7, h8⟩ | ⟨h7, h8⟩ | ⟨h7, h8⟩
        all_goals
          clear h4
          go_enter Tryz.func65, Tryz.ntmps65
          go_wp2_with fail
          go_loopw [6, 7] (fun n i wr => ∃ j : Nat, j ≤ s.size ∧ i = .int .i64 j ∧ n = .int .i64 (dv (s.data.toList.take j) : Nat) ∧ (s.data.toList.take j).all isDig = true ∧ wr = w) (fun _ i _ => (s.size - intOf i).toNat)
          case atStart => exact ⟨0, by omega, rfl, rfl, rfl, rfl⟩
          case round =>
            obtain ⟨j, hj, rfl, rfl, hd, rfl⟩ := hrel
            have hv := dv_take_lt s.data.toList j (by omega) hd
            by_cases hjs : j < s.size
            · have hjs' : (j : Int) < s.size := by omega
              cases hb : isDig s[j] with
              | true =>
                have hst := Lib.hid (dv_step s j hjs)
                have hds := Lib.hid (dig_step s j hjs hd hb)
                have hbb : 48 ≤ s[j].toNat ∧ s[j].toNat ≤ 57 := by unfold isDig at hb; simpa using hb
                obtain ⟨b0, b1⟩ := hbb
                have b0' : ¬ (s[j].toNat : Int) < 48 := by omega
                have b1' : ¬ (57 : Int) < (s[j].toNat : Int) := by omega
                go_wp2_with fail
                go_roundw
                case rel => exact ⟨j + 1, by omega, by simp, by rw [hst.out]; congr 1; omega, hds.out, trivial⟩
                case measure => simp only [intOf]; omega
              | false =>
                have hbad := Lib.hid (dig_bad s j hjs hb)
                have hbb : ¬ (48 ≤ s[j].toNat ∧ s[j].toNat ≤ 57) := by unfold isDig at hb; simpa using hb
                have hr : numV s.data.toList most = .tuple #[.int .i64 0, .bool false] := by unfold numV; rw [hbad.out]; rfl
                have HR := Lib.hid hr
                clear hr hb
                rcases (by omega : (s[j].toNat : Int) < 48 ∨ 57 < (s[j].toNat : Int)) with b0 | b0
                · clear hbb
                  go_wp2_with fail
                  go_ret2
                  exact ⟨congrArg Ending.returned HR.out.symm, rfl⟩
                · have b1 : ¬ (s[j].toNat : Int) < 48 := by omega
                  clear hbb
                  go_wp2_with fail
                  go_ret2
                  exact ⟨congrArg Ending.returned HR.out.symm, rfl⟩
            · obtain rfl : j = s.size := by omega
              have hl : s.data.toList.take s.size = s.data.toList := List.take_of_length_le (by rw [← size_data]; exact Nat.le_refl _)
              rw [hl] at hd hv ⊢
              have hr : numV s.data.toList most = .tuple #[.int .i64 (dv s.data.toList : Nat), .bool (decide ((dv s.data.toList : Int) ≤ most))] := by unfold numV; rw [HOK.out, hd]; rfl
              have HR := Lib.hid hr
              clear hr hl hd
              go_wp2_with fail
              go_ret2
              exact ⟨congrArg Ending.returned HR.out.symm, rfl⟩
end Go.Proofs.YtnmbbnhgoedjgaaGreatDoor.St5
/- castellanref3.Dec. -/
namespace Go.Proofs.YtnmbbnhgoedjgaaGreatDoor.St6
open Go Go.RowKit Go.Proofs.YtnmbbnhgoedjgaaGreatDoor.Ad1 Go.Proofs.YtnmbbnhgoedjgaaGreatDoor.St0 Go.Proofs.YtnmbbnhgoedjgaaGreatDoor.St1
set_option linter.unusedVariables false
set_option linter.unusedSimpArgs false
theorem dec_small (n : Nat) (h10 : n < 10) (w : World) :
    Calls Tryz.prog 82 #[.int .i64 n] w fun e w' => e = .returned (.string ⟨(Lib.decDigits n).toArray⟩) ∧ Below w.heap.size w w' := by
  have hc := run_convert_bytes_back (P := Tryz.prog) (w.alloc (.cells #[.int .u8 (48 + (n : Int))] 5)) 118 9 5 ⟨w.heap.size, 0, none⟩ 1 [UInt8.ofNat (48 + n)] Tryz.underlying118 Tryz.underlying5 Tryz.underlying9 (fun j hj => by
    have : j = 0 := by simpa using hj
    subst this
    refine (cell_of_row _ _ 0 _ _ _ (heap_alloc_new w _)).trans ?_
    have e : (UInt8.ofNat (48 + n)).toNat = 48 + n := by simp; omega
    simp only [List.getElem_cons_zero, e]
    rfl)
  rw [Lib.decDigits_one h10]
  have h0 : (0 : Int) ≤ n := by omega
  have h9 : (n : Int) < 10 := by omega
  simp only [List.length_cons, List.length_nil] at hc
  generalize ([UInt8.ofNat (48 + n)].toArray) = y at hc ⊢
  clear h10
  generalize (n : Int) = m at hc h0 h9 ⊢
  go_enter Tryz.func82, Tryz.ntmps82
  go_wp2_with fail
  go_ret
  exact ⟨rfl, bnew _ _⟩
theorem dec_bound (n : Nat) : (Lib.decDigits n).length ≤ n + 1 := by
  induction n using Nat.strongRecOn with
  | _ n ih =>
    rw [Lib.decDigits]
    split
    · simp
    · have := ih (n / 10) (by omega)
      simp only [List.length_append, List.length_cons, List.length_nil]
      omega
theorem dec_any (n : Nat) : ∀ (hn : n ≤ 9223372036854775807) (w : World),
    Calls Tryz.prog 82 #[.int .i64 n] w fun e w' => e = .returned (.string ⟨(Lib.decDigits n).toArray⟩) ∧ Below w.heap.size w w' := by
  induction n using Nat.strongRecOn with
  | _ n ih =>
    intro hn w
    by_cases h10 : n < 10
    · exact dec_small n h10 w
    · have h9 : ¬ (n : Int) < 10 := by omega
      have h0 : (0 : Int) ≤ n := by omega
      have hm : (n : Int) ≤ 9223372036854775807 := by omega
      have e1 : ((n / 10 : Nat) : Int) = (n : Int) / 10 := by omega
      have e2 : ((n % 10 : Nat) : Int) = (n : Int) % 10 := by omega
      have e3 : Lib.decDigits n = Lib.decDigits (n / 10) ++ Lib.decDigits (n % 10) := by
        rw [Lib.decDigits, dif_neg h10, Lib.decDigits_one (show n % 10 < 10 by omega)]
      have b1 := dec_bound (n / 10)
      have b2 := dec_bound (n % 10)
      have h1 := fun w => ih (n / 10) (by omega) (by omega) w
      have h2 := fun w => ih (n % 10) (by omega) (by omega) w
      rw [e1] at h1
      rw [e2] at h2
      rw [e3]
      have z1 : (⟨(Lib.decDigits (n / 10)).toArray⟩ : ByteArray).size = (Lib.decDigits (n / 10)).length := by rw [size_data]
      have z2 : (⟨(Lib.decDigits (n % 10)).toArray⟩ : ByteArray).size = (Lib.decDigits (n % 10)).length := by rw [size_data]
      have e4 : (⟨(Lib.decDigits (n / 10)).toArray⟩ : ByteArray) ++ ⟨(Lib.decDigits (n % 10)).toArray⟩ = ⟨(Lib.decDigits (n / 10) ++ Lib.decDigits (n % 10)).toArray⟩ := by
        apply ByteArray.ext
        simp [ByteArray.data_append]
      rw [← e4]
      generalize (⟨(Lib.decDigits (n / 10)).toArray⟩ : ByteArray) = s1 at h1 z1 ⊢
      generalize (⟨(Lib.decDigits (n % 10)).toArray⟩ : ByteArray) = s2 at h2 z2 ⊢
      have hadd := fun W => run_string_add_sum (P := Tryz.prog) W s1 s2 (by omega)
      have hno : ¬ (9223372036854775807 < s1.size + s2.size) := by omega
      generalize s1 ++ s2 = s3 at hadd ⊢
      clear ih b1 b2 z1 z2 e1 e2 e3 e4 hn h10
      have H1 := Lib.hid h1
      have H2 := Lib.hid h2
      clear h1 h2
      generalize (n : Int) = m at h0 h9 hm H1 H2 ⊢
      go_enter Tryz.func82, Tryz.ntmps82
      go_wp2_with (first
        | (go_at_call 82; (with_reducible refine (H1.out _).mono ?_); rintro e w1 ⟨rfl, hb1⟩)
        | (go_at_call 82; (with_reducible refine (H2.out _).mono ?_); rintro e w2 ⟨rfl, hb2⟩))
      go_ret
      exact ⟨rfl, bstep hb1 hb2 hb1.size⟩
end Go.Proofs.YtnmbbnhgoedjgaaGreatDoor.St6
/- castellanref3.Split. -/
namespace Go.Proofs.YtnmbbnhgoedjgaaGreatDoor.St7
open Go Go.RowKit Go.Proofs.YtnmbbnhgoedjgaaGreatDoor.Ad1 Go.Proofs.YtnmbbnhgoedjgaaGreatDoor.Ad3 Go.Proofs.YtnmbbnhgoedjgaaGreatDoor.St0 Go.Proofs.YtnmbbnhgoedjgaaGreatDoor.St1 Go.Proofs.YtnmbbnhgoedjgaaGreatDoor.St5 Go.Proofs.YtnmbbnhgoedjgaaGreatDoor.B1
set_option linter.unusedVariables false
set_option linter.unusedSimpArgs false
/-- What is behind the last byte c so far, one byte on. -/
theorem part_on (s : ByteArray) (c : UInt8) (j f : Nat) (xs : List ByteArray) (hj : j < s.size) (hf : f ≤ j) (hc : s[j] ≠ c)
    (h : parts c (s.data.toList.take j) = xs.map (·.data.toList) ++ [(s.extract f j).data.toList]) :
    parts c (s.data.toList.take (j + 1)) = xs.map (·.data.toList) ++ [(s.extract f (j + 1)).data.toList] := by
  rw [take_step s j hj, parts_snoc_b c _ hc _ _ _ h]
  congr 2
  have := take_step s j hj
  simp only [ByteArray.data_extract, Array.toList_extract, List.extract_eq_take_drop]
  have hl : f ≤ (s.data.toList.take j).length := by rw [List.length_take, ← size_data]; omega
  rw [← List.drop_take, ← List.drop_take, this, List.drop_append_of_le_length hl]
theorem part_cut (s : ByteArray) (c : UInt8) (j f : Nat) (xs : List ByteArray) (hj : j < s.size) (hf : f ≤ j) (hc : s[j] = c)
    (h : parts c (s.data.toList.take j) = xs.map (·.data.toList) ++ [(s.extract f j).data.toList]) :
    parts c (s.data.toList.take (j + 1)) = (xs ++ [s.extract f j]).map (·.data.toList) ++ [(s.extract (j + 1) (j + 1)).data.toList] := by
  rw [take_step s j hj, hc, parts_snoc_c, h, List.map_append]
  congr 2
  simp
set_option maxHeartbeats 1000000 in
theorem split_any (s : ByteArray) (c : UInt8) (hs : s.size ≤ 4294967295) (w : World) :
    Calls Tryz.prog 28 #[.string s, .int .u8 c.toNat] w fun e w' => ∃ (v : Value) (xs : List ByteArray), e = .returned v ∧ xs.map (·.data.toList) = parts c s.data.toList ∧ (∀ x ∈ xs, x.size ≤ s.size) ∧
      w'.ownsRow w.heap.size 9 1 v xs.length (xs.map Value.string) ∧ Below w.heap.size w w' := by
  obtain ⟨i0, hi, hz0, hz1, hz2⟩ := info_parts info9
  go_enter Tryz.func28, Tryz.ntmps28
  go_wp2_with fail
  go_loopw [5, 6, 7] (fun v f i wr => ∃ (j k : Nat) (xs : List ByteArray), i = .int .i64 j ∧ f = .int .i64 k ∧ (∀ x ∈ xs, x.size ≤ s.size) ∧ wr.ownsRow w.heap.size 9 1 v xs.length (xs.map Value.string) ∧ Below w.heap.size w wr ∧
     ((j ≤ s.size ∧ k ≤ j ∧ xs.length ≤ j ∧ parts c (s.data.toList.take j) = xs.map (·.data.toList) ++ [(s.extract k j).data.toList]) ∨ (j = s.size + 1 ∧ xs.map (·.data.toList) = parts c s.data.toList))) (fun _ _ i _ => (s.size + 1 - intOf i).toNat)
  case atStart => exact ⟨0, 0, [], rfl, rfl, by simp, World.ownsRow_nil _ _ _ _, Below.refl _ _, .inl ⟨by omega, by omega, by simp, by simp [parts]⟩⟩
  case round =>
    obtain ⟨j, k, xs, rfl, rfl, hx, hown, hbl, hst⟩ := hrel
    have HO := Lib.hid hown
    have HB := Lib.hid hbl
    have HX := Lib.hid hx
    clear hown hbl hx
    rcases hst with ⟨h1, h2, h3, h4⟩ | ⟨hj1, h4⟩
    · have hlen : xs.length ≤ 4294967295 := by omega
      by_cases hjs : j < s.size
      · by_cases hc : s[j] = c
        · have hb1 : (((s[j].toNat : Nat) : Int) == (c.toNat : Nat)) = true := by rw [hc]; simp
          have hp := part_cut s c j k xs hjs h2 hc h4
          have HP := Lib.hid hp
          have hn : ((j : Int) == (s.size : Nat)) = false := by rw [beq_eq_false_iff_ne]; omega
          clear h4 hc hp
          have hk' : (k : Int) ≤ j := by omega
          have hj' : (j : Int) < s.size := by omega
          go_wp2_with (at_builtin; refine wpList_append_one rfl _ _ 55 rfl w.heap.size 9 (.string ByteArray.empty) 16 Tryz.underlying55 info9 rfl _ _ _ rfl HO.out (.string (s.extract k j)) rfl rfl (by simp [maxLen]; omega) (by omega) HB.out.size ?_; intro v' w' ho hb hz hn; have HO2 := Lib.hid ho; have HB2 := Lib.hid (HB.out.trans hb); clear ho hb hz hn)
          go_roundw
          case rel => exact ⟨j + 1, j + 1, xs ++ [s.extract k j], by simp, by simp, by
            intro x hx
            rcases List.mem_append.1 hx with hx | hx
            · exact HX.out x hx
            · have : x = s.extract k j := by simpa using hx
              rw [this, ByteArray.size_extract]; omega, by simpa using HO2.out, HB2.out, .inl ⟨by omega, by omega, by simp; omega, HP.out⟩⟩
          case measure => simp only [intOf]; omega
        · have hb1 : (((s[j].toNat : Nat) : Int) == (c.toNat : Nat)) = false := by
            rw [beq_eq_false_iff_ne]
            intro e
            exact hc (UInt8.toNat_inj.1 (by omega))
          have hp := part_on s c j k xs hjs h2 hc h4
          have HP := Lib.hid hp
          have hn : ((j : Int) == (s.size : Nat)) = false := by rw [beq_eq_false_iff_ne]; omega
          clear h4 hc hp
          have hj' : (j : Int) < s.size := by omega
          go_wp2_with fail
          go_roundw
          case rel => exact ⟨j + 1, k, xs, by simp, rfl, HX.out, HO.out, HB.out, .inl ⟨by omega, by omega, by omega, HP.out⟩⟩
          case measure => simp only [intOf]; omega
      · obtain rfl : j = s.size := by omega
        have hp : (xs ++ [s.extract k s.size]).map (·.data.toList) = parts c s.data.toList := by
          have e : s.data.toList.take s.size = s.data.toList := List.take_of_length_le (by rw [← size_data]; exact Nat.le_refl _)
          rw [e] at h4
          rw [h4]; simp
        have HP := Lib.hid hp
        clear h4 hp
        have hk' : (k : Int) ≤ s.size := by omega
        go_wp2_with (at_builtin; refine wpList_append_one rfl _ _ 55 rfl w.heap.size 9 (.string ByteArray.empty) 16 Tryz.underlying55 info9 rfl _ _ _ rfl HO.out (.string (s.extract k s.size)) rfl rfl (by simp [maxLen]; omega) (by omega) HB.out.size ?_; intro v' w' ho hb hz hn; have HO2 := Lib.hid ho; have HB2 := Lib.hid (HB.out.trans hb); clear ho hb hz hn)
        go_roundw
        case rel => exact ⟨s.size + 1, s.size + 1, xs ++ [s.extract k s.size], by simp, by simp, by
            intro x hx
            rcases List.mem_append.1 hx with hx | hx
            · exact HX.out x hx
            · have : x = s.extract k s.size := by simpa using hx
              rw [this, ByteArray.size_extract]; omega, by simpa using HO2.out, HB2.out, .inr ⟨rfl, HP.out⟩⟩
        case measure => simp only [intOf]; omega
    · have H4 := Lib.hid h4
      have hj2 : ¬ (j : Int) ≤ s.size := by omega
      clear h4 hj1
      go_wp2_with fail
      go_ret
      exact ⟨_, rfl, xs, H4.out, HX.out, HO.out, HB.out⟩
end Go.Proofs.YtnmbbnhgoedjgaaGreatDoor.St7

