/- addr.ParsePrefix and addr.PrintPrefix. -/
import Derived.Test.YtefhoecdoemgbaaGreatDoorSt2
import Derived.Deep.AppendLies
namespace Go.Proofs.YtefhoecdoemgbaaGreatDoor.St3
open Go Go.RowKit Go.Proofs.YtefhoecdoemgbaaGreatDoor.Ad0 Go.Proofs.YtefhoecdoemgbaaGreatDoor.Ad1 Go.Proofs.YtefhoecdoemgbaaGreatDoor.St0 Go.Proofs.YtefhoecdoemgbaaGreatDoor.St1 Go.Proofs.YtefhoecdoemgbaaGreatDoor.St2
set_option linter.unusedVariables false
set_option linter.unusedSimpArgs false

def prefL (l : List UInt8) : Option Pfx :=
  if (Lib.cut l [47]).2.2 = true then (if okNum 3 (Lib.cut l [47]).2.1 && decide (dv (Lib.cut l [47]).2.1 ≤ 32) then (parseL (Lib.cut l [47]).1).map fun a => ⟨a, (dv (Lib.cut l [47]).2.1 : Nat)⟩ else none)
  else (parseL (Lib.cut l [47]).1).map fun a => ⟨a, 32⟩
def prefV (r : Option Pfx) : Value := match r with
  | some p => .tuple #[.agg #[.int .u32 p.addr, .int .i64 p.len], .int .i64 0]
  | none => .tuple #[.agg #[.int .u32 0, .int .i64 0], .int .i64 2]

theorem box2 {w : World} {g : Nat} {x y : Value} {T : TypeId} (h : w.heap[g]? = some (.cells #[x, y] T (0, 0))) :
    w.cell? ⟨g, 0, none⟩ = some x ∧ w.cell? ⟨g, 1, none⟩ = some y ∧ w.frozen? ⟨g, 0, none⟩ = false ∧ w.frozen? ⟨g, 1, none⟩ = false :=
  ⟨(cell_of_row _ _ 0 _ _ _ h).trans rfl, (cell_of_row _ _ 1 _ _ _ h).trans rfl, frozen_of_row _ _ 0 _ _ h, frozen_of_row _ _ 1 _ _ h⟩
theorem set_at {w : World} {g k : Nat} {c : Array Value} {T : TypeId} {fr : Nat × Nat} {v : Value} (h : w.heap[g]? = some (.cells c T fr)) : (w.setCell ⟨g, k, none⟩ v).heap[g]? = some (.cells (c.setIfInBounds k v) T fr) := by
  unfold World.setCell
  simp only [Array.getElem?_modify, h]
  simp
theorem set_b {B g k : Nat} {w0 w : World} {v : Value} (hb : Below B w0 w) (hg : B ≤ g) : Below B w0 (w.setCell ⟨g, k, none⟩ v) :=
  ⟨hb.os, hb.tape, hb.output, by unfold World.setCell; simpa using hb.size, fun i hi => by
    unfold World.setCell
    simp only [Array.getElem?_modify]
    rw [if_neg (by omega)]
    exact hb.block i hi⟩
/-- A result out of a box, and one beside it. -/
theorem box_ret {P : Program} {fn : Func} {R : Ending → World → Prop} {a : Act} {w : World} {t u : Tmp} {T : TypeId} {v : Value} {g : Nat} {c : Array Value} {fr : Nat × Nat} {fs : Array Field}
    (hc : w.heap[g]? = some (.cells c T fr)) (h : fn.results = #[.cell t T, .tmp u]) 
    (ht : a.tmps.getD t undef = .pointer (some ⟨g, 0, none⟩)) (hv : a.tmps.getD u undef = v) (hu : P.underlying T = some (.struct fs)) (hi : (P.info? T).map (·.size) = some c.size)
    (hd : a.defers = []) (hR : R (.returned (.tuple #[.agg c, v])) w) : bodyPost P fn R .ret a w := by
  refine bodyPost_ret ?_ hd hR
  have hl := run_loadVar_row (P := P) _ _ T T c fr _ hc hu rfl hi
  unfold results
  rw [h]
  have e1 : (asAddr (a.tmps.getD t undef)).run P w = .ok ⟨g, 0, none⟩ w := by rw [ht]; rfl
  simp only [List.mapM_toArray, List.mapM_cons, List.mapM_nil, Array.mapM_eq_mapM_toList, Sem.run_bind, Sem.run_pure, Result.andThen, e1, hl, hv, bind_assoc, pure_bind]
  have e2 : (asAddr (a.tmps[t]?.getD undef)).run P w = .ok ⟨g, 0, none⟩ w := by simpa using e1
  simp [Sem.run_bind, Sem.run_pure, Result.andThen, e2, hl, hv]
theorem row_step {W w1 : World} {g : Nat} {o : Obj} (h : Hid (W.heap[g]? = some o)) (hb : Below W.heap.size W w1) : Hid (w1.heap[g]? = some o) := (hb.block g (blk_lt' h)).trans h

/-- What number answers at 32, in its two ways. -/
theorem number_Q (l : List UInt8) (hb : l.length ≤ 9223372036854775807) (W : World) : Calls Tryz.prog 87 #[.string ⟨l.toArray⟩, .int .i64 32] W fun e w' => ((okNum 3 l && decide (dv l ≤ 32)) = true → e = .returned (.tuple #[.int .i64 (dv l : Nat), .bool true])) ∧
    ((okNum 3 l && decide (dv l ≤ 32)) = false → ∃ n : Int, e = .returned (.tuple #[.int .i64 n, .bool false])) ∧ Below W.heap.size W w' := by
  have hl : (⟨l.toArray⟩ : ByteArray).data.toList = l := rfl
  have hz : (⟨l.toArray⟩ : ByteArray).size ≤ 9223372036854775807 := by rw [size_data]; exact hb
  by_cases h : okNum 3 l = true
  · refine (number_ok ⟨l.toArray⟩ 32 (by decide) W h).mono ?_
    rintro e w' ⟨rfl, hb⟩
    rw [h]
    simp only [Bool.true_and]
    refine ⟨fun ho => ?_, fun ho => ⟨(dv l : Nat), ?_⟩, hb⟩
    · rw [ho]
    · rw [ho]
  · simp only [Bool.not_eq_true] at h
    refine (number_bad ⟨l.toArray⟩ hz 32 W h).mono ?_
    rintro e w' ⟨rfl, hb⟩
    rw [h]
    exact ⟨fun ho => (by cases ho), fun _ => ⟨0, rfl⟩, hb⟩

set_option maxHeartbeats 2000000 in
theorem pref_any (s : ByteArray) (hs : s.size < 4294967281) (w : World) (hl : LibOK w) :
    Calls Tryz.prog 60 #[.string s] w fun e w' => e = .returned (prefV (prefL s.data.toList)) ∧ Below w.heap.size w w' := by
  obtain ⟨m, hm⟩ := hl.maxLen
  have h0 : (w.alloc (.cells #[.int .u32 0, .int .i64 0] 24)).cell? ⟨0, 0, none⟩ = some (.int .i64 m) := ((bnew w _).cell (World.block_lt_of_cell? w _ hm)).trans hm
  have hcut := Tryz.strings_Cut s ⟨#[47]⟩ m _ hs h0
  have HL0 := Lib.hid (hl.below (bnew w (.cells #[.int .u32 0, .int .i64 0] 24)))
  unfold prefL
  have hlen : (Lib.cut s.data.toList [47]).1.length ≤ s.size ∧ (Lib.cut s.data.toList [47]).2.1.length ≤ s.size := by
    rw [size_data]
    unfold Lib.cut
    split <;> simp <;> omega
  change Calls _ _ _ _ (fun e w' => e = .returned (.tuple #[.string ⟨(Lib.cut s.data.toList [47]).1.toArray⟩, .string ⟨(Lib.cut s.data.toList [47]).2.1.toArray⟩, .bool (Lib.cut s.data.toList [47]).2.2]) ∧ _) at hcut
  generalize Lib.cut s.data.toList [47] = c at hcut hlen ⊢
  obtain ⟨f, b, ok⟩ := c
  dsimp only at hcut hlen ⊢
  have hf : (⟨f.toArray⟩ : ByteArray).size < 4294967281 := by rw [size_data]; show f.length < _; omega
  have hbl : b.length ≤ 9223372036854775807 := by omega
  have HB0 := Lib.hid (bnew w (.cells #[.int .u32 0, .int .i64 0] 24))
  have HR0 := Lib.hid (heap_alloc_new w (.cells #[.int .u32 0, .int .i64 0] 24))
  have HCUT := Lib.hid hcut
  have HN := Lib.hid (fun W => number_Q b hbl W)
  have HP := Lib.hid (fun W hL => parse_any ⟨f.toArray⟩ hf W hL)
  have hpl : (⟨f.toArray⟩ : ByteArray).data.toList = f := rfl
  rw [hpl] at HP
  clear hcut hm h0 hlen hbl hf hl hpl
  generalize parseL f = r at HP ⊢
  have HPN : r = none → Hid (∀ W, LibOK W → Calls Tryz.prog 63 #[.string ⟨f.toArray⟩] W fun e w' => e = .returned (.tuple #[.int .u32 0, .int .i64 2]) ∧ Below W.heap.size W w') := fun e => by subst e; exact HP
  have HPS : ∀ a : Nat, r = some a → Hid (∀ W, LibOK W → Calls Tryz.prog 63 #[.string ⟨f.toArray⟩] W fun e w' => e = .returned (.tuple #[.int .u32 (a : Nat), .int .i64 0]) ∧ Below W.heap.size W w') := fun a e => by subst e; exact HP
  clear HP
  cases ok
  · simp only [Bool.false_eq_true, if_false]
    cases r with
    | none =>
      have HP := HPN rfl
      clear HPN HPS HN
      have key : Calls Tryz.prog 60 #[.string s] w fun e w' => e = .returned (.tuple #[.agg #[.int .u32 0, .int .i64 0], .int .i64 2]) ∧ Below w.heap.size w w' := by
        skip
        go_enter Tryz.func60, Tryz.ntmps60
        go_wp2_with (first
          | (go_at_call 61; refine HCUT.out.mono ?_; rintro e w1 ⟨rfl, n1, rfl⟩; have HB1 := Lib.hid (bdrewN HB0.out n1); have HL1 := Lib.hid (HL0.out.below (bdrewN (Below.refl _ _) n1)); have HR1 : Hid ((((w.alloc (.cells #[.int .u32 0, .int .i64 0] 24)).drewN n1).heap[w.heap.size]? = _)) := HR0)
          | fail
          | (go_at_call 63; refine (HP.out _ HL1.out).mono ?_; rintro e w2 ⟨rfl, hb2⟩; have HB2 := Lib.hid (bstep HB1.out hb2 HB1.out.size); have HR2 := row_step HR1 hb2; clear hb2; obtain ⟨d0, d1, d2, d3⟩ := box2 HR2.out))
        have hr := set_at (k := 1) (v := .int .i64 0) (set_at (k := 0) (v := .int .u32 0) HR2.out)
        exact box_ret hr rfl rfl rfl Tryz.underlying24 (by kernel_rfl) rfl ⟨rfl, set_b (set_b HB2.out (Nat.le_refl _)) (Nat.le_refl _)⟩
      exact key
    | some a =>
      have HP := HPS a rfl
      clear HPN HPS HN
      have key : Calls Tryz.prog 60 #[.string s] w fun e w' => e = .returned (.tuple #[.agg #[.int .u32 (a : Nat), .int .i64 32], .int .i64 0]) ∧ Below w.heap.size w w' := by
        skip
        go_enter Tryz.func60, Tryz.ntmps60
        go_wp2_with (first
          | (go_at_call 61; refine HCUT.out.mono ?_; rintro e w1 ⟨rfl, n1, rfl⟩; have HB1 := Lib.hid (bdrewN HB0.out n1); have HL1 := Lib.hid (HL0.out.below (bdrewN (Below.refl _ _) n1)); have HR1 : Hid ((((w.alloc (.cells #[.int .u32 0, .int .i64 0] 24)).drewN n1).heap[w.heap.size]? = _)) := HR0)
          | fail
          | (go_at_call 63; refine (HP.out _ HL1.out).mono ?_; rintro e w2 ⟨rfl, hb2⟩; have HB2 := Lib.hid (bstep HB1.out hb2 HB1.out.size); have HR2 := row_step HR1 hb2; clear hb2; obtain ⟨d0, d1, d2, d3⟩ := box2 HR2.out))
        have hr := set_at (k := 1) (v := .int .i64 32) (set_at (k := 0) (v := .int .u32 (a : Nat)) HR2.out)
        exact box_ret hr rfl rfl rfl Tryz.underlying24 (by kernel_rfl) rfl ⟨rfl, set_b (set_b HB2.out (Nat.le_refl _)) (Nat.le_refl _)⟩
      exact key
  · simp only [if_true]
    by_cases hk : (okNum 3 b && decide (dv b ≤ 32)) = true
    · have HNG : Hid (∀ W, Calls Tryz.prog 87 #[.string ⟨b.toArray⟩, .int .i64 32] W fun e w' => e = .returned (.tuple #[.int .i64 (dv b : Nat), .bool true]) ∧ Below W.heap.size W w') := fun W => (HN.out W).mono fun e w' hh => ⟨hh.1 hk, hh.2.2⟩
      rw [if_pos hk]
      clear hk HN
      cases r with
      | none =>
       have HP := HPN rfl
       clear HPN HPS
       have key : Calls Tryz.prog 60 #[.string s] w fun e w' => e = .returned (.tuple #[.agg #[.int .u32 0, .int .i64 0], .int .i64 2]) ∧ Below w.heap.size w w' := by
         skip
         go_enter Tryz.func60, Tryz.ntmps60
         go_wp2_with (first
           | (go_at_call 61; refine HCUT.out.mono ?_; rintro e w1 ⟨rfl, n1, rfl⟩; have HB1 := Lib.hid (bdrewN HB0.out n1); have HL1 := Lib.hid (HL0.out.below (bdrewN (Below.refl _ _) n1)); have HR1 : Hid ((((w.alloc (.cells #[.int .u32 0, .int .i64 0] 24)).drewN n1).heap[w.heap.size]? = _)) := HR0)
           | (go_at_call 87; refine (HNG.out _).mono ?_; rintro e w3 ⟨rfl, hb3⟩; have HB1 := Lib.hid (bstep HB1.out hb3 HB1.out.size); have HR1 := row_step HR1 hb3; have HL1 := Lib.hid (HL1.out.below hb3); clear hb3)
           | (go_at_call 63; refine (HP.out _ HL1.out).mono ?_; rintro e w2 ⟨rfl, hb2⟩; have HB2 := Lib.hid (bstep HB1.out hb2 HB1.out.size); have HR2 := row_step HR1 hb2; clear hb2; obtain ⟨d0, d1, d2, d3⟩ := box2 HR2.out))
         have hr := set_at (k := 1) (v := .int .i64 0) (set_at (k := 0) (v := .int .u32 0) HR2.out)
         exact box_ret hr rfl rfl rfl Tryz.underlying24 (by kernel_rfl) rfl ⟨rfl, set_b (set_b HB2.out (Nat.le_refl _)) (Nat.le_refl _)⟩
       exact key
      | some a =>
       have HP := HPS a rfl
       clear HPN HPS
       have key : Calls Tryz.prog 60 #[.string s] w fun e w' => e = .returned (.tuple #[.agg #[.int .u32 (a : Nat), .int .i64 (dv b : Nat)], .int .i64 0]) ∧ Below w.heap.size w w' := by
         skip
         go_enter Tryz.func60, Tryz.ntmps60
         go_wp2_with (first
           | (go_at_call 61; refine HCUT.out.mono ?_; rintro e w1 ⟨rfl, n1, rfl⟩; have HB1 := Lib.hid (bdrewN HB0.out n1); have HL1 := Lib.hid (HL0.out.below (bdrewN (Below.refl _ _) n1)); have HR1 : Hid ((((w.alloc (.cells #[.int .u32 0, .int .i64 0] 24)).drewN n1).heap[w.heap.size]? = _)) := HR0)
           | (go_at_call 87; refine (HNG.out _).mono ?_; rintro e w3 ⟨rfl, hb3⟩; have HB1 := Lib.hid (bstep HB1.out hb3 HB1.out.size); have HR1 := row_step HR1 hb3; have HL1 := Lib.hid (HL1.out.below hb3); clear hb3)
           | (go_at_call 63; refine (HP.out _ HL1.out).mono ?_; rintro e w2 ⟨rfl, hb2⟩; have HB2 := Lib.hid (bstep HB1.out hb2 HB1.out.size); have HR2 := row_step HR1 hb2; clear hb2; obtain ⟨d0, d1, d2, d3⟩ := box2 HR2.out))
         have hr := set_at (k := 1) (v := .int .i64 (dv b : Nat)) (set_at (k := 0) (v := .int .u32 (a : Nat)) HR2.out)
         exact box_ret hr rfl rfl rfl Tryz.underlying24 (by kernel_rfl) rfl ⟨rfl, set_b (set_b HB2.out (Nat.le_refl _)) (Nat.le_refl _)⟩
       exact key
    · rw [if_neg hk]
      simp only [Bool.not_eq_true] at hk
      have HNB : Hid (∀ W, Calls Tryz.prog 87 #[.string ⟨b.toArray⟩, .int .i64 32] W fun e w' => (∃ n : Int, e = .returned (.tuple #[.int .i64 n, .bool false])) ∧ Below W.heap.size W w') := fun W => (HN.out W).mono fun e w' hh => ⟨hh.2.1 hk, hh.2.2⟩
      clear HPN HPS HN hk
      have key : Calls Tryz.prog 60 #[.string s] w fun e w' => e = .returned (.tuple #[.agg #[.int .u32 0, .int .i64 0], .int .i64 2]) ∧ Below w.heap.size w w' := by
        skip
        go_enter Tryz.func60, Tryz.ntmps60
        go_wp2_with (first
          | (go_at_call 61; refine HCUT.out.mono ?_; rintro e w1 ⟨rfl, n1, rfl⟩; have HB1 := Lib.hid (bdrewN HB0.out n1); have HL1 := Lib.hid (HL0.out.below (bdrewN (Below.refl _ _) n1)); have HR1 : Hid ((((w.alloc (.cells #[.int .u32 0, .int .i64 0] 24)).drewN n1).heap[w.heap.size]? = _)) := HR0)
          | (go_at_call 87; refine (HNB.out _).mono ?_; rintro e w3 ⟨⟨n, rfl⟩, hb3⟩; have HB2 := Lib.hid (bstep HB1.out hb3 HB1.out.size); have HR2 := row_step HR1 hb3; clear hb3; obtain ⟨d0, d1, d2, d3⟩ := box2 HR2.out)
          | fail)
        have hr := set_at (k := 1) (v := .int .i64 0) (set_at (k := 0) (v := .int .u32 0) HR2.out)
        exact box_ret hr rfl rfl rfl Tryz.underlying24 (by kernel_rfl) rfl ⟨rfl, set_b (set_b HB2.out (Nat.le_refl _)) (Nat.le_refl _)⟩
      exact key
end Go.Proofs.YtefhoecdoemgbaaGreatDoor.St3
