/- conf.modes and conf.isIface. -/
import Derived.Test.YtnmbbnhgoedjgaaGreatDoorQCf9
import Derived.Test.YtnmbbnhgoedjgaaGreatDoorQCgR
import Derived.Deep.RegionHeld3
namespace Go.Proofs.YtnmbbnhgoedjgaaGreatDoor.Cf7
open Go Go.RowKit Go.Proofs.YtnmbbnhgoedjgaaGreatDoor.Cf4 Go.Proofs.YtnmbbnhgoedjgaaGreatDoor.Ad0 Go.Proofs.YtnmbbnhgoedjgaaGreatDoor.Ad1 Go.Proofs.YtnmbbnhgoedjgaaGreatDoor.Ru0 Go.Proofs.YtnmbbnhgoedjgaaGreatDoor.Ru6 Go.Proofs.YtnmbbnhgoedjgaaGreatDoor.RuB Go.Proofs.YtnmbbnhgoedjgaaGreatDoor.RuC Go.Proofs.YtnmbbnhgoedjgaaGreatDoor.RuD Go.Proofs.YtnmbbnhgoedjgaaGreatDoor.CgQ
set_option linter.unusedVariables false
set_option linter.unusedSimpArgs false
def modesL : List Wd := [[110, 111, 110, 101], [115, 116, 114, 105, 99, 116], [108, 111, 111, 115, 101], [108, 111, 111, 115, 101, 114], [102, 101, 97, 115, 105, 98, 108, 101]]
def modesC : List Value := modesL.map fun x => .string ⟨x.toArray⟩
theorem modes_any (W : World) : Calls Tryz.prog 77 #[] W fun e w' => e = .returned (.slice (some ⟨W.heap.size, 0, none⟩) 5 5) ∧ w' = W.alloc (.cells modesC.toArray 9) := by
  go_enter Tryz.func77, Tryz.ntmps77
  go_wp2_with fail
  go_ret
  exact ⟨rfl, rfl⟩
/-- May an interface be? -/
def isIB (nm : Wd) (p : Pfx) (mtu rpf : Int) : Bool := nameL nm && (decide (1 ≤ p.len) && (decide (p.len ≤ 32) && (decide (16777216 ≤ p.addr) && (!castF p.addr && (decide (68 ≤ mtu) && (decide (mtu ≤ 65535) && (decide (0 ≤ rpf) && decide (rpf ≤ 4))))))))
/-- The interface lies in its box. -/
structure IBox (w : World) (c0 c1 c2 c3 c4 : Value) (W : World) : Prop where
  d0 : W.cell? ⟨w.heap.size, 0, none⟩ = some c0
  d1 : W.cell? ⟨w.heap.size, 1, none⟩ = some c1
  d2 : W.cell? ⟨w.heap.size, 2, none⟩ = some c2
  d3 : W.cell? ⟨w.heap.size, 3, none⟩ = some c3
  d4 : W.cell? ⟨w.heap.size, 4, none⟩ = some c4
  lt : w.heap.size < W.heap.size
  low : Below w.heap.size w W
theorem i_keep {w W V : World} {c0 c1 c2 c3 c4 : Value} (hb : Below W.heap.size W V) (h : IBox w c0 c1 c2 c3 c4 W) : IBox w c0 c1 c2 c3 c4 V := by
  obtain ⟨h0, h1, h2, h3, h4, hl, hB⟩ := h
  have k (j : Nat) {c : Value} (h : W.cell? ⟨w.heap.size, j, none⟩ = some c) : V.cell? ⟨w.heap.size, j, none⟩ = some c := (hb.cell (by exact hl)).trans h
  exact ⟨k 0 h0, k 1 h1, k 2 h2, k 3 h3, k 4 h4, Nat.lt_of_lt_of_le hl hb.size, bstep hB hb hB.size⟩
theorem i_keep' {w W V : World} {c0 c1 c2 c3 c4 : Value} (hb : Below W.heap.size W V) (h : W.cell? ⟨w.heap.size, 0, none⟩ = some c0 ∧ W.cell? ⟨w.heap.size, 1, none⟩ = some c1 ∧ W.cell? ⟨w.heap.size, 2, none⟩ = some c2 ∧ W.cell? ⟨w.heap.size, 3, none⟩ = some c3 ∧ W.cell? ⟨w.heap.size, 4, none⟩ = some c4 ∧ w.heap.size < W.heap.size ∧ Below w.heap.size w W) : V.cell? ⟨w.heap.size, 0, none⟩ = some c0 ∧ V.cell? ⟨w.heap.size, 1, none⟩ = some c1 ∧ V.cell? ⟨w.heap.size, 2, none⟩ = some c2 ∧ V.cell? ⟨w.heap.size, 3, none⟩ = some c3 ∧ V.cell? ⟨w.heap.size, 4, none⟩ = some c4 ∧ w.heap.size < V.heap.size ∧ Below w.heap.size w V := by
  obtain ⟨h0, h1, h2, h3, h4, hl, hB⟩ := h
  obtain ⟨a0, a1, a2, a3, a4, al, aB⟩ := i_keep hb ⟨h0, h1, h2, h3, h4, hl, hB⟩
  exact ⟨a0, a1, a2, a3, a4, al, aB⟩
theorem IBox.conj {w W : World} {c0 c1 c2 c3 c4 : Value} (h : IBox w c0 c1 c2 c3 c4 W) : W.cell? ⟨w.heap.size, 0, none⟩ = some c0 ∧ W.cell? ⟨w.heap.size, 1, none⟩ = some c1 ∧ W.cell? ⟨w.heap.size, 2, none⟩ = some c2 ∧ W.cell? ⟨w.heap.size, 3, none⟩ = some c3 ∧ W.cell? ⟨w.heap.size, 4, none⟩ = some c4 ∧ w.heap.size < W.heap.size ∧ Below w.heap.size w W := ⟨h.d0, h.d1, h.d2, h.d3, h.d4, h.lt, h.low⟩
theorem i_below {A B C D E F : Prop} {w W : World} (h : A ∧ B ∧ C ∧ D ∧ E ∧ F ∧ Below w.heap.size w W) : Below w.heap.size w W := h.2.2.2.2.2.2
theorem IBox.c0 {w : World} {c0 c1 c2 c3 c4 : Value} (p : In (IBox w c0 c1 c2 c3 c4)) : p.val.cell? ⟨w.heap.size, 0, none⟩ = some c0 := p.property.d0
theorem IBox.c1 {w : World} {c0 c1 c2 c3 c4 : Value} (p : In (IBox w c0 c1 c2 c3 c4)) : p.val.cell? ⟨w.heap.size, 1, none⟩ = some c1 := p.property.d1
theorem IBox.c2 {w : World} {c0 c1 c2 c3 c4 : Value} (p : In (IBox w c0 c1 c2 c3 c4)) : p.val.cell? ⟨w.heap.size, 2, none⟩ = some c2 := p.property.d2
theorem IBox.c3 {w : World} {c0 c1 c2 c3 c4 : Value} (p : In (IBox w c0 c1 c2 c3 c4)) : p.val.cell? ⟨w.heap.size, 3, none⟩ = some c3 := p.property.d3
theorem IBox.c4 {w : World} {c0 c1 c2 c3 c4 : Value} (p : In (IBox w c0 c1 c2 c3 c4)) : p.val.cell? ⟨w.heap.size, 4, none⟩ = some c4 := p.property.d4
set_option maxRecDepth 20000 in
set_option maxHeartbeats 4000000 in
theorem isIface_any (nm : Wd) (hnm : nm.length ≤ 9223372036854775807) (p : Pfx) (hp : p.ok) (mtu rpf : Int) (w : World) :
    Calls Tryz.prog 41 #[.agg #[.string ⟨nm.toArray⟩, .int .u32 (p.addr : Nat), .int .i64 p.len, .int .i64 mtu, .int .i64 rpf]] w fun e w' => e = .returned (.bool (isIB nm p mtu rpf)) ∧ Below w.heap.size w w' := by
  obtain ⟨a, n⟩ := p
  have KN := Lib.hid (fun W' => name_any nm hnm W')
  have KC := Lib.hid (fun W' => cast_any a hp W')
  have KM := Lib.hid modes_any
  have hr := heap_alloc_new w (.cells #[.string ⟨nm.toArray⟩, .int .u32 (a : Nat), .int .i64 n, .int .i64 mtu, .int .i64 rpf] 45)
  have D : IBox w (.string ⟨nm.toArray⟩) (.int .u32 (a : Nat)) (.int .i64 n) (.int .i64 mtu) (.int .i64 rpf) (w.alloc (.cells #[.string ⟨nm.toArray⟩, .int .u32 (a : Nat), .int .i64 n, .int .i64 mtu, .int .i64 rpf] 45)) :=
    ⟨cell_of_row _ _ 0 _ _ _ hr, cell_of_row _ _ 1 _ _ _ hr, cell_of_row _ _ 2 _ _ _ hr, cell_of_row _ _ 3 _ _ _ hr, cell_of_row _ _ 4 _ _ _ hr, by simp, bnew w _⟩
  have HD := Lib.hid (i_keep (Below.refl _ _).drew D)
  clear hr D
  unfold isIB
  dsimp only
  generalize castF a = cb at KC ⊢
  have ha : (16777216 ≤ a) = ¬ ((a : Int) / 16777216 = 0) := by
    apply propext; constructor <;> intro h <;> omega
  rw [decide_eq_decide.2 (Iff.of_eq ha)]
  have g0 := fun p => IBox.c0 (w := w) (c0 := .string ⟨nm.toArray⟩) (c1 := .int .u32 (a : Nat)) (c2 := .int .i64 n) (c3 := .int .i64 mtu) (c4 := .int .i64 rpf) p
  have g1 := fun p => IBox.c1 (w := w) (c0 := .string ⟨nm.toArray⟩) (c1 := .int .u32 (a : Nat)) (c2 := .int .i64 n) (c3 := .int .i64 mtu) (c4 := .int .i64 rpf) p
  cases q0 : nameL nm with
  | false =>
    rw [q0] at KN
    go_enter Tryz.func41, Tryz.ntmps41
    go_upto_region 1 with fail
    refine region_in (IBox w (.string ⟨nm.toArray⟩) (.int .u32 (a : Nat)) (.int .i64 n) (.int .i64 mtu) (.int .i64 rpf)) (by kernel_rfl) (by kernel_rfl) HD.out ?_
    repeat (first
      | go_big_quiet_skip
      | (go_big_quiet_want; first
          | ((with_reducible refine load_one w.heap.size 0 ?_ (fun p => p.property.d0) Tryz.isAgg9 ?_); rfl; simp only [Act.put, List.setIfInBounds_toArray, List.set_cons_zero, List.set_cons_succ]; go_big_quiet_on)
          | ((with_reducible refine load_one w.heap.size 1 ?_ (fun p => p.property.d1) Tryz.isAgg41 ?_); rfl; simp only [Act.put, List.setIfInBounds_toArray, List.set_cons_zero, List.set_cons_succ]; go_big_quiet_on)
          | ((with_reducible refine load_one w.heap.size 2 ?_ (fun p => p.property.d2) Tryz.isAgg3 ?_); rfl; simp only [Act.put, List.setIfInBounds_toArray, List.set_cons_zero, List.set_cons_succ]; go_big_quiet_on)
          | ((with_reducible refine load_one w.heap.size 3 ?_ (fun p => p.property.d3) Tryz.isAgg3 ?_); rfl; simp only [Act.put, List.setIfInBounds_toArray, List.set_cons_zero, List.set_cons_succ]; go_big_quiet_on)
          | ((with_reducible refine load_one w.heap.size 4 ?_ (fun p => p.property.d4) Tryz.isAgg3 ?_); rfl; simp only [Act.put, List.setIfInBounds_toArray, List.set_cons_zero, List.set_cons_succ]; go_big_quiet_on)
          | (go_big_quiet_op; first
            | go_big_quiet_on
            | ((refine ⟨_, fun _ _ => rfl, ?_⟩); go_big_quiet_on)
            | (apply Exists.intro; (refine ⟨fun W hW => (KN.out W).mono ?_, ?_⟩); (rintro e w1 ⟨rfl, hb1⟩; exact ⟨rfl, i_keep hb1 hW⟩); go_big_quiet_on)
            | (apply Exists.intro; (refine ⟨fun W hW => (KC.out W).mono ?_, ?_⟩); (rintro e w1 ⟨rfl, rfl⟩; exact ⟨rfl, hW⟩); go_big_quiet_on))))
    refine wpQuiet_nil ?_
    rintro _ ⟨⟨w2, h2⟩, rfl⟩
    have HB := Lib.hid h2.low
    clear h2
    go_wp2_with fail
    go_ret
    exact ⟨rfl, HB.out⟩
  | true =>
  rw [q0] at KN
  by_cases q1 : 1 ≤ n
  rotate_left
  · have qq1 := q1
    rw [decide_eq_false q1]
    go_enter Tryz.func41, Tryz.ntmps41
    go_upto_region 1 with fail
    refine region_in (IBox w (.string ⟨nm.toArray⟩) (.int .u32 (a : Nat)) (.int .i64 n) (.int .i64 mtu) (.int .i64 rpf)) (by kernel_rfl) (by kernel_rfl) HD.out ?_
    repeat (first
      | go_big_quiet_skip
      | (go_big_quiet_want; first
          | ((with_reducible refine load_one w.heap.size 0 ?_ (fun p => p.property.d0) Tryz.isAgg9 ?_); rfl; simp only [Act.put, List.setIfInBounds_toArray, List.set_cons_zero, List.set_cons_succ]; go_big_quiet_on)
          | ((with_reducible refine load_one w.heap.size 1 ?_ (fun p => p.property.d1) Tryz.isAgg41 ?_); rfl; simp only [Act.put, List.setIfInBounds_toArray, List.set_cons_zero, List.set_cons_succ]; go_big_quiet_on)
          | ((with_reducible refine load_one w.heap.size 2 ?_ (fun p => p.property.d2) Tryz.isAgg3 ?_); rfl; simp only [Act.put, List.setIfInBounds_toArray, List.set_cons_zero, List.set_cons_succ]; go_big_quiet_on)
          | ((with_reducible refine load_one w.heap.size 3 ?_ (fun p => p.property.d3) Tryz.isAgg3 ?_); rfl; simp only [Act.put, List.setIfInBounds_toArray, List.set_cons_zero, List.set_cons_succ]; go_big_quiet_on)
          | ((with_reducible refine load_one w.heap.size 4 ?_ (fun p => p.property.d4) Tryz.isAgg3 ?_); rfl; simp only [Act.put, List.setIfInBounds_toArray, List.set_cons_zero, List.set_cons_succ]; go_big_quiet_on)
          | (go_big_quiet_op; first
            | go_big_quiet_on
            | ((refine ⟨_, fun _ _ => rfl, ?_⟩); go_big_quiet_on)
            | (apply Exists.intro; (refine ⟨fun W hW => (KN.out W).mono ?_, ?_⟩); (rintro e w1 ⟨rfl, hb1⟩; exact ⟨rfl, i_keep hb1 hW⟩); go_big_quiet_on)
            | (apply Exists.intro; (refine ⟨fun W hW => (KC.out W).mono ?_, ?_⟩); (rintro e w1 ⟨rfl, rfl⟩; exact ⟨rfl, hW⟩); go_big_quiet_on))))
    refine wpQuiet_nil ?_
    rintro _ ⟨⟨w2, h2⟩, rfl⟩
    have HB := Lib.hid h2.low
    clear h2
    go_wp2_with fail
    go_ret
    exact ⟨rfl, HB.out⟩
  by_cases q2 : n ≤ 32
  rotate_left
  · have qq2 := q2
    rw [decide_eq_true q1, decide_eq_false q2]
    go_enter Tryz.func41, Tryz.ntmps41
    go_upto_region 1 with fail
    refine region_in (IBox w (.string ⟨nm.toArray⟩) (.int .u32 (a : Nat)) (.int .i64 n) (.int .i64 mtu) (.int .i64 rpf)) (by kernel_rfl) (by kernel_rfl) HD.out ?_
    repeat (first
      | go_big_quiet_skip
      | (go_big_quiet_want; first
          | ((with_reducible refine load_one w.heap.size 0 ?_ (fun p => p.property.d0) Tryz.isAgg9 ?_); rfl; simp only [Act.put, List.setIfInBounds_toArray, List.set_cons_zero, List.set_cons_succ]; go_big_quiet_on)
          | ((with_reducible refine load_one w.heap.size 1 ?_ (fun p => p.property.d1) Tryz.isAgg41 ?_); rfl; simp only [Act.put, List.setIfInBounds_toArray, List.set_cons_zero, List.set_cons_succ]; go_big_quiet_on)
          | ((with_reducible refine load_one w.heap.size 2 ?_ (fun p => p.property.d2) Tryz.isAgg3 ?_); rfl; simp only [Act.put, List.setIfInBounds_toArray, List.set_cons_zero, List.set_cons_succ]; go_big_quiet_on)
          | ((with_reducible refine load_one w.heap.size 3 ?_ (fun p => p.property.d3) Tryz.isAgg3 ?_); rfl; simp only [Act.put, List.setIfInBounds_toArray, List.set_cons_zero, List.set_cons_succ]; go_big_quiet_on)
          | ((with_reducible refine load_one w.heap.size 4 ?_ (fun p => p.property.d4) Tryz.isAgg3 ?_); rfl; simp only [Act.put, List.setIfInBounds_toArray, List.set_cons_zero, List.set_cons_succ]; go_big_quiet_on)
          | (go_big_quiet_op; first
            | go_big_quiet_on
            | ((refine ⟨_, fun _ _ => rfl, ?_⟩); go_big_quiet_on)
            | (apply Exists.intro; (refine ⟨fun W hW => (KN.out W).mono ?_, ?_⟩); (rintro e w1 ⟨rfl, hb1⟩; exact ⟨rfl, i_keep hb1 hW⟩); go_big_quiet_on)
            | (apply Exists.intro; (refine ⟨fun W hW => (KC.out W).mono ?_, ?_⟩); (rintro e w1 ⟨rfl, rfl⟩; exact ⟨rfl, hW⟩); go_big_quiet_on))))
    refine wpQuiet_nil ?_
    rintro _ ⟨⟨w2, h2⟩, rfl⟩
    have HB := Lib.hid h2.low
    clear h2
    go_wp2_with fail
    go_ret
    exact ⟨rfl, HB.out⟩
  by_cases q3 : ¬ ((a : Int) / 16777216 = 0)
  rotate_left
  · have qq3 : ((a : Int) / 16777216 != 0) = false := by simpa using q3
    rw [decide_eq_true q1, decide_eq_true q2, decide_eq_false q3]
    go_enter Tryz.func41, Tryz.ntmps41
    go_upto_region 1 with fail
    refine region_in (IBox w (.string ⟨nm.toArray⟩) (.int .u32 (a : Nat)) (.int .i64 n) (.int .i64 mtu) (.int .i64 rpf)) (by kernel_rfl) (by kernel_rfl) HD.out ?_
    repeat (first
      | go_big_quiet_skip
      | (go_big_quiet_want; first
          | ((with_reducible refine load_one w.heap.size 0 ?_ (fun p => p.property.d0) Tryz.isAgg9 ?_); rfl; simp only [Act.put, List.setIfInBounds_toArray, List.set_cons_zero, List.set_cons_succ]; go_big_quiet_on)
          | ((with_reducible refine load_one w.heap.size 1 ?_ (fun p => p.property.d1) Tryz.isAgg41 ?_); rfl; simp only [Act.put, List.setIfInBounds_toArray, List.set_cons_zero, List.set_cons_succ]; go_big_quiet_on)
          | ((with_reducible refine load_one w.heap.size 2 ?_ (fun p => p.property.d2) Tryz.isAgg3 ?_); rfl; simp only [Act.put, List.setIfInBounds_toArray, List.set_cons_zero, List.set_cons_succ]; go_big_quiet_on)
          | ((with_reducible refine load_one w.heap.size 3 ?_ (fun p => p.property.d3) Tryz.isAgg3 ?_); rfl; simp only [Act.put, List.setIfInBounds_toArray, List.set_cons_zero, List.set_cons_succ]; go_big_quiet_on)
          | ((with_reducible refine load_one w.heap.size 4 ?_ (fun p => p.property.d4) Tryz.isAgg3 ?_); rfl; simp only [Act.put, List.setIfInBounds_toArray, List.set_cons_zero, List.set_cons_succ]; go_big_quiet_on)
          | (go_big_quiet_op; first
            | go_big_quiet_on
            | ((refine ⟨_, fun _ _ => rfl, ?_⟩); go_big_quiet_on)
            | (apply Exists.intro; (refine ⟨fun W hW => (KN.out W).mono ?_, ?_⟩); (rintro e w1 ⟨rfl, hb1⟩; exact ⟨rfl, i_keep hb1 hW⟩); go_big_quiet_on)
            | (apply Exists.intro; (refine ⟨fun W hW => (KC.out W).mono ?_, ?_⟩); (rintro e w1 ⟨rfl, rfl⟩; exact ⟨rfl, hW⟩); go_big_quiet_on))))
    refine wpQuiet_nil ?_
    rintro _ ⟨⟨w2, h2⟩, rfl⟩
    have HB := Lib.hid h2.low
    clear h2
    go_wp2_with fail
    go_ret
    exact ⟨rfl, HB.out⟩
  have qq3 : ((a : Int) / 16777216 != 0) = true := by simpa using q3
  cases cb with
  | true =>
    rw [decide_eq_true q1, decide_eq_true q2, decide_eq_true q3]
    go_enter Tryz.func41, Tryz.ntmps41
    go_upto_region 1 with fail
    refine region_in (IBox w (.string ⟨nm.toArray⟩) (.int .u32 (a : Nat)) (.int .i64 n) (.int .i64 mtu) (.int .i64 rpf)) (by kernel_rfl) (by kernel_rfl) HD.out ?_
    repeat (first
      | go_big_quiet_skip
      | (go_big_quiet_want; first
          | ((with_reducible refine load_one w.heap.size 0 ?_ (fun p => p.property.d0) Tryz.isAgg9 ?_); rfl; simp only [Act.put, List.setIfInBounds_toArray, List.set_cons_zero, List.set_cons_succ]; go_big_quiet_on)
          | ((with_reducible refine load_one w.heap.size 1 ?_ (fun p => p.property.d1) Tryz.isAgg41 ?_); rfl; simp only [Act.put, List.setIfInBounds_toArray, List.set_cons_zero, List.set_cons_succ]; go_big_quiet_on)
          | ((with_reducible refine load_one w.heap.size 2 ?_ (fun p => p.property.d2) Tryz.isAgg3 ?_); rfl; simp only [Act.put, List.setIfInBounds_toArray, List.set_cons_zero, List.set_cons_succ]; go_big_quiet_on)
          | ((with_reducible refine load_one w.heap.size 3 ?_ (fun p => p.property.d3) Tryz.isAgg3 ?_); rfl; simp only [Act.put, List.setIfInBounds_toArray, List.set_cons_zero, List.set_cons_succ]; go_big_quiet_on)
          | ((with_reducible refine load_one w.heap.size 4 ?_ (fun p => p.property.d4) Tryz.isAgg3 ?_); rfl; simp only [Act.put, List.setIfInBounds_toArray, List.set_cons_zero, List.set_cons_succ]; go_big_quiet_on)
          | (go_big_quiet_op; first
            | go_big_quiet_on
            | ((refine ⟨_, fun _ _ => rfl, ?_⟩); go_big_quiet_on)
            | (apply Exists.intro; (refine ⟨fun W hW => (KN.out W).mono ?_, ?_⟩); (rintro e w1 ⟨rfl, hb1⟩; exact ⟨rfl, i_keep hb1 hW⟩); go_big_quiet_on)
            | (apply Exists.intro; (refine ⟨fun W hW => (KC.out W).mono ?_, ?_⟩); (rintro e w1 ⟨rfl, rfl⟩; exact ⟨rfl, hW⟩); go_big_quiet_on))))
    refine wpQuiet_nil ?_
    rintro _ ⟨⟨w2, h2⟩, rfl⟩
    have HB := Lib.hid h2.low
    clear h2
    go_wp2_with fail
    go_ret
    exact ⟨rfl, HB.out⟩
  | false =>
  by_cases q5 : 68 ≤ mtu
  rotate_left
  · have qq5 := q5
    rw [decide_eq_true q1, decide_eq_true q2, decide_eq_true q3, decide_eq_false q5]
    go_enter Tryz.func41, Tryz.ntmps41
    go_upto_region 1 with fail
    refine region_in (IBox w (.string ⟨nm.toArray⟩) (.int .u32 (a : Nat)) (.int .i64 n) (.int .i64 mtu) (.int .i64 rpf)) (by kernel_rfl) (by kernel_rfl) HD.out ?_
    repeat (first
      | go_big_quiet_skip
      | (go_big_quiet_want; first
          | ((with_reducible refine load_one w.heap.size 0 ?_ (fun p => p.property.d0) Tryz.isAgg9 ?_); rfl; simp only [Act.put, List.setIfInBounds_toArray, List.set_cons_zero, List.set_cons_succ]; go_big_quiet_on)
          | ((with_reducible refine load_one w.heap.size 1 ?_ (fun p => p.property.d1) Tryz.isAgg41 ?_); rfl; simp only [Act.put, List.setIfInBounds_toArray, List.set_cons_zero, List.set_cons_succ]; go_big_quiet_on)
          | ((with_reducible refine load_one w.heap.size 2 ?_ (fun p => p.property.d2) Tryz.isAgg3 ?_); rfl; simp only [Act.put, List.setIfInBounds_toArray, List.set_cons_zero, List.set_cons_succ]; go_big_quiet_on)
          | ((with_reducible refine load_one w.heap.size 3 ?_ (fun p => p.property.d3) Tryz.isAgg3 ?_); rfl; simp only [Act.put, List.setIfInBounds_toArray, List.set_cons_zero, List.set_cons_succ]; go_big_quiet_on)
          | ((with_reducible refine load_one w.heap.size 4 ?_ (fun p => p.property.d4) Tryz.isAgg3 ?_); rfl; simp only [Act.put, List.setIfInBounds_toArray, List.set_cons_zero, List.set_cons_succ]; go_big_quiet_on)
          | (go_big_quiet_op; first
            | go_big_quiet_on
            | ((refine ⟨_, fun _ _ => rfl, ?_⟩); go_big_quiet_on)
            | (apply Exists.intro; (refine ⟨fun W hW => (KN.out W).mono ?_, ?_⟩); (rintro e w1 ⟨rfl, hb1⟩; exact ⟨rfl, i_keep hb1 hW⟩); go_big_quiet_on)
            | (apply Exists.intro; (refine ⟨fun W hW => (KC.out W).mono ?_, ?_⟩); (rintro e w1 ⟨rfl, rfl⟩; exact ⟨rfl, hW⟩); go_big_quiet_on))))
    refine wpQuiet_nil ?_
    rintro _ ⟨⟨w2, h2⟩, rfl⟩
    have HB := Lib.hid h2.low
    clear h2
    go_wp2_with fail
    go_ret
    exact ⟨rfl, HB.out⟩
  by_cases q6 : mtu ≤ 65535
  rotate_left
  · have qq6 := q6
    rw [decide_eq_true q1, decide_eq_true q2, decide_eq_true q3, decide_eq_true q5, decide_eq_false q6]
    go_enter Tryz.func41, Tryz.ntmps41
    go_upto_region 1 with fail
    refine region_in (IBox w (.string ⟨nm.toArray⟩) (.int .u32 (a : Nat)) (.int .i64 n) (.int .i64 mtu) (.int .i64 rpf)) (by kernel_rfl) (by kernel_rfl) HD.out ?_
    repeat (first
      | go_big_quiet_skip
      | (go_big_quiet_want; first
          | ((with_reducible refine load_one w.heap.size 0 ?_ (fun p => p.property.d0) Tryz.isAgg9 ?_); rfl; simp only [Act.put, List.setIfInBounds_toArray, List.set_cons_zero, List.set_cons_succ]; go_big_quiet_on)
          | ((with_reducible refine load_one w.heap.size 1 ?_ (fun p => p.property.d1) Tryz.isAgg41 ?_); rfl; simp only [Act.put, List.setIfInBounds_toArray, List.set_cons_zero, List.set_cons_succ]; go_big_quiet_on)
          | ((with_reducible refine load_one w.heap.size 2 ?_ (fun p => p.property.d2) Tryz.isAgg3 ?_); rfl; simp only [Act.put, List.setIfInBounds_toArray, List.set_cons_zero, List.set_cons_succ]; go_big_quiet_on)
          | ((with_reducible refine load_one w.heap.size 3 ?_ (fun p => p.property.d3) Tryz.isAgg3 ?_); rfl; simp only [Act.put, List.setIfInBounds_toArray, List.set_cons_zero, List.set_cons_succ]; go_big_quiet_on)
          | ((with_reducible refine load_one w.heap.size 4 ?_ (fun p => p.property.d4) Tryz.isAgg3 ?_); rfl; simp only [Act.put, List.setIfInBounds_toArray, List.set_cons_zero, List.set_cons_succ]; go_big_quiet_on)
          | (go_big_quiet_op; first
            | go_big_quiet_on
            | ((refine ⟨_, fun _ _ => rfl, ?_⟩); go_big_quiet_on)
            | (apply Exists.intro; (refine ⟨fun W hW => (KN.out W).mono ?_, ?_⟩); (rintro e w1 ⟨rfl, hb1⟩; exact ⟨rfl, i_keep hb1 hW⟩); go_big_quiet_on)
            | (apply Exists.intro; (refine ⟨fun W hW => (KC.out W).mono ?_, ?_⟩); (rintro e w1 ⟨rfl, rfl⟩; exact ⟨rfl, hW⟩); go_big_quiet_on))))
    refine wpQuiet_nil ?_
    rintro _ ⟨⟨w2, h2⟩, rfl⟩
    have HB := Lib.hid h2.low
    clear h2
    go_wp2_with fail
    go_ret
    exact ⟨rfl, HB.out⟩
  by_cases q7 : 0 ≤ rpf
  rotate_left
  · have qq7 := q7
    rw [decide_eq_true q1, decide_eq_true q2, decide_eq_true q3, decide_eq_true q5, decide_eq_true q6, decide_eq_false q7]
    go_enter Tryz.func41, Tryz.ntmps41
    go_upto_region 1 with fail
    refine region_in (IBox w (.string ⟨nm.toArray⟩) (.int .u32 (a : Nat)) (.int .i64 n) (.int .i64 mtu) (.int .i64 rpf)) (by kernel_rfl) (by kernel_rfl) HD.out ?_
    repeat (first
      | go_big_quiet_skip
      | (go_big_quiet_want; first
          | ((with_reducible refine load_one w.heap.size 0 ?_ (fun p => p.property.d0) Tryz.isAgg9 ?_); rfl; simp only [Act.put, List.setIfInBounds_toArray, List.set_cons_zero, List.set_cons_succ]; go_big_quiet_on)
          | ((with_reducible refine load_one w.heap.size 1 ?_ (fun p => p.property.d1) Tryz.isAgg41 ?_); rfl; simp only [Act.put, List.setIfInBounds_toArray, List.set_cons_zero, List.set_cons_succ]; go_big_quiet_on)
          | ((with_reducible refine load_one w.heap.size 2 ?_ (fun p => p.property.d2) Tryz.isAgg3 ?_); rfl; simp only [Act.put, List.setIfInBounds_toArray, List.set_cons_zero, List.set_cons_succ]; go_big_quiet_on)
          | ((with_reducible refine load_one w.heap.size 3 ?_ (fun p => p.property.d3) Tryz.isAgg3 ?_); rfl; simp only [Act.put, List.setIfInBounds_toArray, List.set_cons_zero, List.set_cons_succ]; go_big_quiet_on)
          | ((with_reducible refine load_one w.heap.size 4 ?_ (fun p => p.property.d4) Tryz.isAgg3 ?_); rfl; simp only [Act.put, List.setIfInBounds_toArray, List.set_cons_zero, List.set_cons_succ]; go_big_quiet_on)
          | (go_big_quiet_op; first
            | go_big_quiet_on
            | ((refine ⟨_, fun _ _ => rfl, ?_⟩); go_big_quiet_on)
            | (apply Exists.intro; (refine ⟨fun W hW => (KN.out W).mono ?_, ?_⟩); (rintro e w1 ⟨rfl, hb1⟩; exact ⟨rfl, i_keep hb1 hW⟩); go_big_quiet_on)
            | (apply Exists.intro; (refine ⟨fun W hW => (KC.out W).mono ?_, ?_⟩); (rintro e w1 ⟨rfl, rfl⟩; exact ⟨rfl, hW⟩); go_big_quiet_on))))
    refine wpQuiet_nil ?_
    rintro _ ⟨⟨w2, h2⟩, rfl⟩
    have HB := Lib.hid h2.low
    clear h2
    go_wp2_with fail
    go_ret
    exact ⟨rfl, HB.out⟩
  rw [decide_eq_true q1, decide_eq_true q2, decide_eq_true q3, decide_eq_true q5, decide_eq_true q6, decide_eq_true q7, show decide (rpf ≤ 4) = decide (rpf < 5) by rw [decide_eq_decide]; omega]
  go_enter Tryz.func41, Tryz.ntmps41
  go_upto_region 1 with fail
  have DD := HD.out.conj
  first
    | (go_region_held3 (fun W => W.cell? ⟨w.heap.size, 0, none⟩ = some (.string ⟨nm.toArray⟩) ∧ W.cell? ⟨w.heap.size, 1, none⟩ = some (.int .u32 (a : Nat)) ∧ W.cell? ⟨w.heap.size, 2, none⟩ = some (.int .i64 n) ∧ W.cell? ⟨w.heap.size, 3, none⟩ = some (.int .i64 mtu) ∧ W.cell? ⟨w.heap.size, 4, none⟩ = some (.int .i64 rpf) ∧ w.heap.size < W.heap.size ∧ Below w.heap.size w W) (first | exact DD | exact i_keep' (by assumption) (by assumption) | exact i_keep' (bnew _ _) (by assumption)) (first
        | (go_at_call 63; (with_reducible refine (KN.out _).mono ?_); rintro e v1 ⟨rfl, hb1⟩)
        | (go_at_call 89; (with_reducible refine (KC.out _).mono ?_); rintro e v2 ⟨rfl, rfl⟩)
        | (go_at_call 77; (with_reducible refine (KM.out _).mono ?_); rintro e v3 ⟨rfl, rfl⟩)))
    | fail "held"
  all_goals go_wp2_with fail
  all_goals go_ret
  all_goals exact ⟨rfl, i_below (by assumption)⟩
end Go.Proofs.YtnmbbnhgoedjgaaGreatDoor.Cf7

