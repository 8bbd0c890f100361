/- castellanref20.readIface. -/
import Derived.Test.YtnmbbnhgoedjgaaGreatDoorPCg7
import Derived.Test.YtnmbbnhgoedjgaaGreatDoorPCh9
import Derived.Test.YtnmbbnhgoedjgaaGreatDoorPCh5
import Derived.Test.YtnmbbnhgoedjgaaGreatDoorPCgR
import Derived.Test.YtnmbbnhgoedjgaaGreatDoorPHr
import Derived.Deep.RegionLaw
namespace Go.Proofs.YtnmbbnhgoedjgaaGreatDoor.Ch6
open Go Go.RowKit Go.Proofs.YtnmbbnhgoedjgaaGreatDoor.Ad0 Go.Proofs.YtnmbbnhgoedjgaaGreatDoor.Ad1 Go.Proofs.YtnmbbnhgoedjgaaGreatDoor.St0 Go.Proofs.YtnmbbnhgoedjgaaGreatDoor.St2 Go.Proofs.YtnmbbnhgoedjgaaGreatDoor.St3 Go.Proofs.YtnmbbnhgoedjgaaGreatDoor.St5 Go.Proofs.YtnmbbnhgoedjgaaGreatDoor.St9 Go.Proofs.YtnmbbnhgoedjgaaGreatDoor.Ru0 Go.Proofs.YtnmbbnhgoedjgaaGreatDoor.Ru6 Go.Proofs.YtnmbbnhgoedjgaaGreatDoor.RuB Go.Proofs.YtnmbbnhgoedjgaaGreatDoor.RuC Go.Proofs.YtnmbbnhgoedjgaaGreatDoor.Cf0 Go.Proofs.YtnmbbnhgoedjgaaGreatDoor.Cf4 Go.Proofs.YtnmbbnhgoedjgaaGreatDoor.Cg0 Go.Proofs.YtnmbbnhgoedjgaaGreatDoor.Ch3 Go.Proofs.YtnmbbnhgoedjgaaGreatDoor.Ch7 Go.Proofs.YtnmbbnhgoedjgaaGreatDoor.Ch1 Go.Proofs.YtnmbbnhgoedjgaaGreatDoor.CgB Go.Proofs.YtnmbbnhgoedjgaaGreatDoor.Ch8 Go.Proofs.YtnmbbnhgoedjgaaGreatDoor.Cg6 Go.Proofs.YtnmbbnhgoedjgaaGreatDoor.Hr
set_option linter.unusedVariables false
set_option linter.unusedSimpArgs false
/-- What readIface answers: an interface, though it be none. -/
def IfaceGot (W : World) (ws : List Wd) (e : Ending) (w' : World) : Prop := ∃ y : IfaceM, e = .returned (.tuple #[.agg (ifL y).toArray, .bool (ifaceOf ws).isSome]) ∧ (∀ x, ifaceOf ws = some x → y = x) ∧ Below W.heap.size W w'
theorem put5 {w : World} {g : Nat} {a0 a1 a2 a3 a4 : Value} {T : TypeId} (h : w.heap[g]? = some (.cells #[a0, a1, a2, a3, a4] T (0, 0))) (b0 b1 b2 b3 b4 : Value) :
    (((((w.setCell ⟨g, 0, none⟩ b0).setCell ⟨g, 1, none⟩ b1).setCell ⟨g, 2, none⟩ b2).setCell ⟨g, 3, none⟩ b3).setCell ⟨g, 4, none⟩ b4).heap[g]? = some (.cells #[b0, b1, b2, b3, b4] T (0, 0)) := by
  have h := set_at (k := 4) (v := b4) (set_at (k := 3) (v := b3) (set_at (k := 2) (v := b2) (set_at (k := 1) (v := b1) (set_at (k := 0) (v := b0) h))))
  have e : (((((#[a0, a1, a2, a3, a4] : Array Value).setIfInBounds 0 b0).setIfInBounds 1 b1).setIfInBounds 2 b2).setIfInBounds 3 b3).setIfInBounds 4 b4 = #[b0, b1, b2, b3, b4] := rfl
  rw [e] at h
  exact h
theorem drew_heap (w : World) : w.drew.heap = w.heap := rfl
theorem put5d {w : World} {g : Nat} {a0 a1 a2 a3 a4 : Value} {T : TypeId} (h : w.heap[g]? = some (.cells #[a0, a1, a2, a3, a4] T (0, 0))) (b0 b1 b2 b3 b4 : Value) :
    (((((w.setCell ⟨g, 0, none⟩ b0).setCell ⟨g, 1, none⟩ b1).setCell ⟨g, 2, none⟩ b2).setCell ⟨g, 3, none⟩ b3).setCell ⟨g, 4, none⟩ b4).drew.heap[g]? = some (.cells #[b0, b1, b2, b3, b4] T (0, 0)) := by
  rw [drew_heap]
  exact put5 h b0 b1 b2 b3 b4
theorem low5 {B g : Nat} {w0 w : World} (h : Below B w0 w) (hg : B ≤ g) (b0 b1 b2 b3 b4 : Value) :
    Below B w0 (((((w.setCell ⟨g, 0, none⟩ b0).setCell ⟨g, 1, none⟩ b1).setCell ⟨g, 2, none⟩ b2).setCell ⟨g, 3, none⟩ b3).setCell ⟨g, 4, none⟩ b4) :=
  set_b (set_b (set_b (set_b (set_b h hg) hg) hg) hg) hg
theorem cells5 {w : World} {g : Nat} {a0 a1 a2 a3 a4 : Value} {T : TypeId} (h : w.heap[g]? = some (.cells #[a0, a1, a2, a3, a4] T (0, 0))) :
    w.cell? ⟨g, 0, none⟩ = some a0 ∧ w.cell? ⟨g, 1, none⟩ = some a1 ∧ w.cell? ⟨g, 2, none⟩ = some a2 ∧ w.cell? ⟨g, 3, none⟩ = some a3 ∧ w.cell? ⟨g, 4, none⟩ = some a4 :=
  ⟨(cell_of_row _ _ 0 _ _ _ h).trans rfl, (cell_of_row _ _ 1 _ _ _ h).trans rfl, (cell_of_row _ _ 2 _ _ _ h).trans rfl, (cell_of_row _ _ 3 _ _ _ h).trans rfl, (cell_of_row _ _ 4 _ _ _ h).trans rfl⟩
theorem iface_got {W w' : World} {ws : List Wd} {e : Ending} {b : Bool} (y : IfaceM) (h : ifaceOf ws = if b then some y else none) (he : e = .returned (.tuple #[.agg (ifL y).toArray, .bool b])) (hb : Below W.heap.size W w') : IfaceGot W ws e w' := by
  cases b with
  | true =>
    have h : ifaceOf ws = some y := h
    exact ⟨y, by rw [he, h]; rfl, fun x hx => by rw [h] at hx; exact Option.some.inj hx, hb⟩
  | false =>
    have h : ifaceOf ws = none := h
    exact ⟨y, by rw [he, h]; rfl, fun x hx => by (rw [h] at hx; cases hx), hb⟩
set_option maxRecDepth 20000 in
set_option maxHeartbeats 8000000 in
theorem readIface_ok (a nm ad n md : Wd) (b o cap : Nat) (W : World) (hbk : b < W.heap.size) (hcap : (7 : Int) ≤ cap)
    (hr : W.rangeAt b o ([a, nm, ad, wMtu, n, wRpf, md].map fun w => Value.string ⟨w.toArray⟩)) (h1 : ad.length ≤ 4294967295) (h2 : n.length ≤ 9223372036854775807) (h3 : nm.length ≤ 9223372036854775807) :
    Calls Tryz.prog 66 #[.slice (some ⟨b, o, none⟩) 7 cap] W fun e w' => IfaceGot W [a, nm, ad, wMtu, n, wRpf, md] e w' := by
  have KP := Lib.hid (fun W' => rpref_any ⟨ad.toArray⟩ (by simpa [ByteArray.size] using h1) W')
  have KN := Lib.hid (fun W' => num_any ⟨n.toArray⟩ (by simpa [ByteArray.size] using h2) 65535 W')
  have KM := Lib.hid (fun W' => rmodeof_any md W')
  have HR := Lib.hid (range_below hr (bnew W (.cells #[.string ⟨#[]⟩, .int .u32 0, .int .i64 0, .int .i64 0, .int .i64 0] 45)) hbk)
  have HRb := Lib.hid (heap_alloc_new W (.cells #[.string ⟨#[]⟩, .int .u32 0, .int .i64 0, .int .i64 0, .int .i64 0] 45))
  have q3 := HR.out 3 _ rfl
  have q5 := HR.out 5 _ rfl
  have q2 := HR.out 2 _ rfl
  go_enter Tryz.func66, Tryz.ntmps66
  go_upto_region 3 with fail
  obtain ⟨A, L, E, hv, hok, hE⟩ : ∃ (A : Nat) (L E : Int), prefV (prefL ad) = .tuple #[.agg #[.int .u32 (A : Nat), .int .i64 L], .int .i64 E] ∧ Pfx.ok ⟨A, L⟩ ∧ ((E = 0 ∧ prefL ad = some ⟨A, L⟩) ∨ ((E == 0) = false ∧ prefL ad = none)) := by
    cases hp : prefL ad with
    | none => exact ⟨0, 0, 2, rfl, (by show (0 : Nat) < 4294967296; decide), .inr ⟨by decide, rfl⟩⟩
    | some p => exact ⟨p.addr, p.len, 0, rfl, pref_key ad p hp, .inl ⟨rfl, rfl⟩⟩
  have HE := Lib.hid hE
  have e0 : (⟨ad.toArray⟩ : ByteArray).data.toList = ad := rfl
  rw [e0, hv] at KP
  clear e0 hv q3 q5 hE
  have HB := Lib.hid (bnew W (.cells #[.string ⟨#[]⟩, .int .u32 0, .int .i64 0, .int .i64 0, .int .i64 0] 45))
  have hbk1 : b < W.heap.size + 1 := by omega
  go_upto_region 4 with (go_at_call 67; (with_reducible refine (KP.out _).mono ?_); rintro e w1 ⟨rfl, hb1⟩; have HBs := Lib.hid hb1; have HRb := row_step HRb hb1; have HB := Lib.hid (bstep HB.out hb1 HB.out.size); clear hb1)
  obtain ⟨N, B, hw, hB⟩ : ∃ (N : Int) (B : Bool), numV n 65535 = .tuple #[.int .i64 N, .bool B] ∧ ((B = true ∧ okNum 9 n = true ∧ N = (dv n : Nat)) ∨ (B = false ∧ (okNum 9 n = false ∨ 65535 < dv n))) := by
    unfold numV
    cases hq : okNum 9 n with
    | false => exact ⟨0, false, rfl, .inr ⟨rfl, .inl rfl⟩⟩
    | true =>
      by_cases hm : dv n ≤ 65535
      · exact ⟨(dv n : Nat), true, by simp; omega, .inl ⟨rfl, rfl, rfl⟩⟩
      · exact ⟨(dv n : Nat), false, by simp; omega, .inr ⟨rfl, .inr (by omega)⟩⟩
  have HBn := Lib.hid hB
  have e1 : (⟨n.toArray⟩ : ByteArray).data.toList = n := rfl
  rw [hw] at KN
  clear e1 hw hB
  have HR := Lib.hid (range_below HR.out HBs.out (by simpa using hbk1))
  have HR := Lib.hid (range_below HR.out (bnew w1 (.cells #[.int .u32 (A : Nat), .int .i64 L] 43)) (by have := HBs.out.size; simp at this; omega))
  have HRb := row_step HRb (bnew w1 (.cells #[.int .u32 (A : Nat), .int .i64 L] 43))
  have HB := Lib.hid (HB.out.alloc HB.out.size (.cells #[.int .u32 (A : Nat), .int .i64 L] 43))
  have hrb := heap_alloc_new w1 (.cells #[.int .u32 (A : Nat), .int .i64 L] 43)
  have q4 := HR.out 4 _ rfl
  have HQr := Lib.hid hrb
  clear hrb
  go_upto_region 5 with (go_at_call 65; (with_reducible refine (KN.out _).mono ?_); rintro e w2 ⟨rfl, rfl⟩)
  have q6 := HR.out 6 _ rfl
  go_upto_region 6 with (go_at_call 114; (with_reducible refine (KM.out _).mono ?_); rintro e w3 ⟨rfl, hb3⟩; have HR := Lib.hid (range_below HR.out hb3 (by have := HBs.out.size; simp at this ⊢; omega)); have HB := Lib.hid (bstep HB.out hb3 HB.out.size); have HRb := row_step HRb hb3; have HQr := row_step HQr hb3; clear hb3)
  clear q4 q6
  obtain ⟨M, hM⟩ : ∃ M : Int, M = (((modeOf md).getD 0 : Nat) : Int) := ⟨_, rfl⟩
  obtain ⟨bm, hbm⟩ : ∃ bm : Bool, bm = (modeOf md).isSome := ⟨_, rfl⟩
  rw [← hM, ← hbm]
  have HM := Lib.hid hM
  have HBm := Lib.hid hbm
  clear hM hbm
  go_cut [10] (fun s10 wc => ∃ xb, s10 = .pointer (some ⟨xb, 0, none⟩) ∧ wc.heap[xb]? = some (.cells #[.string ⟨nm.toArray⟩, .int .u32 (A : Nat), .int .i64 L, .int .i64 N, .int .i64 M] 45 (0, 0)) ∧ wc.heap[W.heap.size]? = some (.cells #[.string ⟨#[]⟩, .int .u32 0, .int .i64 0, .int .i64 0, .int .i64 0] 45 (0, 0)) ∧ W.heap.size < xb ∧ Below W.heap.size W wc)
  case first =>
    have q1 := HR.out 1 _ rfl
    have g0 := cell_of_row _ _ 0 _ _ _ HQr.out
    have g1 := cell_of_row _ _ 1 _ _ _ HQr.out
    have l0 := World.block_lt_of_cell? _ _ g0
    have l1 := World.block_lt_of_cell? _ _ q1
    go_region
    all_goals (go_wp2_with fail; go_meet)
    all_goals (case rel => exact ⟨_, rfl, heap_alloc_new _ _, (row_step HRb (bnew _ _)).out, blk_lt' HRb.out, (HB.out.alloc HB.out.size _).drew⟩)
  case rest =>
  obtain ⟨xb, rfl, hx, hz, hlt, hb⟩ := hcut
  have HX := Lib.hid hx
  have HZr := Lib.hid hz
  have HB := Lib.hid hb
  clear hx hz hb HRb HQr HR
  go_upto_region 7 with fail
  have x0 : wc.cell? ⟨xb, 0, none⟩ = some (.string ⟨nm.toArray⟩) := (cell_of_row _ _ 0 _ _ _ HX.out).trans rfl
  have x1 : wc.cell? ⟨xb, 1, none⟩ = some (.int .u32 (A : Nat)) := (cell_of_row _ _ 1 _ _ _ HX.out).trans rfl
  have x2 : wc.cell? ⟨xb, 2, none⟩ = some (.int .i64 L) := (cell_of_row _ _ 2 _ _ _ HX.out).trans rfl
  have x3 : wc.cell? ⟨xb, 3, none⟩ = some (.int .i64 N) := (cell_of_row _ _ 3 _ _ _ HX.out).trans rfl
  have x4 : wc.cell? ⟨xb, 4, none⟩ = some (.int .i64 M) := (cell_of_row _ _ 4 _ _ _ HX.out).trans rfl
  have z0 : wc.cell? ⟨W.heap.size, 0, none⟩ = some (.string ⟨#[]⟩) := (cell_of_row _ _ 0 _ _ _ HZr.out).trans rfl
  have y0 : wc.frozen? ⟨W.heap.size, 0, none⟩ = false := frozen_of_row _ _ 0 _ _ HZr.out
  have z1 : wc.cell? ⟨W.heap.size, 1, none⟩ = some (.int .u32 0) := (cell_of_row _ _ 1 _ _ _ HZr.out).trans rfl
  have y1 : wc.frozen? ⟨W.heap.size, 1, none⟩ = false := frozen_of_row _ _ 1 _ _ HZr.out
  have z2 : wc.cell? ⟨W.heap.size, 2, none⟩ = some (.int .i64 0) := (cell_of_row _ _ 2 _ _ _ HZr.out).trans rfl
  have y2 : wc.frozen? ⟨W.heap.size, 2, none⟩ = false := frozen_of_row _ _ 2 _ _ HZr.out
  have z3 : wc.cell? ⟨W.heap.size, 3, none⟩ = some (.int .i64 0) := (cell_of_row _ _ 3 _ _ _ HZr.out).trans rfl
  have y3 : wc.frozen? ⟨W.heap.size, 3, none⟩ = false := frozen_of_row _ _ 3 _ _ HZr.out
  have z4 : wc.cell? ⟨W.heap.size, 4, none⟩ = some (.int .i64 0) := (cell_of_row _ _ 4 _ _ _ HZr.out).trans rfl
  have y4 : wc.frozen? ⟨W.heap.size, 4, none⟩ = false := frozen_of_row _ _ 4 _ _ HZr.out
  have HN5 := Lib.hid hlt
  have hne : ¬ (W.heap.size = xb) := by omega
  clear hlt
  rcases HE.out with ⟨rfl, hp⟩ | ⟨hE, hp⟩
  rotate_left
  · have HZ := Lib.hid (iface_no a nm ad n md (.inl hp))
    clear hp
    refine wp_region_held_drew (S := (fun w' => w'.cell? ⟨xb, 0, none⟩ = some (.string ⟨nm.toArray⟩) ∧ w'.cell? ⟨xb, 1, none⟩ = some (.int .u32 (A : Nat)) ∧ w'.cell? ⟨xb, 2, none⟩ = some (.int .i64 L) ∧ w'.cell? ⟨xb, 3, none⟩ = some (.int .i64 N) ∧ w'.cell? ⟨xb, 4, none⟩ = some (.int .i64 M))) (by kernel_rfl) ?_ (fun hHeld => ?_)
    · (try dsimp only)
      exact cells5 HX.out
    refine take_at 0 rfl (by kernel_rfl) (by kernel_rfl) (by kernel_rfl) (fun _ _ _ h => h) (by rfl) (by assumption) (v := ?_) ?_ ?_
    rotate_left
    · (intro w hSw; (try dsimp only at hSw); go_simp <;> with_reducible rfl)
    (try simp only [Act.put, List.setIfInBounds_toArray, List.set_cons_zero, List.set_cons_succ])
    refine take_at 1 rfl (by kernel_rfl) (by kernel_rfl) (by kernel_rfl) (fun _ _ _ h => h) (by rfl) (by assumption) (v := ?_) ?_ ?_
    rotate_left
    · (intro w hSw; (try dsimp only at hSw); go_simp <;> with_reducible rfl)
    (try simp only [Act.put, List.setIfInBounds_toArray, List.set_cons_zero, List.set_cons_succ])
    refine take_at 2 rfl (by kernel_rfl) (by kernel_rfl) (by kernel_rfl) (fun _ _ _ h => h) (by rfl) (by assumption) (v := ?_) ?_ ?_
    rotate_left
    · (intro w hSw; (try dsimp only at hSw); go_simp <;> with_reducible rfl)
    (try simp only [Act.put, List.setIfInBounds_toArray, List.set_cons_zero, List.set_cons_succ])
    refine take_at 3 rfl (by kernel_rfl) (by kernel_rfl) (by kernel_rfl) (fun _ _ _ h => h) (by rfl) (by assumption) (v := ?_) ?_ ?_
    rotate_left
    · (intro w hSw; (try dsimp only at hSw); go_simp <;> with_reducible rfl)
    (try simp only [Act.put, List.setIfInBounds_toArray, List.set_cons_zero, List.set_cons_succ])
    refine skip_at 4 rfl (by kernel_rfl) (by kernel_rfl) (by kernel_rfl) (fun _ _ _ h => h) (by rfl) (by assumption) ?_
    (try simp only [Act.put, List.setIfInBounds_toArray, List.set_cons_zero, List.set_cons_succ])
    refine take_at 5 rfl (by kernel_rfl) (by kernel_rfl) (by kernel_rfl) (fun _ _ _ h => h) (by rfl) (by assumption) (v := ?_) ?_ ?_
    rotate_left
    · (intro w hSw; (try dsimp only at hSw); go_simp <;> with_reducible rfl)
    (try simp only [Act.put, List.setIfInBounds_toArray, List.set_cons_zero, List.set_cons_succ])
    refine take_at 6 rfl (by kernel_rfl) (by kernel_rfl) (by kernel_rfl) (fun _ _ _ h => h) (by rfl) (by assumption) (v := ?_) ?_ ?_
    rotate_left
    · (intro w hSw; (try dsimp only at hSw); go_simp <;> with_reducible rfl)
    (try simp only [Act.put, List.setIfInBounds_toArray, List.set_cons_zero, List.set_cons_succ])
    refine skip_at 7 rfl (by kernel_rfl) (by kernel_rfl) (by kernel_rfl) (fun _ _ _ h => h) (by rfl) (by assumption) ?_
    (try simp only [Act.put, List.setIfInBounds_toArray, List.set_cons_zero, List.set_cons_succ])
    refine take_at 8 rfl (by kernel_rfl) (by kernel_rfl) (by kernel_rfl) (fun _ _ _ h => h) (by rfl) (by assumption) (v := ?_) ?_ ?_
    rotate_left
    · (intro w hSw; (try dsimp only at hSw); go_simp <;> with_reducible rfl)
    (try simp only [Act.put, List.setIfInBounds_toArray, List.set_cons_zero, List.set_cons_succ])
    refine take_at 9 rfl (by kernel_rfl) (by kernel_rfl) (by kernel_rfl) (fun _ _ _ h => h) (by rfl) (by assumption) (v := ?_) ?_ ?_
    rotate_left
    · (intro w hSw; (try dsimp only at hSw); go_simp <;> with_reducible rfl)
    (try simp only [Act.put, List.setIfInBounds_toArray, List.set_cons_zero, List.set_cons_succ])
    refine skip_at 10 rfl (by kernel_rfl) (by kernel_rfl) (by kernel_rfl) (fun _ _ _ h => h) (by rfl) (by assumption) ?_
    (try simp only [Act.put, List.setIfInBounds_toArray, List.set_cons_zero, List.set_cons_succ])
    refine skip_at 11 rfl (by kernel_rfl) (by kernel_rfl) (by kernel_rfl) (fun _ _ _ h => h) (by rfl) (by assumption) ?_
    (try simp only [Act.put, List.setIfInBounds_toArray, List.set_cons_zero, List.set_cons_succ])
    refine take_at 12 rfl (by kernel_rfl) (by kernel_rfl) (by kernel_rfl) (fun _ _ _ h => h) (by rfl) (by assumption) (v := ?_) ?_ ?_
    rotate_left
    · (intro w hSw; (try dsimp only at hSw); go_simp <;> with_reducible rfl)
    (try simp only [Act.put, List.setIfInBounds_toArray, List.set_cons_zero, List.set_cons_succ])
    refine step_at 13 rfl (by kernel_rfl) (fun K hK => ?_)
    go_simp
    refine hK.out _ _ ?_ (fun hHeld1 => ?_)
    · (try dsimp only)
      first | go_keep | assumption
    clear hK K hHeld
    have hHeld := hHeld1
    clear hHeld1
    refine take_at 14 rfl (by kernel_rfl) (by kernel_rfl) (by kernel_rfl) (fun _ _ _ h => h) (by rfl) (by assumption) (v := ?_) ?_ ?_
    rotate_left
    · (intro w hSw; (try dsimp only at hSw); go_simp <;> with_reducible rfl)
    (try simp only [Act.put, List.setIfInBounds_toArray, List.set_cons_zero, List.set_cons_succ])
    refine wpAnyH_done (by kernel_rfl) ?_ _
    all_goals go_wp2_with fail
    all_goals exact box_ret (put5d HZr.out _ _ _ _ _) rfl rfl rfl Tryz.underlying45 (by kernel_rfl) rfl (iface_got ⟨nm, ⟨A, L⟩, N, M⟩ (by first | exact HZ.out | (rw [HZ.out]; rfl)) rfl (low5 HB.out (Nat.le_refl _) _ _ _ _ _).drew)
  rcases HBn.out with ⟨rfl, h9, hN⟩ | ⟨rfl, h9⟩
  rotate_left
  · have HZ := Lib.hid (iface_no a nm ad n md (h9.elim (fun h => .inr (.inr (.inl h))) (fun h => .inr (.inr (.inr h)))))
    clear hp h9
    refine wp_region_held_drew (S := (fun w' => w'.cell? ⟨xb, 0, none⟩ = some (.string ⟨nm.toArray⟩) ∧ w'.cell? ⟨xb, 1, none⟩ = some (.int .u32 (A : Nat)) ∧ w'.cell? ⟨xb, 2, none⟩ = some (.int .i64 L) ∧ w'.cell? ⟨xb, 3, none⟩ = some (.int .i64 N) ∧ w'.cell? ⟨xb, 4, none⟩ = some (.int .i64 M))) (by kernel_rfl) ?_ (fun hHeld => ?_)
    · (try dsimp only)
      exact cells5 HX.out
    refine take_at 0 rfl (by kernel_rfl) (by kernel_rfl) (by kernel_rfl) (fun _ _ _ h => h) (by rfl) (by assumption) (v := ?_) ?_ ?_
    rotate_left
    · (intro w hSw; (try dsimp only at hSw); go_simp <;> with_reducible rfl)
    (try simp only [Act.put, List.setIfInBounds_toArray, List.set_cons_zero, List.set_cons_succ])
    refine take_at 1 rfl (by kernel_rfl) (by kernel_rfl) (by kernel_rfl) (fun _ _ _ h => h) (by rfl) (by assumption) (v := ?_) ?_ ?_
    rotate_left
    · (intro w hSw; (try dsimp only at hSw); go_simp <;> with_reducible rfl)
    (try simp only [Act.put, List.setIfInBounds_toArray, List.set_cons_zero, List.set_cons_succ])
    refine take_at 2 rfl (by kernel_rfl) (by kernel_rfl) (by kernel_rfl) (fun _ _ _ h => h) (by rfl) (by assumption) (v := ?_) ?_ ?_
    rotate_left
    · (intro w hSw; (try dsimp only at hSw); go_simp <;> with_reducible rfl)
    (try simp only [Act.put, List.setIfInBounds_toArray, List.set_cons_zero, List.set_cons_succ])
    refine take_at 3 rfl (by kernel_rfl) (by kernel_rfl) (by kernel_rfl) (fun _ _ _ h => h) (by rfl) (by assumption) (v := ?_) ?_ ?_
    rotate_left
    · (intro w hSw; (try dsimp only at hSw); go_simp <;> with_reducible rfl)
    (try simp only [Act.put, List.setIfInBounds_toArray, List.set_cons_zero, List.set_cons_succ])
    refine take_at 4 rfl (by kernel_rfl) (by kernel_rfl) (by kernel_rfl) (fun _ _ _ h => h) (by rfl) (by assumption) (v := ?_) ?_ ?_
    rotate_left
    · (intro w hSw; (try dsimp only at hSw); go_simp <;> with_reducible rfl)
    (try simp only [Act.put, List.setIfInBounds_toArray, List.set_cons_zero, List.set_cons_succ])
    refine take_at 5 rfl (by kernel_rfl) (by kernel_rfl) (by kernel_rfl) (fun _ _ _ h => h) (by rfl) (by assumption) (v := ?_) ?_ ?_
    rotate_left
    · (intro w hSw; (try dsimp only at hSw); go_simp <;> with_reducible rfl)
    (try simp only [Act.put, List.setIfInBounds_toArray, List.set_cons_zero, List.set_cons_succ])
    refine take_at 6 rfl (by kernel_rfl) (by kernel_rfl) (by kernel_rfl) (fun _ _ _ h => h) (by rfl) (by assumption) (v := ?_) ?_ ?_
    rotate_left
    · (intro w hSw; (try dsimp only at hSw); go_simp <;> with_reducible rfl)
    (try simp only [Act.put, List.setIfInBounds_toArray, List.set_cons_zero, List.set_cons_succ])
    refine skip_at 7 rfl (by kernel_rfl) (by kernel_rfl) (by kernel_rfl) (fun _ _ _ h => h) (by rfl) (by assumption) ?_
    (try simp only [Act.put, List.setIfInBounds_toArray, List.set_cons_zero, List.set_cons_succ])
    refine take_at 8 rfl (by kernel_rfl) (by kernel_rfl) (by kernel_rfl) (fun _ _ _ h => h) (by rfl) (by assumption) (v := ?_) ?_ ?_
    rotate_left
    · (intro w hSw; (try dsimp only at hSw); go_simp <;> with_reducible rfl)
    (try simp only [Act.put, List.setIfInBounds_toArray, List.set_cons_zero, List.set_cons_succ])
    refine take_at 9 rfl (by kernel_rfl) (by kernel_rfl) (by kernel_rfl) (fun _ _ _ h => h) (by rfl) (by assumption) (v := ?_) ?_ ?_
    rotate_left
    · (intro w hSw; (try dsimp only at hSw); go_simp <;> with_reducible rfl)
    (try simp only [Act.put, List.setIfInBounds_toArray, List.set_cons_zero, List.set_cons_succ])
    refine skip_at 10 rfl (by kernel_rfl) (by kernel_rfl) (by kernel_rfl) (fun _ _ _ h => h) (by rfl) (by assumption) ?_
    (try simp only [Act.put, List.setIfInBounds_toArray, List.set_cons_zero, List.set_cons_succ])
    refine skip_at 11 rfl (by kernel_rfl) (by kernel_rfl) (by kernel_rfl) (fun _ _ _ h => h) (by rfl) (by assumption) ?_
    (try simp only [Act.put, List.setIfInBounds_toArray, List.set_cons_zero, List.set_cons_succ])
    refine take_at 12 rfl (by kernel_rfl) (by kernel_rfl) (by kernel_rfl) (fun _ _ _ h => h) (by rfl) (by assumption) (v := ?_) ?_ ?_
    rotate_left
    · (intro w hSw; (try dsimp only at hSw); go_simp <;> with_reducible rfl)
    (try simp only [Act.put, List.setIfInBounds_toArray, List.set_cons_zero, List.set_cons_succ])
    refine step_at 13 rfl (by kernel_rfl) (fun K hK => ?_)
    go_simp
    refine hK.out _ _ ?_ (fun hHeld1 => ?_)
    · (try dsimp only)
      first | go_keep | assumption
    clear hK K hHeld
    have hHeld := hHeld1
    clear hHeld1
    refine take_at 14 rfl (by kernel_rfl) (by kernel_rfl) (by kernel_rfl) (fun _ _ _ h => h) (by rfl) (by assumption) (v := ?_) ?_ ?_
    rotate_left
    · (intro w hSw; (try dsimp only at hSw); go_simp <;> with_reducible rfl)
    (try simp only [Act.put, List.setIfInBounds_toArray, List.set_cons_zero, List.set_cons_succ])
    refine wpAnyH_done (by kernel_rfl) ?_ _
    all_goals go_wp2_with fail
    all_goals exact box_ret (put5d HZr.out _ _ _ _ _) rfl rfl rfl Tryz.underlying45 (by kernel_rfl) rfl (iface_got ⟨nm, ⟨A, L⟩, N, M⟩ (by first | exact HZ.out | (rw [HZ.out]; rfl)) rfl (low5 HB.out (Nat.le_refl _) _ _ _ _ _).drew)
  cases bm with
  | false =>
    have HZ := Lib.hid (iface_no a nm ad n md (.inr (.inl (by have h := HBm.out; cases hm : modeOf md with | none => rfl | some k => rw [hm] at h; cases h))))
    clear hp h9 hN
    refine wp_region_held_drew (S := (fun w' => w'.cell? ⟨xb, 0, none⟩ = some (.string ⟨nm.toArray⟩) ∧ w'.cell? ⟨xb, 1, none⟩ = some (.int .u32 (A : Nat)) ∧ w'.cell? ⟨xb, 2, none⟩ = some (.int .i64 L) ∧ w'.cell? ⟨xb, 3, none⟩ = some (.int .i64 N) ∧ w'.cell? ⟨xb, 4, none⟩ = some (.int .i64 M))) (by kernel_rfl) ?_ (fun hHeld => ?_)
    · (try dsimp only)
      exact cells5 HX.out
    refine take_at 0 rfl (by kernel_rfl) (by kernel_rfl) (by kernel_rfl) (fun _ _ _ h => h) (by rfl) (by assumption) (v := ?_) ?_ ?_
    rotate_left
    · (intro w hSw; (try dsimp only at hSw); go_simp <;> with_reducible rfl)
    (try simp only [Act.put, List.setIfInBounds_toArray, List.set_cons_zero, List.set_cons_succ])
    refine take_at 1 rfl (by kernel_rfl) (by kernel_rfl) (by kernel_rfl) (fun _ _ _ h => h) (by rfl) (by assumption) (v := ?_) ?_ ?_
    rotate_left
    · (intro w hSw; (try dsimp only at hSw); go_simp <;> with_reducible rfl)
    (try simp only [Act.put, List.setIfInBounds_toArray, List.set_cons_zero, List.set_cons_succ])
    refine take_at 2 rfl (by kernel_rfl) (by kernel_rfl) (by kernel_rfl) (fun _ _ _ h => h) (by rfl) (by assumption) (v := ?_) ?_ ?_
    rotate_left
    · (intro w hSw; (try dsimp only at hSw); go_simp <;> with_reducible rfl)
    (try simp only [Act.put, List.setIfInBounds_toArray, List.set_cons_zero, List.set_cons_succ])
    refine take_at 3 rfl (by kernel_rfl) (by kernel_rfl) (by kernel_rfl) (fun _ _ _ h => h) (by rfl) (by assumption) (v := ?_) ?_ ?_
    rotate_left
    · (intro w hSw; (try dsimp only at hSw); go_simp <;> with_reducible rfl)
    (try simp only [Act.put, List.setIfInBounds_toArray, List.set_cons_zero, List.set_cons_succ])
    refine take_at 4 rfl (by kernel_rfl) (by kernel_rfl) (by kernel_rfl) (fun _ _ _ h => h) (by rfl) (by assumption) (v := ?_) ?_ ?_
    rotate_left
    · (intro w hSw; (try dsimp only at hSw); go_simp <;> with_reducible rfl)
    (try simp only [Act.put, List.setIfInBounds_toArray, List.set_cons_zero, List.set_cons_succ])
    refine take_at 5 rfl (by kernel_rfl) (by kernel_rfl) (by kernel_rfl) (fun _ _ _ h => h) (by rfl) (by assumption) (v := ?_) ?_ ?_
    rotate_left
    · (intro w hSw; (try dsimp only at hSw); go_simp <;> with_reducible rfl)
    (try simp only [Act.put, List.setIfInBounds_toArray, List.set_cons_zero, List.set_cons_succ])
    refine take_at 6 rfl (by kernel_rfl) (by kernel_rfl) (by kernel_rfl) (fun _ _ _ h => h) (by rfl) (by assumption) (v := ?_) ?_ ?_
    rotate_left
    · (intro w hSw; (try dsimp only at hSw); go_simp <;> with_reducible rfl)
    (try simp only [Act.put, List.setIfInBounds_toArray, List.set_cons_zero, List.set_cons_succ])
    refine take_at 7 rfl (by kernel_rfl) (by kernel_rfl) (by kernel_rfl) (fun _ _ _ h => h) (by rfl) (by assumption) (v := ?_) ?_ ?_
    rotate_left
    · (intro w hSw; (try dsimp only at hSw); go_simp <;> with_reducible rfl)
    (try simp only [Act.put, List.setIfInBounds_toArray, List.set_cons_zero, List.set_cons_succ])
    refine take_at 8 rfl (by kernel_rfl) (by kernel_rfl) (by kernel_rfl) (fun _ _ _ h => h) (by rfl) (by assumption) (v := ?_) ?_ ?_
    rotate_left
    · (intro w hSw; (try dsimp only at hSw); go_simp <;> with_reducible rfl)
    (try simp only [Act.put, List.setIfInBounds_toArray, List.set_cons_zero, List.set_cons_succ])
    refine take_at 9 rfl (by kernel_rfl) (by kernel_rfl) (by kernel_rfl) (fun _ _ _ h => h) (by rfl) (by assumption) (v := ?_) ?_ ?_
    rotate_left
    · (intro w hSw; (try dsimp only at hSw); go_simp <;> with_reducible rfl)
    (try simp only [Act.put, List.setIfInBounds_toArray, List.set_cons_zero, List.set_cons_succ])
    refine skip_at 10 rfl (by kernel_rfl) (by kernel_rfl) (by kernel_rfl) (fun _ _ _ h => h) (by rfl) (by assumption) ?_
    (try simp only [Act.put, List.setIfInBounds_toArray, List.set_cons_zero, List.set_cons_succ])
    refine skip_at 11 rfl (by kernel_rfl) (by kernel_rfl) (by kernel_rfl) (fun _ _ _ h => h) (by rfl) (by assumption) ?_
    (try simp only [Act.put, List.setIfInBounds_toArray, List.set_cons_zero, List.set_cons_succ])
    refine take_at 12 rfl (by kernel_rfl) (by kernel_rfl) (by kernel_rfl) (fun _ _ _ h => h) (by rfl) (by assumption) (v := ?_) ?_ ?_
    rotate_left
    · (intro w hSw; (try dsimp only at hSw); go_simp <;> with_reducible rfl)
    (try simp only [Act.put, List.setIfInBounds_toArray, List.set_cons_zero, List.set_cons_succ])
    refine step_at 13 rfl (by kernel_rfl) (fun K hK => ?_)
    go_simp
    refine hK.out _ _ ?_ (fun hHeld1 => ?_)
    · (try dsimp only)
      first | go_keep | assumption
    clear hK K hHeld
    have hHeld := hHeld1
    clear hHeld1
    refine take_at 14 rfl (by kernel_rfl) (by kernel_rfl) (by kernel_rfl) (fun _ _ _ h => h) (by rfl) (by assumption) (v := ?_) ?_ ?_
    rotate_left
    · (intro w hSw; (try dsimp only at hSw); go_simp <;> with_reducible rfl)
    (try simp only [Act.put, List.setIfInBounds_toArray, List.set_cons_zero, List.set_cons_succ])
    refine wpAnyH_done (by kernel_rfl) ?_ _
    all_goals go_wp2_with fail
    all_goals exact box_ret (put5d HZr.out _ _ _ _ _) rfl rfl rfl Tryz.underlying45 (by kernel_rfl) rfl (iface_got ⟨nm, ⟨A, L⟩, N, M⟩ (by first | exact HZ.out | (rw [HZ.out]; rfl)) rfl (low5 HB.out (Nat.le_refl _) _ _ _ _ _).drew)
  | true =>
    have HZ : Hid (ifaceOf [a, nm, ad, wMtu, n, wRpf, md] = if isI ⟨nm, ⟨A, L⟩, N, M⟩ = true then some ⟨nm, ⟨A, L⟩, N, M⟩ else none) := by
      have h := HBm.out
      have hm' := HM.out
      cases hm : modeOf md with
      | none => rw [hm] at h; cases h
      | some k =>
        rw [hm] at hm'
        show _ = _
        rw [iface_seven a nm ad n md _ k hp hm h9, hN, hm']
        rfl
    have KI := Lib.hid (show ∀ W', Calls Tryz.prog 49 #[.agg #[.string ⟨nm.toArray⟩, .int .u32 (A : Nat), .int .i64 L, .int .i64 N, .int .i64 M]] W' (fun e w' => e = .returned (.bool (isI ⟨nm, ⟨A, L⟩, N, M⟩)) ∧ Below W'.heap.size W' w') from fun W' => riface_any ⟨nm, ⟨A, L⟩, N, M⟩ h3 hok W')
    clear hp h9 hN
    generalize isI ⟨nm, ⟨A, L⟩, N, M⟩ = bi at KI HZ
    refine wp_region_held_drew (S := (fun w' => w'.cell? ⟨xb, 0, none⟩ = some (.string ⟨nm.toArray⟩) ∧ w'.cell? ⟨xb, 1, none⟩ = some (.int .u32 (A : Nat)) ∧ w'.cell? ⟨xb, 2, none⟩ = some (.int .i64 L) ∧ w'.cell? ⟨xb, 3, none⟩ = some (.int .i64 N) ∧ w'.cell? ⟨xb, 4, none⟩ = some (.int .i64 M))) (by kernel_rfl) ?_ (fun hHeld => ?_)
    · (try dsimp only)
      exact cells5 HX.out
    refine take_at 0 rfl (by kernel_rfl) (by kernel_rfl) (by kernel_rfl) (fun _ _ _ h => h) (by rfl) (by assumption) (v := ?_) ?_ ?_
    rotate_left
    · (intro w hSw; (try dsimp only at hSw); go_simp <;> with_reducible rfl)
    (try simp only [Act.put, List.setIfInBounds_toArray, List.set_cons_zero, List.set_cons_succ])
    refine take_at 1 rfl (by kernel_rfl) (by kernel_rfl) (by kernel_rfl) (fun _ _ _ h => h) (by rfl) (by assumption) (v := ?_) ?_ ?_
    rotate_left
    · (intro w hSw; (try dsimp only at hSw); go_simp <;> with_reducible rfl)
    (try simp only [Act.put, List.setIfInBounds_toArray, List.set_cons_zero, List.set_cons_succ])
    refine take_at 2 rfl (by kernel_rfl) (by kernel_rfl) (by kernel_rfl) (fun _ _ _ h => h) (by rfl) (by assumption) (v := ?_) ?_ ?_
    rotate_left
    · (intro w hSw; (try dsimp only at hSw); go_simp <;> with_reducible rfl)
    (try simp only [Act.put, List.setIfInBounds_toArray, List.set_cons_zero, List.set_cons_succ])
    refine take_at 3 rfl (by kernel_rfl) (by kernel_rfl) (by kernel_rfl) (fun _ _ _ h => h) (by rfl) (by assumption) (v := ?_) ?_ ?_
    rotate_left
    · (intro w hSw; (try dsimp only at hSw); go_simp <;> with_reducible rfl)
    (try simp only [Act.put, List.setIfInBounds_toArray, List.set_cons_zero, List.set_cons_succ])
    refine take_at 4 rfl (by kernel_rfl) (by kernel_rfl) (by kernel_rfl) (fun _ _ _ h => h) (by rfl) (by assumption) (v := ?_) ?_ ?_
    rotate_left
    · (intro w hSw; (try dsimp only at hSw); go_simp <;> with_reducible rfl)
    (try simp only [Act.put, List.setIfInBounds_toArray, List.set_cons_zero, List.set_cons_succ])
    refine take_at 5 rfl (by kernel_rfl) (by kernel_rfl) (by kernel_rfl) (fun _ _ _ h => h) (by rfl) (by assumption) (v := ?_) ?_ ?_
    rotate_left
    · (intro w hSw; (try dsimp only at hSw); go_simp <;> with_reducible rfl)
    (try simp only [Act.put, List.setIfInBounds_toArray, List.set_cons_zero, List.set_cons_succ])
    refine take_at 6 rfl (by kernel_rfl) (by kernel_rfl) (by kernel_rfl) (fun _ _ _ h => h) (by rfl) (by assumption) (v := ?_) ?_ ?_
    rotate_left
    · (intro w hSw; (try dsimp only at hSw); go_simp <;> with_reducible rfl)
    (try simp only [Act.put, List.setIfInBounds_toArray, List.set_cons_zero, List.set_cons_succ])
    refine take_at 7 rfl (by kernel_rfl) (by kernel_rfl) (by kernel_rfl) (fun _ _ _ h => h) (by rfl) (by assumption) (v := ?_) ?_ ?_
    rotate_left
    · (intro w hSw; (try dsimp only at hSw); go_simp <;> with_reducible rfl)
    (try simp only [Act.put, List.setIfInBounds_toArray, List.set_cons_zero, List.set_cons_succ])
    refine take_at 8 rfl (by kernel_rfl) (by kernel_rfl) (by kernel_rfl) (fun _ _ _ h => h) (by rfl) (by assumption) (v := ?_) ?_ ?_
    rotate_left
    · (intro w hSw; (try dsimp only at hSw); go_simp <;> with_reducible rfl)
    (try simp only [Act.put, List.setIfInBounds_toArray, List.set_cons_zero, List.set_cons_succ])
    refine take_at 9 rfl (by kernel_rfl) (by kernel_rfl) (by kernel_rfl) (fun _ _ _ h => h) (by rfl) (by assumption) (v := ?_) ?_ ?_
    rotate_left
    · (intro w hSw; (try dsimp only at hSw); go_simp <;> with_reducible rfl)
    (try simp only [Act.put, List.setIfInBounds_toArray, List.set_cons_zero, List.set_cons_succ])
    refine take_at 10 rfl (by kernel_rfl) (by kernel_rfl) (by kernel_rfl) (fun _ _ _ h => h) (by rfl) (by assumption) (v := ?_) ?_ ?_
    rotate_left
    · (intro w hSw; (try dsimp only at hSw); go_simp <;> with_reducible rfl)
    (try simp only [Act.put, List.setIfInBounds_toArray, List.set_cons_zero, List.set_cons_succ])
    refine step_at 11 rfl (by kernel_rfl) (fun K hK => ?_)
    go_simp
    go_at_call 49; (with_reducible refine (KI.out _).mono ?_); rintro e w8 ⟨rfl, hb8⟩; have hb9 := ((Below.refl _ wc).drew).trans hb8; have hx8 := row_step HX hb9; have HZ8 := row_step HZr hb9; obtain ⟨x0, x1, x2, x3, x4⟩ := cells5 hx8.out; have HB8 := Lib.hid (bstep HB.out hb9 HB.out.size); have z0 : w8.cell? ⟨W.heap.size, 0, none⟩ = some (.string ⟨#[]⟩) := (cell_of_row _ _ 0 _ _ _ HZ8.out).trans rfl; have y0 := frozen_of_row _ _ 0 _ _ HZ8.out; have z1 : w8.cell? ⟨W.heap.size, 1, none⟩ = some (.int .u32 0) := (cell_of_row _ _ 1 _ _ _ HZ8.out).trans rfl; have y1 := frozen_of_row _ _ 1 _ _ HZ8.out; have z2 : w8.cell? ⟨W.heap.size, 2, none⟩ = some (.int .i64 0) := (cell_of_row _ _ 2 _ _ _ HZ8.out).trans rfl; have y2 := frozen_of_row _ _ 2 _ _ HZ8.out; have z3 : w8.cell? ⟨W.heap.size, 3, none⟩ = some (.int .i64 0) := (cell_of_row _ _ 3 _ _ _ HZ8.out).trans rfl; have y3 := frozen_of_row _ _ 3 _ _ HZ8.out; have z4 : w8.cell? ⟨W.heap.size, 4, none⟩ = some (.int .i64 0) := (cell_of_row _ _ 4 _ _ _ HZ8.out).trans rfl; have y4 := frozen_of_row _ _ 4 _ _ HZ8.out; clear hb8
    refine hK.out _ _ ?_ (fun hHeld1 => ?_)
    · (try dsimp only)
      exact cells5 hx8.out
    clear hK K hHeld
    have hHeld := hHeld1
    clear hHeld1
    refine take_at 12 rfl (by kernel_rfl) (by kernel_rfl) (by kernel_rfl) (fun _ _ _ h => h) (by rfl) (by assumption) (v := ?_) ?_ ?_
    rotate_left
    · (intro w hSw; (try dsimp only at hSw); go_simp <;> with_reducible rfl)
    (try simp only [Act.put, List.setIfInBounds_toArray, List.set_cons_zero, List.set_cons_succ])
    refine step_at 13 rfl (by kernel_rfl) (fun K hK => ?_)
    go_simp
    refine hK.out _ _ ?_ (fun hHeld1 => ?_)
    · (try dsimp only)
      first | go_keep | assumption
    clear hK K hHeld
    have hHeld := hHeld1
    clear hHeld1
    refine take_at 14 rfl (by kernel_rfl) (by kernel_rfl) (by kernel_rfl) (fun _ _ _ h => h) (by rfl) (by assumption) (v := ?_) ?_ ?_
    rotate_left
    · (intro w hSw; (try dsimp only at hSw); go_simp <;> with_reducible rfl)
    (try simp only [Act.put, List.setIfInBounds_toArray, List.set_cons_zero, List.set_cons_succ])
    refine wpAnyH_done (by kernel_rfl) ?_ _
    all_goals go_wp2_with fail
    all_goals exact box_ret (put5 HZ8.out _ _ _ _ _) rfl rfl rfl Tryz.underlying45 (by kernel_rfl) rfl (iface_got ⟨nm, ⟨A, L⟩, N, M⟩ (by first | exact HZ.out | (rw [HZ.out]; rfl)) rfl (low5 HB8.out (Nat.le_refl _) _ _ _ _ _))
set_option maxHeartbeats 4000000 in
theorem readIface_any (ws : List Wd) (hs : ∀ x ∈ ws, x.length ≤ 4294967295) (b o cap : Nat) (W : World) (hbk : b < W.heap.size) (hcap : ws.length ≤ cap) (hr : W.rangeAt b o (ws.map fun w => Value.string ⟨w.toArray⟩)) :
    Calls Tryz.prog 66 #[.slice (some ⟨b, o, none⟩) ws.length cap] W fun e w' => IfaceGot W ws e w' := by
  by_cases h7 : ws.length = 7
  rotate_left
  · have HZ := Lib.hid (iface_short ws h7)
    have h7' : ((ws.length : Int) != 7) = true := by simpa using fun e : (ws.length : Int) = 7 => h7 (by omega)
    clear hr hs h7
    go_enter Tryz.func66, Tryz.ntmps66
    go_wp2_with fail
    exact box_ret (heap_alloc_new W _) rfl rfl rfl Tryz.underlying45 (by kernel_rfl) rfl (iface_got {} (by rw [HZ.out]; rfl) rfl (bnew W _))
  match ws, h7 with
  | [a, nm, ad, m, n, r, md], _ =>
    have hc7 : (7 : Int) ≤ cap := by simp at hcap; omega
    by_cases hm : m = wMtu
    rotate_left
    · have HZ := Lib.hid (iface_words a nm ad m n r md fun h => hm h.1)
      have HR := Lib.hid (range_below hr (bnew W (.cells #[.string ⟨#[]⟩, .int .u32 0, .int .i64 0, .int .i64 0, .int .i64 0] 45)) hbk)
      have q3 := HR.out 3 (.string ⟨m.toArray⟩) rfl
      have hm' : (m == [109, 116, 117]) = false := wd_ne hm
      clear hr hs hm
      go_enter Tryz.func66, Tryz.ntmps66
      go_wp2_with fail
      exact box_ret (heap_alloc_new W _) rfl rfl rfl Tryz.underlying45 (by kernel_rfl) rfl (iface_got {} (by rw [HZ.out]; rfl) rfl (bnew W _))
    subst hm
    by_cases hm : r = wRpf
    rotate_left
    · have HZ := Lib.hid (iface_words a nm ad wMtu n r md fun h => hm h.2)
      have HR := Lib.hid (range_below hr (bnew W (.cells #[.string ⟨#[]⟩, .int .u32 0, .int .i64 0, .int .i64 0, .int .i64 0] 45)) hbk)
      have q3 := HR.out 3 (.string ⟨#[109, 116, 117]⟩) rfl
      have q5 := HR.out 5 (.string ⟨r.toArray⟩) rfl
      have hm' : (r == [114, 112, 102]) = false := wd_ne hm
      clear hr hs hm
      go_enter Tryz.func66, Tryz.ntmps66
      go_wp2_with fail
      exact box_ret (heap_alloc_new W _) rfl rfl rfl Tryz.underlying45 (by kernel_rfl) rfl (iface_got {} (by rw [HZ.out]; rfl) rfl (bnew W _))
    subst hm
    exact readIface_ok a nm ad n md b o cap W hbk hc7 hr (hs ad (by simp)) (by have := hs n (by simp); omega) (by have := hs nm (by simp); omega)
end Go.Proofs.YtnmbbnhgoedjgaaGreatDoor.Ch6

