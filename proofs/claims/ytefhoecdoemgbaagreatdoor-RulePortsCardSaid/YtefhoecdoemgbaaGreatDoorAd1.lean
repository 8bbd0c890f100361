/- Contracts of package addr's functions over numbers, and of its reference's: what each returns; what lay in memory is as it was. -/
import Derived.Test.YtefhoecdoemgbaaGreatDoorAd0
import Derived.Test.YtefhoecdoemgbaaGreatDoorEq
import Derived.Test.YtefhoecdoemgbaaGreatDoorProg
import Derived.WalkSpells
import Derived.WalkLawsBesides
import Derived.Below
import Derived.Outline
import Derived.Deep.QuietTactic
import Derived.BigQuiet
import Derived.Deep.RegionHeld3
import Derived.Laws.Bits64
import Derived.Lib.Hide
import Derived.KernelRfl
namespace Go.Proofs.YtefhoecdoemgbaaGreatDoor.Ad1
open Go Go.RowKit Go.Proofs.YtefhoecdoemgbaaGreatDoor.Ad0
set_option linter.unusedVariables false
set_option linter.unusedSimpArgs false

theorem quiet_left {P : Program} {f : FuncId} {args : Array Value} {w : World} {n : Nat} {v : Value}
    (h : Calls P f args (w.drewN n) fun e w' => e = .returned v ∧ w.drewN n = w') : Calls P f args (w.drewN n) fun e w'' => e = .returned v ∧ ∃ m, w'' = w.drewN m :=
  h.mono fun _ _ ⟨he, hm⟩ => ⟨he, n, hm.symm⟩
theorem bnew (w : World) (o : Obj) : Below w.heap.size w (w.alloc o) := (Below.refl _ _).alloc (Nat.le_refl _) o
theorem bnew2 (w : World) (o o' : Obj) : Below w.heap.size w ((w.alloc o).alloc o') := (bnew w o).alloc (by simp) o'
theorem bnew3 (w : World) (o o' o'' : Obj) : Below w.heap.size w (((w.alloc o).alloc o').alloc o'') := (bnew2 w o o').alloc (by simp; omega) o''
theorem bdrewN {B : Nat} {a w : World} (h : Below B a w) (n : Nat) : Below B a (w.drewN n) := ⟨h.os, h.tape, h.output, h.size, h.block⟩
theorem bstep {B : Nat} {w W w1 : World} (h : Below B w W) (hb : Below W.heap.size W w1) (hB : B ≤ W.heap.size) : Below B w w1 := h.trans (hb.mono hB)
theorem bcell {W w1 : World} (hb : Below W.heap.size W w1) : (∀ b o, b < W.heap.size → w1.cell? ⟨b, o, none⟩ = W.cell? ⟨b, o, none⟩) ∧ (∀ b o, b < W.heap.size → w1.frozen? ⟨b, o, none⟩ = W.frozen? ⟨b, o, none⟩) :=
  ⟨fun b o h => hb.cell (p := ⟨b, o, none⟩) h, fun b o h => hb.frozen (p := ⟨b, o, none⟩) h⟩

open Go.Proofs.YtefhoecdoemgbaaGreatDoor.Eq in
theorem equalIn_pfx (d : Nat) (p q : Pfx) (W : World) : (Op.equalIn (d + 2) 24 (.agg #[.int .u32 p.addr, .int .i64 p.len]) (.agg #[.int .u32 q.addr, .int .i64 q.len])).run Tryz.prog W = .ok (decide (p = q)) W := by
  have e : decide (p = q) = (((p.addr : Int) == q.addr) && ((p.len == q.len) && true)) := by
    obtain ⟨a, n⟩ := p
    obtain ⟨b, m⟩ := q
    rw [Bool.eq_iff_iff]
    simp
    intro _
    omega
  rw [e]
  exact eq_struct Tryz.underlying24 (by kernel_rfl) (eqf_cons (by rfl) (part_plain _ _ _ Tryz.underlying22 rfl rfl W) (part_plain _ _ _ Tryz.underlying22 rfl rfl W) (run_equalIn_int W d _ _ .u32 _ _ Tryz.underlying22)
    (eqf_cons (by rfl) (part_plain _ _ _ Tryz.underlying3 rfl rfl W) (part_plain _ _ _ Tryz.underlying3 rfl rfl W) (run_equalIn_int W d _ _ .i64 _ _ Tryz.underlying3) eqf_nil))
theorem eql_pfx (p q : Pfx) (W : World) : (binOp .eql 24 (.agg #[.int .u32 p.addr, .int .i64 p.len]) (.agg #[.int .u32 q.addr, .int .i64 q.len])).run Tryz.prog W = .ok (.bool (decide (p = q))) W :=
  Eq.eql_struct (equalIn_pfx 9998 p q W)

theorem held_any (n : Int) (w : World) : Calls Tryz.prog 121 #[.int .i64 n] w fun e w' => e = .returned (.int .i64 (heldF n)) ∧ w = w' := by
  go_enter Tryz.func121, Tryz.ntmps121
  go_wp2
  all_goals (go_ret; exact ⟨by simp [heldF] <;> (repeat' split) <;> omega, rfl⟩)
theorem mask_any (n : Int) (w : World) : Calls Tryz.prog 120 #[.int .i64 n] w fun e w' => e = .returned (.int .u32 (maskN n : Nat)) ∧ w = w' := by
  have h0 := heldF_lo n
  have h1 := heldF_hi n
  have hm := Lib.hid (maskI n)
  go_enter Tryz.func120, Tryz.ntmps120
  go_wp2_with (go_at_call 121; refine (held_any _ _).mono ?_; rintro e w' ⟨rfl, rfl⟩)
  go_ret
  exact ⟨by rw [← hm.out]; rfl, rfl⟩

theorem norm_any (p : Pfx) (hp : p.ok) (w : World) :
    Calls Tryz.prog 101 #[.agg #[.int .u32 p.addr, .int .i64 p.len]] w fun e w' => e = .returned (.agg #[.int .u32 (normF p).addr, .int .i64 (normF p).len]) ∧ Below w.heap.size w w' := by
  obtain ⟨a, n⟩ := p
  go_enter Tryz.func101, Tryz.ntmps101
  go_wp2
  go_region_held3 (fun w' => w'.cell? ⟨w.heap.size, 0, none⟩ = some (.int .u32 a) ∧ w'.cell? ⟨w.heap.size, 1, none⟩ = some (.int .i64 n))
    (first | go_keep)
    (first | (go_at_call 120; refine (mask_any _ _).mono ?_; rintro e w' ⟨rfl, rfl⟩) | (go_at_call 121; refine (held_any _ _).mono ?_; rintro e w' ⟨rfl, rfl⟩))
  have hb : bits .and .u32 (a : Int) ((maskN n : Nat) : Int) = (((normF ⟨a, n⟩).addr : Nat) : Int) := bits_norm a n hp
  rw [hb]
  go_wp2
  exact bodyPost_ret (v := .agg #[.int .u32 (normF ⟨a, n⟩).addr, .int .i64 (normF ⟨a, n⟩).len]) (by simp [results, Tryz.results101, go_sem]; rfl) rfl ⟨rfl, ((bnew _ _).alloc (by simp) _).drew⟩
theorem is_any (p : Pfx) (hp : p.ok) (w : World) :
    Calls Tryz.prog 82 #[.agg #[.int .u32 p.addr, .int .i64 p.len]] w fun e w' => e = .returned (.bool (isF p)) ∧ Below w.heap.size w w' := by
  obtain ⟨a, n⟩ := p
  have hn := norm_any ⟨a, n⟩ hp
  generalize hq : normF ⟨a, n⟩ = q at hn
  have HN := Lib.hid hn
  have HQ := Lib.hid hq
  have heq := eql_pfx ⟨a, n⟩ q
  clear hn hq
  go_enter Tryz.func82, Tryz.ntmps82
  go_wp2
  go_region_held3 (fun w' => w'.cell? ⟨w.heap.size, 0, none⟩ = some (.int .u32 a) ∧ w'.cell? ⟨w.heap.size, 1, none⟩ = some (.int .i64 n) ∧ Below w.heap.size w w')
    (refine ⟨?_, ?_, ?_⟩ <;> first | exact (bnew _ _).drew | exact bstep (bnew _ _).drew (by assumption) (by simp) | go_keep)
    (first | (go_at_call 101; refine (HN.out _).mono ?_; rintro e w1 ⟨rfl, hb1⟩; obtain ⟨hc1, -⟩ := bcell hb1))
  go_wp2
  go_ret
  exact ⟨by unfold isF; rw [HQ.out]; rfl, (by rename_i hh; exact hh.2.2)⟩

end Go.Proofs.YtefhoecdoemgbaaGreatDoor.Ad1
