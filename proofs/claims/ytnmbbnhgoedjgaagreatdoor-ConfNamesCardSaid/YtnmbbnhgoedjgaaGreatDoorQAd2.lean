/- Contracts of package addr's functions over numbers, and of its reference's: what each returns; what lay in memory is as it was. Contracts of the reference's functions over addresses and prefixes (castellanref3): what each returns; what lay in memory is as it was. -/
import Derived.Test.YtnmbbnhgoedjgaaGreatDoorQAd0
import Derived.Test.YtnmbbnhgoedjgaaGreatDoorQEq
import Derived.Test.YtnmbbnhgoedjgaaGreatDoorProg
import Derived.WalkSpells
import Derived.WalkLawsBesides
import Derived.Below
import Derived.Outline
import Derived.Deep.QuietTactic
import Derived.BigQuiet
import Derived.Deep.RegionHeld3
import Derived.Laws.Bits64
import Derived.Lib.Hide
import Derived.KernelRfl
namespace Go.Proofs.YtnmbbnhgoedjgaaGreatDoor.Ad1
open Go Go.RowKit Go.Proofs.YtnmbbnhgoedjgaaGreatDoor.Ad0
set_option linter.unusedVariables false
set_option linter.unusedSimpArgs false
theorem bnew (w : World) (o : Obj) : Below w.heap.size w (w.alloc o) := (Below.refl _ _).alloc (Nat.le_refl _) o
theorem bnew2 (w : World) (o o' : Obj) : Below w.heap.size w ((w.alloc o).alloc o') := (bnew w o).alloc (by simp) o'
theorem bdrewN {B : Nat} {a w : World} (h : Below B a w) (n : Nat) : Below B a (w.drewN n) := ⟨h.os, h.tape, h.output, h.size, h.block⟩
theorem bstep {B : Nat} {w W w1 : World} (h : Below B w W) (hb : Below W.heap.size W w1) (hB : B ≤ W.heap.size) : Below B w w1 := h.trans (hb.mono hB)
theorem bcell {W w1 : World} (hb : Below W.heap.size W w1) : (∀ b o, b < W.heap.size → w1.cell? ⟨b, o, none⟩ = W.cell? ⟨b, o, none⟩) ∧ (∀ b o, b < W.heap.size → w1.frozen? ⟨b, o, none⟩ = W.frozen? ⟨b, o, none⟩) :=
  ⟨fun b o h => hb.cell (p := ⟨b, o, none⟩) h, fun b o h => hb.frozen (p := ⟨b, o, none⟩) h⟩
open Go.Proofs.YtnmbbnhgoedjgaaGreatDoor.Eq in
theorem equalIn_pfx (d : Nat) (p q : Pfx) (W : World) : (Op.equalIn (d + 2) 43 (.agg #[.int .u32 p.addr, .int .i64 p.len]) (.agg #[.int .u32 q.addr, .int .i64 q.len])).run Tryz.prog W = .ok (decide (p = q)) W := by
  have e : decide (p = q) = (((p.addr : Int) == q.addr) && ((p.len == q.len) && true)) := by
    obtain ⟨a, n⟩ := p
    obtain ⟨b, m⟩ := q
    rw [Bool.eq_iff_iff]
    simp
    intro _
    omega
  rw [e]
  exact eq_struct Tryz.underlying43 (by kernel_rfl) (eqf_cons (by rfl) (part_plain _ _ _ Tryz.underlying41 rfl rfl W) (part_plain _ _ _ Tryz.underlying41 rfl rfl W) (run_equalIn_int W d _ _ .u32 _ _ Tryz.underlying41)
    (eqf_cons (by rfl) (part_plain _ _ _ Tryz.underlying3 rfl rfl W) (part_plain _ _ _ Tryz.underlying3 rfl rfl W) (run_equalIn_int W d _ _ .i64 _ _ Tryz.underlying3) eqf_nil))
theorem eql_pfx (p q : Pfx) (W : World) : (binOp .eql 43 (.agg #[.int .u32 p.addr, .int .i64 p.len]) (.agg #[.int .u32 q.addr, .int .i64 q.len])).run Tryz.prog W = .ok (.bool (decide (p = q))) W :=
  Eq.eql_struct (equalIn_pfx 9998 p q W)
theorem held_any (n : Int) (w : World) : Calls Tryz.prog 165 #[.int .i64 n] w fun e w' => e = .returned (.int .i64 (heldF n)) ∧ w = w' := by
  go_enter Tryz.func165, Tryz.ntmps165
  go_wp2
  all_goals (go_ret; exact ⟨by simp [heldF] <;> (repeat' split) <;> omega, rfl⟩)
theorem mask_any (n : Int) (w : World) : Calls Tryz.prog 164 #[.int .i64 n] w fun e w' => e = .returned (.int .u32 (maskN n : Nat)) ∧ w = w' := by
  have h0 := heldF_lo n
  have h1 := heldF_hi n
  have hm := Lib.hid (maskI n)
  go_enter Tryz.func164, Tryz.ntmps164
  go_wp2_with (go_at_call 165; refine (held_any _ _).mono ?_; rintro e w' ⟨rfl, rfl⟩)
  go_ret
  exact ⟨by rw [← hm.out]; rfl, rfl⟩
set_option maxRecDepth 100000 in
theorem cast_any (a : Nat) (ha : a < 4294967296) (w : World) :
    Calls Tryz.prog 89 #[.int .u32 a] w fun e w' => e = .returned (.bool (castF a)) ∧ w = w' := by
  by_cases h1 : (3758096384 : Int) ≤ a
  · by_cases h2 : (a : Int) < 4026531840
    · have hc : castF a = true := by simp [castF]; omega
      go_enter Tryz.func89, Tryz.ntmps89
      go_wp2
      go_ret
      exact ⟨by rw [hc]; rfl, rfl⟩
    · have hc : castF a = ((a : Int) == 4294967295) := by
        rw [Bool.eq_iff_iff]; simp [castF]; omega
      have HC := Lib.hid hc
      clear hc
      go_enter Tryz.func89, Tryz.ntmps89
      go_wp2
      go_ret
      exact ⟨by rw [HC.out]; rfl, rfl⟩
  · have hc : castF a = false := by simp [castF]; omega
    have hn : ((a : Int) == 4294967295) = false := by rw [beq_eq_false_iff_ne]; omega
    go_enter Tryz.func89, Tryz.ntmps89
    go_wp2
    go_ret
    exact ⟨rfl, rfl⟩
theorem norm_any (p : Pfx) (hp : p.ok) (w : World) :
    Calls Tryz.prog 137 #[.agg #[.int .u32 p.addr, .int .i64 p.len]] w fun e w' => e = .returned (.agg #[.int .u32 (normF p).addr, .int .i64 (normF p).len]) ∧ Below w.heap.size w w' := by
  obtain ⟨a, n⟩ := p
  go_enter Tryz.func137, Tryz.ntmps137
  go_wp2
  go_region_held3 (fun w' => w'.cell? ⟨w.heap.size, 0, none⟩ = some (.int .u32 a) ∧ w'.cell? ⟨w.heap.size, 1, none⟩ = some (.int .i64 n))
    (first | go_keep)
    (first | (go_at_call 164; refine (mask_any _ _).mono ?_; rintro e w' ⟨rfl, rfl⟩) | (go_at_call 165; refine (held_any _ _).mono ?_; rintro e w' ⟨rfl, rfl⟩))
  have hb : bits .and .u32 (a : Int) ((maskN n : Nat) : Int) = (((normF ⟨a, n⟩).addr : Nat) : Int) := bits_norm a n hp
  rw [hb]
  go_wp2
  exact bodyPost_ret (v := .agg #[.int .u32 (normF ⟨a, n⟩).addr, .int .i64 (normF ⟨a, n⟩).len]) (by simp [results, Tryz.results137, go_sem]; rfl) rfl ⟨rfl, ((bnew _ _).alloc (by simp) _).drew⟩
theorem is_any (p : Pfx) (hp : p.ok) (w : World) :
    Calls Tryz.prog 88 #[.agg #[.int .u32 p.addr, .int .i64 p.len]] w fun e w' => e = .returned (.bool (isF p)) ∧ Below w.heap.size w w' := by
  obtain ⟨a, n⟩ := p
  have hn := norm_any ⟨a, n⟩ hp
  generalize hq : normF ⟨a, n⟩ = q at hn
  have HN := Lib.hid hn
  have HQ := Lib.hid hq
  have heq := eql_pfx ⟨a, n⟩ q
  clear hn hq
  go_enter Tryz.func88, Tryz.ntmps88
  go_wp2
  go_region_held3 (fun w' => w'.cell? ⟨w.heap.size, 0, none⟩ = some (.int .u32 a) ∧ w'.cell? ⟨w.heap.size, 1, none⟩ = some (.int .i64 n) ∧ Below w.heap.size w w')
    (refine ⟨?_, ?_, ?_⟩ <;> first | exact (bnew _ _).drew | exact bstep (bnew _ _).drew (by assumption) (by simp) | go_keep)
    (first | (go_at_call 137; refine (HN.out _).mono ?_; rintro e w1 ⟨rfl, hb1⟩; obtain ⟨hc1, -⟩ := bcell hb1))
  go_wp2
  go_ret
  exact ⟨by unfold isF; rw [HQ.out]; rfl, (by rename_i hh; exact hh.2.2)⟩
end Go.Proofs.YtnmbbnhgoedjgaaGreatDoor.Ad1

namespace Go.Proofs.YtnmbbnhgoedjgaaGreatDoor.Ad2
open Go Go.RowKit Go.Proofs.YtnmbbnhgoedjgaaGreatDoor.Ad0 Go.Proofs.YtnmbbnhgoedjgaaGreatDoor.Ad1
set_option linter.unusedVariables false
set_option linter.unusedSimpArgs false
theorem maskU (n : Int) : (IntKind.u64.wrap (4294967295 * 2 ^ (32 - heldF n).toNat) % 4294967296 : Int) = (maskN n : Int) := by
  rw [← maskI n, IntKind.wrap_u64]
  exact Int.emod_emod_of_dvd _ (by decide)
theorem rheld_any (n : Int) (w : World) : Calls Tryz.prog 159 #[.int .i64 n] w fun e w' => e = .returned (.int .i64 (heldF n)) ∧ w = w' := by
  go_enter Tryz.func159, Tryz.ntmps159
  go_wp2
  all_goals (go_ret; exact ⟨by simp [heldF] <;> (repeat' split) <;> omega, rfl⟩)
theorem rmask_any (n : Int) (w : World) : Calls Tryz.prog 158 #[.int .i64 n] w fun e w' => e = .returned (.int .u32 (maskN n : Nat)) ∧ w = w' := by
  have h0 := heldF_lo n
  have h1 := heldF_hi n
  have hm := Lib.hid (maskU n)
  go_enter Tryz.func158, Tryz.ntmps158
  go_wp2_with (go_at_call 159; refine (rheld_any _ _).mono ?_; rintro e w' ⟨rfl, rfl⟩)
  go_ret
  exact ⟨by rw [← hm.out]; rfl, rfl⟩
theorem rnorm_any (p : Pfx) (hp : p.ok) (w : World) :
    Calls Tryz.prog 116 #[.agg #[.int .u32 p.addr, .int .i64 p.len]] w fun e w' => e = .returned (.agg #[.int .u32 (normF p).addr, .int .i64 (normF p).len]) ∧ Below w.heap.size w w' := by
  obtain ⟨a, n⟩ := p
  go_enter Tryz.func116, Tryz.ntmps116
  go_wp2
  go_region_held3 (fun w' => w'.cell? ⟨w.heap.size, 0, none⟩ = some (.int .u32 a) ∧ w'.cell? ⟨w.heap.size, 1, none⟩ = some (.int .i64 n))
    (first | go_keep)
    (first | (go_at_call 158; refine (rmask_any _ _).mono ?_; rintro e w' ⟨rfl, rfl⟩) | (go_at_call 159; refine (rheld_any _ _).mono ?_; rintro e w' ⟨rfl, rfl⟩))
  have hb : bits .and .u32 (a : Int) ((maskN n : Nat) : Int) = (((normF ⟨a, n⟩).addr : Nat) : Int) := bits_norm a n hp
  rw [hb]
  go_wp2
  exact bodyPost_ret (v := .agg #[.int .u32 (normF ⟨a, n⟩).addr, .int .i64 (normF ⟨a, n⟩).len]) (by simp [results, Tryz.results116, go_sem]; rfl) rfl ⟨rfl, ((bnew _ _).alloc (by simp) _).drew⟩
theorem ris_any (p : Pfx) (hp : p.ok) (w : World) :
    Calls Tryz.prog 68 #[.agg #[.int .u32 p.addr, .int .i64 p.len]] w fun e w' => e = .returned (.bool (isF p)) ∧ Below w.heap.size w w' := by
  obtain ⟨a, n⟩ := p
  have hn := rnorm_any ⟨a, n⟩ hp
  generalize hq : normF ⟨a, n⟩ = q at hn
  have HN := Lib.hid hn
  have HQ := Lib.hid hq
  have heq := eql_pfx q ⟨a, n⟩
  clear hn hq
  go_enter Tryz.func68, Tryz.ntmps68
  go_wp2
  go_region_held3 (fun w' => w'.cell? ⟨w.heap.size, 0, none⟩ = some (.int .u32 a) ∧ w'.cell? ⟨w.heap.size, 1, none⟩ = some (.int .i64 n) ∧ Below w.heap.size w w')
    (refine ⟨?_, ?_, ?_⟩ <;> first | exact (bnew _ _).drew | exact bstep (bnew _ _).drew (by assumption) (by simp) | go_keep)
    (first | (go_at_call 116; refine (HN.out _).mono ?_; rintro e w1 ⟨rfl, hb1⟩; obtain ⟨hc1, -⟩ := bcell hb1))
  go_wp2
  go_ret
  exact ⟨by unfold isF; rw [HQ.out, show decide (({ addr := a, len := n } : Pfx) = q) = decide (q = { addr := a, len := n }) from by rw [Bool.eq_iff_iff]; simp [eq_comm]]; rfl, (by rename_i hh; exact hh.2.2)⟩
set_option maxRecDepth 100000 in
theorem rcast_any (a : Nat) (ha : a < 4294967296) (w : World) :
    Calls Tryz.prog 96 #[.int .u32 a] w fun e w' => e = .returned (.bool (castF a)) ∧ w = w' := by
  by_cases h1 : ((a : Int) / 268435456 == 14) = true
  · have hc : castF a = true := by simp [castF]; simp at h1; omega
    go_enter Tryz.func96, Tryz.ntmps96
    go_wp2
    go_ret
    exact ⟨by rw [hc]; rfl, rfl⟩
  · have hc : castF a = ((a : Int) == 4294967295) := by
      rw [Bool.eq_iff_iff]; simp [castF]; simp at h1; omega
    have HC := Lib.hid hc
    clear hc
    simp only [Bool.not_eq_true] at h1
    go_enter Tryz.func96, Tryz.ntmps96
    go_wp2
    go_ret
    exact ⟨by rw [HC.out]; rfl, rfl⟩
end Go.Proofs.YtnmbbnhgoedjgaaGreatDoor.Ad2

