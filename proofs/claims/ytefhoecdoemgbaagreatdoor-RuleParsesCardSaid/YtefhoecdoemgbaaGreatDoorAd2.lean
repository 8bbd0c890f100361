/- Contracts of the reference's functions over addresses and prefixes (castellanref3): what each returns; what lay in memory is as it was. -/
import Derived.Test.YtefhoecdoemgbaaGreatDoorAd1
namespace Go.Proofs.YtefhoecdoemgbaaGreatDoor.Ad2
open Go Go.RowKit Go.Proofs.YtefhoecdoemgbaaGreatDoor.Ad0 Go.Proofs.YtefhoecdoemgbaaGreatDoor.Ad1
set_option linter.unusedVariables false
set_option linter.unusedSimpArgs false

theorem maskU (n : Int) : (IntKind.u64.wrap (4294967295 * 2 ^ (32 - heldF n).toNat) % 4294967296 : Int) = (maskN n : Int) := by
  rw [← maskI n, IntKind.wrap_u64]
  exact Int.emod_emod_of_dvd _ (by decide)

theorem rheld_any (n : Int) (w : World) : Calls Tryz.prog 113 #[.int .i64 n] w fun e w' => e = .returned (.int .i64 (heldF n)) ∧ w = w' := by
  go_enter Tryz.func113, Tryz.ntmps113
  go_wp2
  all_goals (go_ret; exact ⟨by simp [heldF] <;> (repeat' split) <;> omega, rfl⟩)
theorem rmask_any (n : Int) (w : World) : Calls Tryz.prog 112 #[.int .i64 n] w fun e w' => e = .returned (.int .u32 (maskN n : Nat)) ∧ w = w' := by
  have h0 := heldF_lo n
  have h1 := heldF_hi n
  have hm := Lib.hid (maskU n)
  go_enter Tryz.func112, Tryz.ntmps112
  go_wp2_with (go_at_call 113; refine (rheld_any _ _).mono ?_; rintro e w' ⟨rfl, rfl⟩)
  go_ret
  exact ⟨by rw [← hm.out]; rfl, rfl⟩

theorem rnorm_any (p : Pfx) (hp : p.ok) (w : World) :
    Calls Tryz.prog 97 #[.agg #[.int .u32 p.addr, .int .i64 p.len]] w fun e w' => e = .returned (.agg #[.int .u32 (normF p).addr, .int .i64 (normF p).len]) ∧ Below w.heap.size w w' := by
  obtain ⟨a, n⟩ := p
  go_enter Tryz.func97, Tryz.ntmps97
  go_wp2
  go_region_held3 (fun w' => w'.cell? ⟨w.heap.size, 0, none⟩ = some (.int .u32 a) ∧ w'.cell? ⟨w.heap.size, 1, none⟩ = some (.int .i64 n))
    (first | go_keep)
    (first | (go_at_call 112; refine (rmask_any _ _).mono ?_; rintro e w' ⟨rfl, rfl⟩) | (go_at_call 113; refine (rheld_any _ _).mono ?_; rintro e w' ⟨rfl, rfl⟩))
  have hb : bits .and .u32 (a : Int) ((maskN n : Nat) : Int) = (((normF ⟨a, n⟩).addr : Nat) : Int) := bits_norm a n hp
  rw [hb]
  go_wp2
  exact bodyPost_ret (v := .agg #[.int .u32 (normF ⟨a, n⟩).addr, .int .i64 (normF ⟨a, n⟩).len]) (by simp [results, Tryz.results97, go_sem]; rfl) rfl ⟨rfl, ((bnew _ _).alloc (by simp) _).drew⟩
theorem ris_any (p : Pfx) (hp : p.ok) (w : World) :
    Calls Tryz.prog 76 #[.agg #[.int .u32 p.addr, .int .i64 p.len]] w fun e w' => e = .returned (.bool (isF p)) ∧ Below w.heap.size w w' := by
  obtain ⟨a, n⟩ := p
  have hn := rnorm_any ⟨a, n⟩ hp
  generalize hq : normF ⟨a, n⟩ = q at hn
  have HN := Lib.hid hn
  have HQ := Lib.hid hq
  have heq := eql_pfx q ⟨a, n⟩
  clear hn hq
  go_enter Tryz.func76, Tryz.ntmps76
  go_wp2
  go_region_held3 (fun w' => w'.cell? ⟨w.heap.size, 0, none⟩ = some (.int .u32 a) ∧ w'.cell? ⟨w.heap.size, 1, none⟩ = some (.int .i64 n) ∧ Below w.heap.size w w')
    (refine ⟨?_, ?_, ?_⟩ <;> first | exact (bnew _ _).drew | exact bstep (bnew _ _).drew (by assumption) (by simp) | go_keep)
    (first | (go_at_call 97; refine (HN.out _).mono ?_; rintro e w1 ⟨rfl, hb1⟩; obtain ⟨hc1, -⟩ := bcell hb1))
  go_wp2
  go_ret
  exact ⟨by unfold isF; rw [HQ.out, show decide (({ addr := a, len := n } : Pfx) = q) = decide (q = { addr := a, len := n }) from by rw [Bool.eq_iff_iff]; simp [eq_comm]]; rfl, (by rename_i hh; exact hh.2.2)⟩

end Go.Proofs.YtefhoecdoemgbaaGreatDoor.Ad2
