/- Contracts of the reference's functions over addresses and prefixes (castellanref3): what each returns; what lay in memory is as it was. -/
import Derived.Test.YtfeencjpdfnkhaaDoorAd1
namespace Go.Proofs.YtfeencjpdfnkhaaDoor.Ad2
open Go Go.RowKit Go.Proofs.YtfeencjpdfnkhaaDoor.Ad0 Go.Proofs.YtfeencjpdfnkhaaDoor.Ad1
set_option linter.unusedVariables false
set_option linter.unusedSimpArgs false

theorem maskU (n : Int) : (IntKind.u64.wrap (4294967295 * 2 ^ (32 - heldF n).toNat) % 4294967296 : Int) = (maskN n : Int) := by
  rw [← maskI n, IntKind.wrap_u64]
  exact Int.emod_emod_of_dvd _ (by decide)

theorem rheld_any (n : Int) (w : World) : Calls Tryd.prog 22 #[.int .i64 n] w fun e w' => e = .returned (.int .i64 (heldF n)) ∧ w = w' := by
  go_enter Tryd.func22, Tryd.ntmps22
  go_wp2
  all_goals (go_ret; exact ⟨by simp [heldF] <;> (repeat' split) <;> omega, rfl⟩)
theorem rmask_any (n : Int) (w : World) : Calls Tryd.prog 15 #[.int .i64 n] w fun e w' => e = .returned (.int .u32 (maskN n : Nat)) ∧ w = w' := by
  have h0 := heldF_lo n
  have h1 := heldF_hi n
  have hm := Lib.hid (maskU n)
  go_enter Tryd.func15, Tryd.ntmps15
  go_wp2_with (go_at_call 22; refine (rheld_any _ _).mono ?_; rintro e w' ⟨rfl, rfl⟩)
  go_ret
  exact ⟨by rw [← hm.out]; rfl, rfl⟩

theorem rhas_any (p : Pfx) (b : Nat) (hp : p.ok) (hb : b < 4294967296) (w : World) :
    Calls Tryd.prog 17 #[.agg #[.int .u32 p.addr, .int .i64 p.len], .int .u32 b] w fun e w' => e = .returned (.bool (hasF p b)) ∧ Below w.heap.size w w' := by
  obtain ⟨a, n⟩ := p
  have hx : bits .and .u32 (bits .xor .u32 (a : Int) (b : Int)) ((maskN n : Nat) : Int) = (((a ^^^ b) &&& maskN n : Nat) : Int) := by
    rw [u32_xor_nat a b hp hb]
    exact u32_and_nat _ _ (Nat.xor_lt_two_pow (n := 32) hp hb) (mask_lt n)
  have hz : ((((a ^^^ b) &&& maskN n : Nat) : Int) == 0) = hasF ⟨a, n⟩ b := by
    rw [Bool.eq_iff_iff, beq_iff_eq]
    unfold hasF
    rw [decide_eq_true_iff]
    exact (by omega : (((a ^^^ b) &&& maskN n : Nat) : Int) = 0 ↔ ((a ^^^ b) &&& maskN n) = 0).trans (xor_mask a b (sh n) hp hb (sh_le n))
  have HZ := Lib.hid hz
  clear hz
  go_enter Tryd.func17, Tryd.ntmps17
  go_wp2
  go_quiet ((go_at_call 15; exact quiet_left (rmask_any _ _)))
  go_wp2
  go_ret
  exact ⟨by rw [← HZ.out]; rfl, bdrewN (bnew _ _) _⟩
theorem rnorm_any (p : Pfx) (hp : p.ok) (w : World) :
    Calls Tryd.prog 7 #[.agg #[.int .u32 p.addr, .int .i64 p.len]] w fun e w' => e = .returned (.agg #[.int .u32 (normF p).addr, .int .i64 (normF p).len]) ∧ Below w.heap.size w w' := by
  obtain ⟨a, n⟩ := p
  go_enter Tryd.func7, Tryd.ntmps7
  go_wp2
  go_region_held3 (fun w' => w'.cell? ⟨w.heap.size, 0, none⟩ = some (.int .u32 a) ∧ w'.cell? ⟨w.heap.size, 1, none⟩ = some (.int .i64 n))
    (first | go_keep)
    (first | (go_at_call 15; refine (rmask_any _ _).mono ?_; rintro e w' ⟨rfl, rfl⟩) | (go_at_call 22; refine (rheld_any _ _).mono ?_; rintro e w' ⟨rfl, rfl⟩))
  have hb : bits .and .u32 (a : Int) ((maskN n : Nat) : Int) = (((normF ⟨a, n⟩).addr : Nat) : Int) := bits_norm a n hp
  rw [hb]
  go_wp2
  exact bodyPost_ret (v := .agg #[.int .u32 (normF ⟨a, n⟩).addr, .int .i64 (normF ⟨a, n⟩).len]) (by simp [results, Tryd.results7, go_sem]; rfl) rfl ⟨rfl, ((bnew _ _).alloc (by simp) _).drew⟩
theorem ris_any (p : Pfx) (hp : p.ok) (w : World) :
    Calls Tryd.prog 16 #[.agg #[.int .u32 p.addr, .int .i64 p.len]] w fun e w' => e = .returned (.bool (isF p)) ∧ Below w.heap.size w w' := by
  obtain ⟨a, n⟩ := p
  have hn := rnorm_any ⟨a, n⟩ hp
  generalize hq : normF ⟨a, n⟩ = q at hn
  have HN := Lib.hid hn
  have HQ := Lib.hid hq
  have heq := eql_pfx q ⟨a, n⟩
  clear hn hq
  go_enter Tryd.func16, Tryd.ntmps16
  go_wp2
  go_region_held3 (fun w' => w'.cell? ⟨w.heap.size, 0, none⟩ = some (.int .u32 a) ∧ w'.cell? ⟨w.heap.size, 1, none⟩ = some (.int .i64 n) ∧ Below w.heap.size w w')
    (refine ⟨?_, ?_, ?_⟩ <;> first | exact (bnew _ _).drew | exact bstep (bnew _ _).drew (by assumption) (by simp) | go_keep)
    (first | (go_at_call 7; refine (HN.out _).mono ?_; rintro e w1 ⟨rfl, hb1⟩; obtain ⟨hc1, -⟩ := bcell hb1))
  go_wp2
  go_ret
  exact ⟨by unfold isF; rw [HQ.out, show decide (({ addr := a, len := n } : Pfx) = q) = decide (q = { addr := a, len := n }) from by rw [Bool.eq_iff_iff]; simp [eq_comm]]; rfl, (by rename_i hh; exact hh.2.2)⟩

theorem rcovers_any (p q : Pfx) (hp : p.ok) (hq : q.ok) (w : World) :
    Calls Tryd.prog 18 #[.agg #[.int .u32 p.addr, .int .i64 p.len], .agg #[.int .u32 q.addr, .int .i64 q.len]] w fun e w' => e = .returned (.bool (coversF p q)) ∧ Below w.heap.size w w' := by
  obtain ⟨a, n⟩ := p
  obtain ⟨b, m⟩ := q
  have hh := rhas_any ⟨a, n⟩ b hp hq
  have HN := Lib.hid hh
  clear hh
  by_cases hle : heldF n ≤ heldF m
  · have hc : coversF ⟨a, n⟩ ⟨b, m⟩ = hasF ⟨a, n⟩ b := by simp [coversF, hle]
    have HC := Lib.hid hc
    have hz : w.heap.size < w.heap.size + 1 + 1 := by omega
    clear hc
    go_enter Tryd.func18, Tryd.ntmps18
    go_wp2
    go_region_held3 (fun w' => w'.cell? ⟨w.heap.size, 0, none⟩ = some (.int .u32 a) ∧ w'.cell? ⟨w.heap.size, 1, none⟩ = some (.int .i64 n) ∧ w'.cell? ⟨w.heap.size + 1, 0, none⟩ = some (.int .u32 b) ∧ w'.cell? ⟨w.heap.size + 1, 1, none⟩ = some (.int .i64 m))
      (first | go_keep)
      (first | (go_at_call 17; refine (HN.out _).mono ?_; rintro e w1 ⟨rfl, hb1⟩; obtain ⟨hc1, -⟩ := bcell hb1) | (go_at_call 22; refine (rheld_any _ _).mono ?_; rintro e w' ⟨rfl, rfl⟩))
    go_wp2
    go_ret
    exact ⟨by rw [HC.out]; rfl, bstep (bnew2 _ _ _).drew hb1 (by simp <;> omega)⟩
  · have hc : coversF ⟨a, n⟩ ⟨b, m⟩ = false := by simp [coversF, hle]
    have HC := Lib.hid hc
    have hd : decide (heldF n ≤ heldF m) = false := by simpa using hle
    clear hc
    go_enter Tryd.func18, Tryd.ntmps18
    go_wp2
    go_quiet ((go_at_call 22; exact quiet_left (rheld_any _ _)))
    go_wp2
    go_ret
    exact ⟨by rw [HC.out]; rfl, bdrewN ((bnew _ _).alloc (by simp) _) _⟩
theorem rwide_any (p : Pfx) (hp : p.ok) (w : World) :
    Calls Tryd.prog 21 #[.agg #[.int .u32 p.addr, .int .i64 p.len]] w fun e w' => e = .returned (.int .u32 (wideF p : Nat)) ∧ Below w.heap.size w w' := by
  obtain ⟨a, n⟩ := p
  go_enter Tryd.func21, Tryd.ntmps21
  go_wp2
  go_quiet ((go_at_call 15; exact quiet_left (rmask_any _ _)))
  go_wp2
  go_ret
  exact ⟨by rw [← bits_rwide a n hp]; rfl, bdrewN (bnew _ _) _⟩
set_option maxRecDepth 100000 in
theorem rcast_any (a : Nat) (ha : a < 4294967296) (w : World) :
    Calls Tryd.prog 20 #[.int .u32 a] w fun e w' => e = .returned (.bool (castF a)) ∧ w = w' := by
  by_cases h1 : ((a : Int) / 268435456 == 14) = true
  · have hc : castF a = true := by simp [castF]; simp at h1; omega
    go_enter Tryd.func20, Tryd.ntmps20
    go_wp2
    go_ret
    exact ⟨by rw [hc]; rfl, rfl⟩
  · have hc : castF a = ((a : Int) == 4294967295) := by
      rw [Bool.eq_iff_iff]; simp [castF]; simp at h1; omega
    have HC := Lib.hid hc
    clear hc
    simp only [Bool.not_eq_true] at h1
    go_enter Tryd.func20, Tryd.ntmps20
    go_wp2
    go_ret
    exact ⟨by rw [HC.out]; rfl, rfl⟩
end Go.Proofs.YtfeencjpdfnkhaaDoor.Ad2
