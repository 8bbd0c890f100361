/- AddrHas: the walk. -/
import Derived.Test.YtfeencjpdfnkhaaDoorAd4
namespace Go.Proofs.YtfeencjpdfnkhaaDoor.Ad6
open Go Go.RowKit Go.Proofs.YtfeencjpdfnkhaaDoor.Ad0 Go.Proofs.YtfeencjpdfnkhaaDoor.Ad1 Go.Proofs.YtfeencjpdfnkhaaDoor.Ad2 Go.Proofs.YtfeencjpdfnkhaaDoor.Ad3 Go.Proofs.YtfeencjpdfnkhaaDoor.Ad5 Go.Proofs.YtfeencjpdfnkhaaDoor.Ad4
set_option linter.unusedVariables false
set_option linter.unusedSimpArgs false

set_option maxRecDepth 100000 in
set_option maxHeartbeats 4000000 in
theorem has_walk (p q : Pfx) (hp : p.ok) (hq : q.ok) (a : Nat) (ha : a < 4294967296) (w : World) :
    Calls Tryd.prog 3 #[.agg #[.int .u32 p.addr, .int .i64 p.len], .agg #[.int .u32 q.addr, .int .i64 q.len], .int .u32 a] w fun e w' => e = .returned (.bool true) ∧ Below w.heap.size w w' := by
  have hnp := norm_lt hp
  have hnq := norm_lt hq
  have hz : w.heap.size < w.heap.size + 1 + 1 := by omega
  go_enter Tryd.func3, Tryd.ntmps3
  go_upto_region 1 with (fail)
  go_cut [9, 10, 11, 12] (fun v7 v8 v9 v10 wc => Two w (normF p) (normF q) wc)
  case first =>
    go_region_with (first
      | (go_at_call 7; with_reducible refine (rnorm_any p hp _).mono ?_; rintro e v1 ⟨rfl, hb1⟩; obtain ⟨hc1, hf1⟩ := bcell hb1; obtain ⟨hz1, hy1⟩ := szs (g := w.heap.size) hb1 (by first | assumption | (simp <;> omega)))
      | (go_at_call 7; with_reducible refine (rnorm_any q hq _).mono ?_; rintro e v1 ⟨rfl, hb1⟩; obtain ⟨hc1, hf1⟩ := bcell hb1; obtain ⟨hz1, hy1⟩ := szs (g := w.heap.size) hb1 (by first | assumption | (simp <;> omega))))
    all_goals
      go_wp2
      go_meet
      case rel => exact two_end (by assumption) (by assumption)
  case rest =>
    have HT := Lib.hid hcut
    have hwp : wideF (normF p) < 4294967296 := wide_lt hnp
    have k0 := Lib.hid (fun W => wide_any (normF p) hnp W)
    have k1 := Lib.hid (fun W => has_any (normF p) (normF p).addr hnp hnp W)
    have k2 := Lib.hid (fun W => has_any (normF p) (wideF (normF p)) hnp hwp W)
    have k3 := Lib.hid (fun W => has_any (normF p) a hnp ha W)
    have k4 := Lib.hid (fun W => has_any (normF q) a hnq ha W)
    have k5 := Lib.hid (fun W => covers_any (normF p) (normF q) hnp hnq W)
    have k6 := Lib.hid (fun W => covers_any (normF p) (normF p) hnp hnp W)
    rw [has_self] at k1
    rw [has_wide] at k2
    rw [covers_self] at k6
    have hb := between_nat p a
    have hc := covers_law (normF p) (normF q) a
    generalize normF p = P at *
    generalize normF q = Q at *
    generalize wideF P = wd at *
    generalize hasF P a = x1 at *
    generalize hasF Q a = x2 at *
    generalize coversF P Q = x3 at *
    obtain ⟨d0, d1, d2, d3, -⟩ := HT.out
    clear hcut
    go_upto_region 3 with (first
        | (go_at_call 8; (with_reducible refine (k0.out _).mono ?_); rintro e v1 ⟨rfl, hb1⟩; have HT := two_step HT hb1; clear hb1; obtain ⟨d0, d1, d2, d3, -⟩ := HT.out))
    go_cut [8, 15, 16, 17, 18, 19, 20, 21, 22, 23] (fun v8 _ _ _ _ _ _ _ _ _ wc => v8 = .bool x1 ∧ Two w P Q wc)
    case first =>
      clear hc
      by_cases b1 : P.addr ≤ a
      · have n1 : decide (P.addr ≤ a) = true := by simpa using b1
        by_cases b2 : a ≤ wd
        · have n2 : decide (a ≤ wd) = true := by simpa using b2
          have hx : x1 = true := by rw [hb]; simp [b1, b2]
          have HX := Lib.hid hx
          clear hx hb
          go_wp2
          go_meet
          case rel => exact ⟨by rw [HX.out], HT.out⟩
        · have n2 : decide (a ≤ wd) = false := by simpa using b2
          have hx : x1 = false := by rw [hb]; simp [b1, b2]
          have HX := Lib.hid hx
          clear hx hb
          go_wp2
          go_meet
          case rel => exact ⟨by rw [HX.out], HT.out⟩
      · have n1 : decide (P.addr ≤ a) = false := by simpa using b1
        have hx : x1 = false := by rw [hb]; simp [b1]
        have HX := Lib.hid hx
        clear hx hb
        go_wp2
        go_meet
        case rel => exact ⟨by rw [HX.out], HT.out⟩
    case rest =>
    obtain ⟨rfl, hT2⟩ := hcut
    have HT := Lib.hid hT2
    clear hT2 hb
    obtain ⟨d0, d1, d2, d3, -⟩ := HT.out
    cases x1 <;> cases x2 <;> cases x3
    all_goals
      first
        | (exfalso; simp only [Bool.not_true, Bool.not_false, Bool.or_self, Bool.or_true, Bool.or_false, Bool.true_or, Bool.false_or] at hc; exact absurd hc (by decide))
        | skip
    all_goals
      clear hc
      go_wp2_with (first
        | (go_at_call 9; (with_reducible refine (k1.out _).mono ?_); rintro e v1 ⟨rfl, hb1⟩; have HT := two_step HT hb1; clear hb1; obtain ⟨d0, d1, d2, d3, -⟩ := HT.out)
        | (go_at_call 9; (with_reducible refine (k2.out _).mono ?_); rintro e v1 ⟨rfl, hb1⟩; have HT := two_step HT hb1; clear hb1; obtain ⟨d0, d1, d2, d3, -⟩ := HT.out)
        | (go_at_call 9; (with_reducible refine (k3.out _).mono ?_); rintro e v1 ⟨rfl, hb1⟩; have HT := two_step HT hb1; clear hb1; obtain ⟨d0, d1, d2, d3, -⟩ := HT.out)
        | (go_at_call 9; (with_reducible refine (k4.out _).mono ?_); rintro e v1 ⟨rfl, hb1⟩; have HT := two_step HT hb1; clear hb1; obtain ⟨d0, d1, d2, d3, -⟩ := HT.out)
        | (go_at_call 10; (with_reducible refine (k5.out _).mono ?_); rintro e v1 ⟨rfl, hb1⟩; have HT := two_step HT hb1; clear hb1; obtain ⟨d0, d1, d2, d3, -⟩ := HT.out)
        | (go_at_call 10; (with_reducible refine (k6.out _).mono ?_); rintro e v1 ⟨rfl, hb1⟩; have HT := two_step HT hb1; clear hb1; obtain ⟨d0, d1, d2, d3, -⟩ := HT.out)
        | (go_at_call 11; (with_reducible refine (known_any _).mono ?_); rintro e v1 ⟨rfl, hb1⟩; have HT := two_step HT hb1; clear hb1; obtain ⟨d0, d1, d2, d3, -⟩ := HT.out))
      go_ret
      exact ⟨rfl, HT.out.2.2.2.2.2⟩

end Go.Proofs.YtfeencjpdfnkhaaDoor.Ad6
