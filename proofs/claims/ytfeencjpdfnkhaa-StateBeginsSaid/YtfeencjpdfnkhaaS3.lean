/- StateShakes, StateBegins: the walks. -/
import Derived.Test.YtfeencjpdfnkhaaS2
import Derived.LoopTactic
import Derived.Outline
import Derived.Deep.CutBlock
namespace Go.Proofs.Ytfeencjpdfnkhaa.S3
open Go.RowKit Go.Proofs.Ytfeencjpdfnkhaa.S1 Go.Proofs.Ytfeencjpdfnkhaa.S2

/-- A slice of bools, as it is read. -/
def ReadsB (w : World) (A : Option Addr) (bs : List Bool) : Prop := ∀ i, i < bs.length → ∃ ad, A = some ad ∧ w.cell? (ad.add i) = some (.bool (bs.getD i false))

theorem step1 : stepF 1 false 2 = 1 := by decide +kernel
theorem step2 : stepF 1 true 18 = 2 := by decide +kernel
theorem step3 : stepF 2 false 16 = 3 := by decide +kernel
theorem stepT (b : Bool) : stepF (stepF (stepF 3 (!b) 17) (!b) 17) b 17 = 6 ∧ stepF (stepF 3 (!b) 17) (!b) 17 ≠ 6 := by cases b <;> decide +kernel

set_option maxHeartbeats 1000000 in
theorem shakes_walk (A : Option Addr) (c : Nat) (bs : List Bool) (first : Bool) (w : World) (hm : bs.length ≤ maxLen) (hr : ReadsB w A bs) :
    Calls Try.prog 4 #[.slice A bs.length c, .bool first] w fun e w' => e = .returned (.bool true) ∧ w = w' := by
  unfold maxLen at hm
  have hT := stepT first
  obtain ⟨hT1, hT2⟩ := hT
  have HT1 := Lib.hid hT1
  have HT2 := Lib.hid hT2
  clear hT1 hT2
  have HR := Lib.hid hr
  clear hr
  by_cases h20 : (20 : Int) < bs.length
  · go_enter Try.func4, Try.ntmps4
    go_wp2
    go_ret
    exact ⟨rfl, rfl⟩
  · go_enter Try.func4, Try.ntmps4
    go_wp2
    go_loop [5, 6] (fun s i => ∃ k : Nat, k ≤ bs.length ∧ i = .int .i64 k ∧ s = .int .i64 1) (fun _ i => bs.length - (intOf i).toNat)
    case atStart => exact ⟨0, Nat.zero_le _, rfl, rfl⟩
    case round =>
      obtain ⟨k, hk, rfl, rfl⟩ := hrel
      by_cases hlt : k < bs.length
      · obtain ⟨ad, rfl, hc⟩ := HR.out k hlt
        have hs1 := step1
        cases hb : bs.getD k false
        all_goals
          rw [hb] at hc
          have HB := Lib.hid hb
          clear hb
          go_wp2_with (go_at_call 8; refine (step_any _ _ _ _).mono ?_; rintro e w' ⟨rfl, rfl⟩)
          go_round
          case rel => exact ⟨k + 1, by omega, by go_num, rfl⟩
          case measure => simp [intOf]; omega
      · have h2 := step2
        have h3 := step3
        go_wp2_with (first | (go_at_call 8; refine (step_any _ _ _ _).mono ?_; rintro e w' ⟨rfl, rfl⟩) | (go_at_call 9; refine (known_any _).mono ?_; rintro e w' ⟨rfl, rfl⟩))
        · rename_i hx _
          exact absurd (beq_iff_eq.1 (by assumption)) HT2.out
        · go_ret
          exact ⟨rfl, rfl⟩

theorem flags_dec : ∀ f : Fin 64, (beginF 0 6 (f.val : Int) 0).2 = ((bits .and .i64 (f.val : Int) 2 != 0) && (bits .and .i64 (f.val : Int) 21 == 0)) ∧
    ((beginF 0 6 (f.val : Int) 0).1 == 1) = ((bits .and .i64 (f.val : Int) 2 != 0) && (bits .and .i64 (f.val : Int) 21 == 0)) := by decide +kernel

theorem flags_all (f : Int) (h0 : 0 ≤ f) (h1 : f ≤ 63) : (beginF 0 6 f 0).2 = ((bits .and .i64 f 2 != 0) && (bits .and .i64 f 21 == 0)) ∧
    ((beginF 0 6 f 0).1 == 1) = ((bits .and .i64 f 2 != 0) && (bits .and .i64 f 21 == 0)) := by
  obtain ⟨n, rfl⟩ := Int.eq_ofNat_of_zero_le h0
  have := flags_dec ⟨n, by omega⟩
  exact this

theorem begins_low (f : Int) (w : World) (h0 : f < 0) :
    Calls Try.prog 7 #[.int .i64 f] w fun e w' => e = .returned (.bool true) ∧ Below w.heap.size w w' := by
  go_enter Try.func7, Try.ntmps7
  go_wp2_with (first | (go_at_call 9; refine (known_any _).mono ?_; rintro e w' ⟨rfl, rfl⟩))
  go_ret
  exact ⟨rfl, Below.refl _ _⟩

theorem begins_high (f : Int) (w : World) (h0 : ¬ f < 0) (h1 : 63 < f) :
    Calls Try.prog 7 #[.int .i64 f] w fun e w' => e = .returned (.bool true) ∧ Below w.heap.size w w' := by
  go_enter Try.func7, Try.ntmps7
  go_wp2_with (first | (go_at_call 9; refine (known_any _).mono ?_; rintro e w' ⟨rfl, rfl⟩))
  go_ret
  exact ⟨rfl, Below.refl _ _⟩
end Go.Proofs.Ytfeencjpdfnkhaa.S3
