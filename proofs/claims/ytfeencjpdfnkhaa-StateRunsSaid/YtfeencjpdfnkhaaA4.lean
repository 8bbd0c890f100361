/- StateRuns: the walk. -/
import Derived.Test.YtfeencjpdfnkhaaA3
import Derived.Deep.QuietTactic
import Derived.BigQuiet
import Derived.LoopTactic
namespace Go.Proofs.Ytfeencjpdfnkhaa.A4
set_option linter.unusedVariables false
set_option linter.unusedSimpArgs false
open Go.RowKit Go.Proofs.Ytfeencjpdfnkhaa.S1 Go.Proofs.Ytfeencjpdfnkhaa.S2 Go.Proofs.Ytfeencjpdfnkhaa.S3

def ReadsI (w : World) (A : Option Addr) (xs : List Int) : Prop := ∀ i, i < xs.length → ∃ ad, A = some ad ∧ w.cell? (ad.add i) = some (.int .i64 (xs.getD i 0))

/-- What the law's tests say of a state, the one behind it, what the flags tell, and whether there was an answer: none fails. -/
def okStep (sv t y : Int) (an : Bool) : Prop := 1 ≤ t ∧ t ≤ 6 ∧ (sv = 6 → t = 6) ∧ (y ≠ 0 → t = 6) ∧ (an = false → t ≠ 3 ∧ t ≠ 2)

theorem step_in (s : Int) (b a : Bool) (f : Int) (h0 : 1 ≤ s) (h1 : s ≤ 6) (h : a = false → s ≠ 3 ∧ s ≠ 2) : okStep s (stepF s b f) (bits .and .i64 f 4) (a || b) := by
  unfold okStep
  have h6 : s = 1 ∨ s = 2 ∨ s = 3 ∨ s = 4 ∨ s = 5 ∨ s = 6 := by omega
  cases a
  · have h' := h rfl
    rcases h6 with rfl | rfl | rfl | rfl | rfl | rfl <;> cases b <;> simp [stepF, finF] <;> (repeat' split) <;> simp_all <;> omega
  · rcases h6 with rfl | rfl | rfl | rfl | rfl | rfl <;> cases b <;> simp [stepF, finF] <;> (repeat' split) <;> simp_all <;> omega

/-- The world is the old one, but for orders drawn. -/
def Drew (w w' : World) : Prop := ∃ n, w' = w.drewN n
theorem Drew.refl (w : World) : Drew w w := ⟨0, rfl⟩
theorem Drew.step {w w' : World} (h : Drew w w') (n : Nat) : Drew w (w'.drewN n) := by
  obtain ⟨m, rfl⟩ := h
  exact ⟨m + n, by rw [World.drewN_drewN]⟩
theorem Drew.cell {w w' : World} (h : Drew w w') (a : Addr) : w'.cell? a = w.cell? a := by
  obtain ⟨m, rfl⟩ := h; rfl
theorem Drew.below {w w' : World} (h : Drew w w') : Below w.heap.size w w' := by
  obtain ⟨m, rfl⟩ := h
  exact ⟨rfl, rfl, rfl, Nat.le_refl _, fun _ _ => rfl⟩
theorem quiet_left {P : Program} {f : FuncId} {args : Array Value} {w : World} {n : Nat} {v : Value}
    (h : Calls P f args (w.drewN n) fun e w' => e = .returned v ∧ w.drewN n = w') : Calls P f args (w.drewN n) fun e w'' => e = .returned v ∧ ∃ m, w'' = w.drewN m :=
  h.mono fun _ _ ⟨he, hm⟩ => ⟨he, n, hm.symm⟩

set_option maxHeartbeats 2000000 in
theorem runs_walk (A B : Option Addr) (c d : Nat) (bs : List Bool) (fs : List Int) (w : World) (hm : bs.length ≤ maxLen) (hm2 : fs.length ≤ maxLen) (hr : ReadsB w A bs) (hq : ReadsI w B fs) :
    Calls Try.prog 3 #[.slice A bs.length c, .slice B fs.length d] w fun e w' => e = .returned (.bool true) ∧ Below w.heap.size w w' := by
  unfold maxLen at hm hm2
  have HR := Lib.hid hr
  have HQ := Lib.hid hq
  clear hr hq
  have hB0 := Below.refl w.heap.size w
  have HB0 := Lib.hid hB0
  clear hB0
  by_cases h20 : (100 : Int) < bs.length
  · go_enter Try.func3, Try.ntmps3
    go_wp2
    go_ret
    exact ⟨rfl, Below.refl _ _⟩
  · by_cases hlen : (fs.length : Int) < bs.length
    · go_enter Try.func3, Try.ntmps3
      go_wp2
      go_ret
      exact ⟨rfl, Below.refl _ _⟩
    · go_enter Try.func3, Try.ntmps3
      go_wp2
      go_loopw [5, 6, 7, 8] (fun s an i wa wr => ∃ (k : Nat) (sv : Int) (ab : Bool), k ≤ bs.length ∧ i = .int .i64 k ∧ s = .int .i64 sv ∧ an = .bool ab ∧ 1 ≤ sv ∧ sv ≤ 6 ∧ (ab = false → sv ≠ 3 ∧ sv ≠ 2) ∧ Drew w wr) (fun _ _ i _ _ => bs.length - (intOf i).toNat)
      case atStart => exact ⟨0, 1, false, Nat.zero_le _, rfl, rfl, rfl, by omega, by omega, fun _ => by omega, Drew.refl _⟩
      case round =>
        obtain ⟨k, sv, ab, hk, rfl, rfl, rfl, h1, h6, h32, hdr⟩ := hrel
        have HDR := Lib.hid hdr
        clear hdr
        by_cases hlt : k < bs.length
        · obtain ⟨ad, rfl, hc⟩ := HR.out k hlt
          obtain ⟨bd, rfl, hd⟩ := HQ.out k (by omega)
          rw [← HDR.out.cell] at hc hd
          generalize bs.getD k false = b at hc
          generalize fs.getD k 0 = f at hd
          have hk2 : k < fs.length := by omega
          have hS := step_in sv b ab f h1 h6 h32
          clear h32 h1 h6
          go_wp2
          go_quiet ((go_at_call 8; exact quiet_left (step_any _ _ _ _)))
          have HD2 := Lib.hid (HDR.out.step nq)
          generalize stepF sv b f = t at hS
          obtain ⟨hs1, hs6, hsc, hsr, hso⟩ := hS
          have HSO := Lib.hid hso
          clear hso
          have hcases : (sv = 6 ∧ t = 6) ∨ (sv ≠ 6 ∧ t = 6) ∨ (sv ≠ 6 ∧ t ≠ 6 ∧ bits .and .i64 f 4 = 0) := by
            by_cases e1 : sv = 6
            · exact .inl ⟨e1, hsc e1⟩
            · by_cases e2 : t = 6
              · exact .inr (.inl ⟨e1, e2⟩)
              · exact .inr (.inr ⟨e1, e2, by by_cases e3 : bits .and .i64 f 4 = 0; exact e3; exact absurd (hsr e3) e2⟩)
          clear hsc hsr
          cases ab <;> cases b <;> rcases hcases with ⟨rfl, rfl⟩ | ⟨e1, rfl⟩ | ⟨e1, e2, e3⟩
          all_goals
            first | (have hso := HSO.out rfl; obtain ⟨e4, e5⟩ := hso) | (have e4 : True := trivial; have e5 : True := trivial)
            go_wp2
            all_goals
              go_roundw
              case rel => exact ⟨k + 1, _, _, by omega, by go_num, rfl, rfl, by omega, by omega, (by first | exact fun _ => HSO.out rfl | (intro h; cases h)), HD2.out⟩
              case measure => simp [intOf]; omega
        · have HB := Lib.hid HDR.out.below
          go_wp2_with (first | (go_at_call 9; refine (known_any _).mono ?_; rintro e w' ⟨rfl, rfl⟩))
          go_ret
          exact ⟨rfl, HB.out⟩
end Go.Proofs.Ytfeencjpdfnkhaa.A4
