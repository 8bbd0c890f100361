/- StateLong, over numbers alone: the life of a state is 0 outside the ten states, and else lies between that of a closed flow and that of an open one. -/
import Derived.Test.YtfeencjpdfnkhaaPStateLongx2
namespace Go.Proofs.Ytfeencjpdfnkhaa.Pure
open Go.RowKit Go.Proofs.Ytfeencjpdfnkhaa.PStateLong Go.Proofs.YtfeencjpdfnkhaaW.PrintWords Go.Proofs.YtfeencjpdfnkhaaW.PrintLast

theorem known_8 : castellanlaw16_known.f 9 = some true := by decide +kernel

theorem StateLong : castellanlaw16_StateLong.Pure := by
  intro a _
  refine ⟨10, ?_⟩
  by_cases h1 : a < 1
  · have e1 : a ≠ 1 := by omega
    have e2 : a ≠ 2 := by omega
    have e7 : a ≠ 7 := by omega
    have e10 : a ≠ 10 := by omega
    have e3 : a ≠ 3 := by omega
    have e4 : a ≠ 4 := by omega
    have e5 : a ≠ 5 := by omega
    have e8 : a ≠ 8 := by omega
    have e9 : a ≠ 9 := by omega
    have e6 : a ≠ 6 := by omega
    have ht : state_Ticks.f 10 a = some 0 := by
      simp [state_Ticks.f, state_Ticks.j0, state_Ticks.j1, e1, e2, e3, e4, e5, e6, e7, e8, e9, e10]
    unfold castellanlaw16_StateLong.f
    rw [ht]
    simp only [Option.bind_some, if_pos h1, castellanlaw16_StateLong.j0, if_true, known_8]
  · by_cases h2 : a > 10
    · have e1 : a ≠ 1 := by omega
      have e2 : a ≠ 2 := by omega
      have e7 : a ≠ 7 := by omega
      have e10 : a ≠ 10 := by omega
      have e3 : a ≠ 3 := by omega
      have e4 : a ≠ 4 := by omega
      have e5 : a ≠ 5 := by omega
      have e8 : a ≠ 8 := by omega
      have e9 : a ≠ 9 := by omega
      have e6 : a ≠ 6 := by omega
      have ht : state_Ticks.f 10 a = some 0 := by
        simp [state_Ticks.f, state_Ticks.j0, state_Ticks.j1, e1, e2, e3, e4, e5, e6, e7, e8, e9, e10]
      unfold castellanlaw16_StateLong.f
      rw [ht]
      simp only [Option.bind_some, if_neg h1, h2, decide_true, castellanlaw16_StateLong.j0, if_true, known_8]
    · have h : a = 1 ∨ a = 2 ∨ a = 3 ∨ a = 4 ∨ a = 5 ∨ a = 6 ∨ a = 7 ∨ a = 8 ∨ a = 9 ∨ a = 10 := by omega
      rcases h with rfl | rfl | rfl | rfl | rfl | rfl | rfl | rfl | rfl | rfl <;> decide +kernel

end Go.Proofs.Ytfeencjpdfnkhaa.Pure
