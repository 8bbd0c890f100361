/- castellanref3.Dec. -/
import Derived.Test.YtefhoecdoemgbaaDoorSt5
namespace Go.Proofs.YtefhoecdoemgbaaDoor.St6
open Go Go.RowKit Go.Proofs.YtefhoecdoemgbaaDoor.Ad0 Go.Proofs.YtefhoecdoemgbaaDoor.Ad1 Go.Proofs.YtefhoecdoemgbaaDoor.Ad3 Go.Proofs.YtefhoecdoemgbaaDoor.St0 Go.Proofs.YtefhoecdoemgbaaDoor.St1 Go.Proofs.YtefhoecdoemgbaaDoor.St2 Go.Proofs.YtefhoecdoemgbaaDoor.St3 Go.Proofs.YtefhoecdoemgbaaDoor.St4 Go.Proofs.YtefhoecdoemgbaaDoor.B1
set_option linter.unusedVariables false
set_option linter.unusedSimpArgs false

theorem dec_small (n : Nat) (h10 : n < 10) (w : World) :
    Calls Tryd.prog 21 #[.int .i64 n] w fun e w' => e = .returned (.string ⟨(Lib.decDigits n).toArray⟩) ∧ Below w.heap.size w w' := by
  have hc := run_convert_bytes_back (P := Tryd.prog) (w.alloc (.cells #[.int .u8 (48 + (n : Int))] 5)) 57 9 5 ⟨w.heap.size, 0, none⟩ 1 [UInt8.ofNat (48 + n)] Tryd.underlying57 Tryd.underlying5 Tryd.underlying9 (fun j hj => by
    have : j = 0 := by simpa using hj
    subst this
    refine (cell_of_row _ _ 0 _ _ _ (heap_alloc_new w _)).trans ?_
    have e : (UInt8.ofNat (48 + n)).toNat = 48 + n := by simp; omega
    simp only [List.getElem_cons_zero, e]
    rfl)
  rw [Lib.decDigits_one h10]
  have h0 : (0 : Int) ≤ n := by omega
  have h9 : (n : Int) < 10 := by omega
  simp only [List.length_cons, List.length_nil] at hc
  generalize ([UInt8.ofNat (48 + n)].toArray) = y at hc ⊢
  clear h10
  generalize (n : Int) = m at hc h0 h9 ⊢
  go_enter Tryd.func21, Tryd.ntmps21
  go_wp2_with fail
  go_ret
  exact ⟨rfl, bnew _ _⟩
theorem dec_bound (n : Nat) : (Lib.decDigits n).length ≤ n + 1 := by
  induction n using Nat.strongRecOn with
  | _ n ih =>
    rw [Lib.decDigits]
    split
    · simp
    · have := ih (n / 10) (by omega)
      simp only [List.length_append, List.length_cons, List.length_nil]
      omega
theorem dec_any (n : Nat) : ∀ (hn : n ≤ 9223372036854775807) (w : World),
    Calls Tryd.prog 21 #[.int .i64 n] w fun e w' => e = .returned (.string ⟨(Lib.decDigits n).toArray⟩) ∧ Below w.heap.size w w' := by
  induction n using Nat.strongRecOn with
  | _ n ih =>
    intro hn w
    by_cases h10 : n < 10
    · exact dec_small n h10 w
    · have h9 : ¬ (n : Int) < 10 := by omega
      have h0 : (0 : Int) ≤ n := by omega
      have hm : (n : Int) ≤ 9223372036854775807 := by omega
      have e1 : ((n / 10 : Nat) : Int) = (n : Int) / 10 := by omega
      have e2 : ((n % 10 : Nat) : Int) = (n : Int) % 10 := by omega
      have e3 : Lib.decDigits n = Lib.decDigits (n / 10) ++ Lib.decDigits (n % 10) := by
        rw [Lib.decDigits, dif_neg h10, Lib.decDigits_one (show n % 10 < 10 by omega)]
      have b1 := dec_bound (n / 10)
      have b2 := dec_bound (n % 10)
      have h1 := fun w => ih (n / 10) (by omega) (by omega) w
      have h2 := fun w => ih (n % 10) (by omega) (by omega) w
      rw [e1] at h1
      rw [e2] at h2
      rw [e3]
      have z1 : (⟨(Lib.decDigits (n / 10)).toArray⟩ : ByteArray).size = (Lib.decDigits (n / 10)).length := by rw [size_data]
      have z2 : (⟨(Lib.decDigits (n % 10)).toArray⟩ : ByteArray).size = (Lib.decDigits (n % 10)).length := by rw [size_data]
      have e4 : (⟨(Lib.decDigits (n / 10)).toArray⟩ : ByteArray) ++ ⟨(Lib.decDigits (n % 10)).toArray⟩ = ⟨(Lib.decDigits (n / 10) ++ Lib.decDigits (n % 10)).toArray⟩ := by
        apply ByteArray.ext
        simp [ByteArray.data_append]
      rw [← e4]
      generalize (⟨(Lib.decDigits (n / 10)).toArray⟩ : ByteArray) = s1 at h1 z1 ⊢
      generalize (⟨(Lib.decDigits (n % 10)).toArray⟩ : ByteArray) = s2 at h2 z2 ⊢
      have hadd := fun W => run_string_add_sum (P := Tryd.prog) W s1 s2 (by omega)
      have hno : ¬ (9223372036854775807 < s1.size + s2.size) := by omega
      generalize s1 ++ s2 = s3 at hadd ⊢
      clear ih b1 b2 z1 z2 e1 e2 e3 e4 hn h10
      have H1 := Lib.hid h1
      have H2 := Lib.hid h2
      clear h1 h2
      generalize (n : Int) = m at h0 h9 hm H1 H2 ⊢
      go_enter Tryd.func21, Tryd.ntmps21
      go_wp2_with (first
        | (go_at_call 21; (with_reducible refine (H1.out _).mono ?_); rintro e w1 ⟨rfl, hb1⟩)
        | (go_at_call 21; (with_reducible refine (H2.out _).mono ?_); rintro e w2 ⟨rfl, hb2⟩))
      go_ret
      exact ⟨rfl, bstep hb1 hb2 hb1.size⟩
end Go.Proofs.YtefhoecdoemgbaaDoor.St6
