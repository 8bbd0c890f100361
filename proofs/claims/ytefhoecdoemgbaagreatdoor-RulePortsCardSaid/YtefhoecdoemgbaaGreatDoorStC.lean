/- What is printed is read as it was: plain lists of bytes. -/
import Derived.Test.YtefhoecdoemgbaaGreatDoorSt4
import Derived.Test.YtefhoecdoemgbaaGreatDoorSt9
namespace Go.Proofs.YtefhoecdoemgbaaGreatDoor.StC
open Go Go.RowKit Go.Proofs.YtefhoecdoemgbaaGreatDoor.Ad0 Go.Proofs.YtefhoecdoemgbaaGreatDoor.Ad3 Go.Proofs.YtefhoecdoemgbaaGreatDoor.St0 Go.Proofs.YtefhoecdoemgbaaGreatDoor.St1 Go.Proofs.YtefhoecdoemgbaaGreatDoor.St2 Go.Proofs.YtefhoecdoemgbaaGreatDoor.St3 Go.Proofs.YtefhoecdoemgbaaGreatDoor.St4 Go.Proofs.YtefhoecdoemgbaaGreatDoor.St8 Go.Proofs.YtefhoecdoemgbaaGreatDoor.St9
set_option linter.unusedVariables false
set_option linter.unusedSimpArgs false

def goodDec (n : Nat) : Bool := okNum 3 (Lib.decDigits n) && dv (Lib.decDigits n) == n && !(Lib.decDigits n).contains 46 && !(Lib.decDigits n).contains 47
theorem good_all : ∀ m : Fin 256, goodDec m.val = true := by decide +kernel
theorem good (n : Nat) (h : n < 256) : okNum 3 (Lib.decDigits n) = true ∧ dv (Lib.decDigits n) = n ∧ 46 ∉ Lib.decDigits n ∧ 47 ∉ Lib.decDigits n := by
  have := good_all ⟨n, h⟩
  unfold goodDec at this
  simpa [and_assoc] using this
theorem octF_lt (a j : Nat) : octF a j < 256 := Nat.mod_lt _ (by decide)
theorem printL_eq (a : Nat) : printL a = Lib.decDigits (octF a 0) ++ 46 :: (Lib.decDigits (octF a 1) ++ 46 :: (Lib.decDigits (octF a 2) ++ 46 :: Lib.decDigits (octF a 3))) := by
  unfold printL
  simp [octL, Lib.join, List.intercalate, List.intersperse, octS_list]
theorem print_parts (a : Nat) : parts 46 (printL a) = [Lib.decDigits (octF a 0), Lib.decDigits (octF a 1), Lib.decDigits (octF a 2), Lib.decDigits (octF a 3)] := by
  rw [printL_eq, parts_append _ _ _ (good _ (octF_lt a 0)).2.2.1, parts_append _ _ _ (good _ (octF_lt a 1)).2.2.1, parts_append _ _ _ (good _ (octF_lt a 2)).2.2.1, parts_none _ _ (good _ (octF_lt a 3)).2.2.1]
theorem print_no (a : Nat) : 47 ∉ printL a := by
  have h0 := (good _ (octF_lt a 0)).2.2.2
  have h1 := (good _ (octF_lt a 1)).2.2.2
  have h2 := (good _ (octF_lt a 2)).2.2.2
  have h3 := (good _ (octF_lt a 3)).2.2.2
  rw [printL_eq]
  simp [h0, h1, h2, h3]
theorem oct_sum (a : Nat) (ha : a < 4294967296) : ((octF a 0 * 256 + octF a 1) * 256 + octF a 2) * 256 + octF a 3 = a := by
  unfold octF
  simp
  omega
theorem okP_dec (a j : Nat) : okP (Lib.decDigits (octF a j)) = true := by
  have h := good _ (octF_lt a j)
  have hl := octF_lt a j
  unfold okP
  rw [h.1, h.2.1]
  simp; omega
theorem back_addr (a : Nat) (ha : a < 4294967296) : parseL (printL a) = some a := by
  unfold parseL
  rw [print_parts, num4_ok _ _ _ _ (okP_dec a 0) (okP_dec a 1) (okP_dec a 2) (okP_dec a 3)]
  have e0 := (good _ (octF_lt a 0)).2.1
  have e1 := (good _ (octF_lt a 1)).2.1
  have e2 := (good _ (octF_lt a 2)).2.1
  have e3 := (good _ (octF_lt a 3)).2.1
  have hs := oct_sum a ha
  generalize Lib.decDigits (octF a 0) = l0 at *
  generalize Lib.decDigits (octF a 1) = l1 at *
  generalize Lib.decDigits (octF a 2) = l2 at *
  generalize Lib.decDigits (octF a 3) = l3 at *
  have : accF [l0, l1, l2, l3] 4 = (((0 * 256 + dv l0) * 256 + dv l1) * 256 + dv l2) * 256 + dv l3 := rfl
  rw [this, e0, e1, e2, e3, Nat.zero_mul, Nat.zero_add, hs]
theorem back_pfx (a n : Nat) (ha : a < 4294967296) (hn : n ≤ 32) : prefL (printP ⟨a, n⟩) = some ⟨a, n⟩ := by
  have h := good n (by omega)
  rw [pref_parts]
  unfold printP
  rw [if_pos (by simp; omega)]
  rw [show Lib.itoa ((⟨a, n⟩ : Pfx).len) = Lib.decDigits n from itoa_nat n]
  rw [parts_append _ _ _ (print_no a), parts_none _ _ h.2.2.2]
  have hk : okM 32 (Lib.decDigits n) = true := by
    unfold okM
    rw [h.1, h.2.1]; simpa using hn
  simp only [prefR, hk, if_true, back_addr a ha, Option.map_some, h.2.1]
end Go.Proofs.YtefhoecdoemgbaaGreatDoor.StC
