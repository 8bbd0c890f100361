/- What prefixes have to do with each other: over numbers alone. -/
import Derived.Test.YtefhoecdoemgbaaDoorAd0
namespace Go.Proofs.YtefhoecdoemgbaaDoor.Ad5
open Go Go.Proofs.YtefhoecdoemgbaaDoor.Ad0

theorem div_norm (a k : Nat) : a / 2 ^ k * 2 ^ k / 2 ^ k = a / 2 ^ k := Nat.mul_div_cancel _ (pow_pos' k)
theorem has_self (p : Pfx) : hasF p p.addr = true := by simp [hasF]
theorem div_wide (q k : Nat) : (q * 2 ^ k + (2 ^ k - 1)) / 2 ^ k = q := by
  have hp := pow_pos' k
  rw [Nat.add_comm, Nat.add_mul_div_right _ _ hp, Nat.div_eq_of_lt (by omega)]
  omega
theorem has_wide (p : Pfx) : hasF p (wideF p) = true := by
  unfold hasF
  exact decide_eq_true (by unfold wideF; rw [div_wide])
theorem norm_norm (p : Pfx) : normF (normF p) = normF p := by
  simp only [normF, sh_held, div_norm, heldF_held]
theorem is_norm (p : Pfx) : isF (normF p) = true := by simp [isF, norm_norm]
theorem has_norm (p : Pfx) (a : Nat) : hasF (normF p) a = hasF p a := by simp only [hasF, normF, sh_held, div_norm]
theorem wide_norm (p : Pfx) : wideF (normF p) = wideF p := by simp only [wideF, normF, sh_held, div_norm]
theorem has_between (p : Pfx) (a : Nat) : hasF (normF p) a = true ↔ (normF p).addr ≤ a ∧ a ≤ wideF (normF p) := by
  rw [has_norm, wide_norm]
  simp only [hasF, wideF, normF, decide_eq_true_eq]
  have hp := pow_pos' (sh p.len)
  generalize 2 ^ sh p.len = m at hp
  generalize p.addr / m = q
  constructor
  · rintro rfl
    have h1 := Nat.div_add_mod a m
    have h2 := Nat.mod_lt a hp
    rw [Nat.mul_comm] at h1
    omega
  · rintro ⟨h1, h2⟩
    have h3 : q ≤ a / m := (Nat.le_div_iff_mul_le hp).2 h1
    have h4 : a / m < q + 1 := (Nat.div_lt_iff_lt_mul hp).2 (by rw [Nat.add_mul]; omega)
    omega
theorem between_eq (p : Pfx) (a : Nat) : hasF (normF p) a = (decide (((normF p).addr : Int) ≤ a) && decide ((a : Int) ≤ (wideF (normF p) : Nat))) := by
  rw [Bool.eq_iff_iff, has_between]
  simp
theorem between_nat (p : Pfx) (a : Nat) : hasF (normF p) a = (decide ((normF p).addr ≤ a) && decide (a ≤ wideF (normF p))) := by
  rw [Bool.eq_iff_iff, has_between]
  simp
theorem sh_mono {m n : Int} (h : heldF m ≤ heldF n) : sh n ≤ sh m := by unfold sh; omega
theorem div_more (a i j : Nat) (h : i ≤ j) : a / 2 ^ j = a / 2 ^ i / 2 ^ (j - i) := by
  rw [Nat.div_div_eq_div_mul, ← Nat.pow_add, show i + (j - i) = j by omega]
theorem covers_has (p q : Pfx) (a : Nat) (h : coversF p q = true) (hq : hasF q a = true) : hasF p a = true := by
  simp only [coversF, Bool.and_eq_true, decide_eq_true_eq] at h
  obtain ⟨h1, h2⟩ := h
  simp only [hasF, decide_eq_true_eq] at *
  rw [h2, div_more _ _ _ (sh_mono h1), div_more a _ _ (sh_mono h1), hq]
theorem covers_self (p : Pfx) : coversF p p = true := by simp [coversF, has_self]
theorem covers_law (p q : Pfx) (a : Nat) : ((!coversF p q || !hasF q a) || hasF p a) = true := by
  cases h1 : coversF p q <;> cases h2 : hasF q a <;> simp
  exact covers_has p q a h1 h2
theorem pair_eq (p q : Pfx) (h1 : coversF (normF p) (normF q) = true) (h2 : coversF (normF q) (normF p) = true) : normF p = normF q := by
  simp only [coversF, Bool.and_eq_true, decide_eq_true_eq] at h1 h2
  have hl : heldF p.len = heldF q.len := by
    have a1 := h1.1
    have a2 := h2.1
    simp only [normF, heldF_held] at a1 a2
    omega
  have hs : sh p.len = sh q.len := by unfold sh; rw [hl]
  have h3 := h1.2
  simp only [hasF, normF, decide_eq_true_eq, sh_held, div_norm, hs] at h3
  simp only [normF, hl, hs, h3]
theorem pair_not (p q : Pfx) (a : Nat) (h1 : coversF p q = false) (h2 : coversF q p = false) : (hasF p a && hasF q a) = false ∧ hasF p q.addr = false ∧ hasF q p.addr = false := by
  have key : ∀ b, ¬ (hasF p b = true ∧ hasF q b = true) := by
    rintro b ⟨hp, hq⟩
    simp only [hasF, decide_eq_true_eq] at hp hq
    rcases (by omega : heldF p.len ≤ heldF q.len ∨ heldF q.len ≤ heldF p.len) with h | h
    · have : coversF p q = true := by
        simp only [coversF, hasF, Bool.and_eq_true, decide_eq_true_eq]
        refine ⟨h, ?_⟩
        rw [hp, div_more b _ _ (sh_mono h), ← hq, ← div_more _ _ _ (sh_mono h)]
      rw [h1] at this; cases this
    · have : coversF q p = true := by
        simp only [coversF, hasF, Bool.and_eq_true, decide_eq_true_eq]
        refine ⟨h, ?_⟩
        rw [hq, div_more b _ _ (sh_mono h), ← hp, ← div_more _ _ _ (sh_mono h)]
      rw [h2] at this; cases this
  refine ⟨?_, ?_, ?_⟩
  · cases h3 : hasF p a <;> cases h4 : hasF q a <;> simp
    exact key a ⟨h3, h4⟩
  · cases h3 : hasF p q.addr with
    | false => rfl
    | true => exact (key _ ⟨h3, has_self q⟩).elim
  · cases h3 : hasF q p.addr with
    | false => rfl
    | true => exact (key _ ⟨has_self p, h3⟩).elim
end Go.Proofs.YtefhoecdoemgbaaDoor.Ad5
