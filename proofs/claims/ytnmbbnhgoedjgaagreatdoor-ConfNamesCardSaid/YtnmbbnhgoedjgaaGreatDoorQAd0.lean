/- Plain arithmetic of masks and prefixes: over numbers alone. -/
import Derived.Laws.BitsAllLaws
namespace Go.Proofs.YtnmbbnhgoedjgaaGreatDoor.Ad0
open Go
def heldF (n : Int) : Int := if n < 0 then 0 else if 32 < n then 32 else n
theorem heldF_lo (n : Int) : 0 ≤ heldF n := by unfold heldF; split; omega; split <;> omega
theorem heldF_hi (n : Int) : heldF n ≤ 32 := by unfold heldF; split; omega; split <;> omega
/-- How many low bits a prefix of n bits leaves open. -/
def sh (n : Int) : Nat := (32 - heldF n).toNat
theorem sh_le (n : Int) : sh n ≤ 32 := by have := heldF_lo n; unfold sh; omega
def maskN (n : Int) : Nat := 2 ^ 32 - 2 ^ sh n
structure Pfx where
  addr : Nat
  len : Int
  deriving DecidableEq
def Pfx.ok (p : Pfx) : Prop := p.addr < 4294967296
def normF (p : Pfx) : Pfx := ⟨p.addr / 2 ^ sh p.len * 2 ^ sh p.len, heldF p.len⟩
def isF (p : Pfx) : Bool := decide (p = normF p)
def castF (a : Nat) : Bool := decide (3758096384 ≤ a ∧ a < 4026531840) || decide (a = 4294967295)
theorem pow_pos' (k : Nat) : 0 < 2 ^ k := Nat.pow_pos (by decide)
theorem pow_le {k : Nat} (h : k ≤ 32) : 2 ^ k ≤ 4294967296 := by
  have := Nat.pow_le_pow_right (show 0 < 2 by decide) h
  simpa using this
theorem mask_lt (n : Int) : maskN n < 4294967296 := by
  have := pow_pos' (sh n); unfold maskN; omega
theorem and_mask (x k : Nat) (hx : x < 4294967296) (hk : k ≤ 32) : x &&& (2 ^ 32 - 2 ^ k) = x / 2 ^ k * 2 ^ k := by
  have h1 : 2 ^ 32 - 2 ^ k = (2 ^ (32 - k) - 1) <<< k := by
    rw [Nat.shiftLeft_eq, Nat.sub_mul, Nat.one_mul, ← Nat.pow_add, show 32 - k + k = 32 by omega]
  rw [h1]
  apply Nat.eq_of_testBit_eq
  intro i
  rw [← Nat.shiftLeft_eq, ← Nat.shiftRight_eq_div_pow]
  simp only [Nat.testBit_and, Nat.testBit_shiftLeft, Nat.testBit_two_pow_sub_one, Nat.testBit_shiftRight]
  by_cases hki : k ≤ i
  · by_cases hi : i < 32
    · simp [hki, show i - k < 32 - k by omega, show k + (i - k) = i by omega]
    · have : x.testBit i = false := Nat.testBit_lt_two_pow (Nat.lt_of_lt_of_le hx (by
        have := Nat.pow_le_pow_right (show 0 < 2 by decide) (show 32 ≤ i by omega)
        simpa using this))
      simp [hki, this, show k + (i - k) = i by omega]
  · simp [hki]
theorem bits_norm (a : Nat) (n : Int) (ha : a < 4294967296) : bits .and .u32 (a : Int) ((maskN n : Nat) : Int) = (((normF ⟨a, n⟩).addr : Nat) : Int) := by
  rw [u32_and_nat _ _ ha (mask_lt n)]
  unfold maskN
  rw [and_mask _ _ ha (sh_le n)]
  rfl
theorem maskI (n : Int) : (4294967295 * 2 ^ (32 - heldF n).toNat % 4294967296 : Int) = (maskN n : Int) := by
  have hk := sh_le n
  show (4294967295 * 2 ^ sh n % 4294967296 : Int) = _
  have e : (4294967295 * 2 ^ sh n % 4294967296 : Nat) = maskN n := by
    unfold maskN
    have h1 : 4294967295 * 2 ^ sh n = 4294967296 * (2 ^ sh n - 1) + (4294967296 - 2 ^ sh n) := by
      have := pow_le hk
      have := pow_pos' (sh n)
      omega
    rw [h1, Nat.mul_add_mod]
    have := pow_pos' (sh n)
    exact Nat.mod_eq_of_lt (by omega)
  rw [← e]
  simp
end Go.Proofs.YtnmbbnhgoedjgaaGreatDoor.Ad0

