/- Plain arithmetic of masks and prefixes: over numbers alone. -/
import Derived.Laws.BitsAllLaws
namespace Go.Proofs.YtefhoecdoemgbaaGreatDoor.Ad0
open Go

def heldF (n : Int) : Int := if n < 0 then 0 else if 32 < n then 32 else n
theorem heldF_lo (n : Int) : 0 ≤ heldF n := by unfold heldF; split; omega; split <;> omega
theorem heldF_hi (n : Int) : heldF n ≤ 32 := by unfold heldF; split; omega; split <;> omega
theorem heldF_in {n : Int} (h0 : 0 ≤ n) (h1 : n ≤ 32) : heldF n = n := by unfold heldF; rw [if_neg (by omega), if_neg (by omega)]
theorem heldF_held (n : Int) : heldF (heldF n) = heldF n := heldF_in (heldF_lo n) (heldF_hi n)
/-- How many low bits a prefix of n bits leaves open. -/
def sh (n : Int) : Nat := (32 - heldF n).toNat
theorem sh_le (n : Int) : sh n ≤ 32 := by have := heldF_lo n; unfold sh; omega
theorem sh_held (n : Int) : sh (heldF n) = sh n := by unfold sh; rw [heldF_held]
def maskN (n : Int) : Nat := 2 ^ 32 - 2 ^ sh n

structure Pfx where
  addr : Nat
  len : Int
  deriving DecidableEq
def Pfx.ok (p : Pfx) : Prop := p.addr < 4294967296
def normF (p : Pfx) : Pfx := ⟨p.addr / 2 ^ sh p.len * 2 ^ sh p.len, heldF p.len⟩
def hasF (p : Pfx) (a : Nat) : Bool := decide (p.addr / 2 ^ sh p.len = a / 2 ^ sh p.len)
def coversF (p q : Pfx) : Bool := decide (heldF p.len ≤ heldF q.len) && hasF p q.addr
def wideF (p : Pfx) : Nat := p.addr / 2 ^ sh p.len * 2 ^ sh p.len + (2 ^ sh p.len - 1)
def isF (p : Pfx) : Bool := decide (p = normF p)
def castF (a : Nat) : Bool := decide (3758096384 ≤ a ∧ a < 4026531840) || decide (a = 4294967295)

theorem pow_pos' (k : Nat) : 0 < 2 ^ k := Nat.pow_pos (by decide)
theorem pow_dvd {k : Nat} (h : k ≤ 32) : 2 ^ k * 2 ^ (32 - k) = 4294967296 := by
  rw [← Nat.pow_add, show k + (32 - k) = 32 by omega]
theorem pow_le {k : Nat} (h : k ≤ 32) : 2 ^ k ≤ 4294967296 := by
  have := Nat.pow_le_pow_right (show 0 < 2 by decide) h
  simpa using this

theorem mask_lt (n : Int) : maskN n < 4294967296 := by
  have := pow_pos' (sh n); unfold maskN; omega

theorem and_mask (x k : Nat) (hx : x < 4294967296) (hk : k ≤ 32) : x &&& (2 ^ 32 - 2 ^ k) = x / 2 ^ k * 2 ^ k := by
  have h1 : 2 ^ 32 - 2 ^ k = (2 ^ (32 - k) - 1) <<< k := by
    rw [Nat.shiftLeft_eq, Nat.sub_mul, Nat.one_mul, ← Nat.pow_add, show 32 - k + k = 32 by omega]
  rw [h1]
  apply Nat.eq_of_testBit_eq
  intro i
  rw [← Nat.shiftLeft_eq, ← Nat.shiftRight_eq_div_pow]
  simp only [Nat.testBit_and, Nat.testBit_shiftLeft, Nat.testBit_two_pow_sub_one, Nat.testBit_shiftRight]
  by_cases hki : k ≤ i
  · by_cases hi : i < 32
    · simp [hki, show i - k < 32 - k by omega, show k + (i - k) = i by omega]
    · have : x.testBit i = false := Nat.testBit_lt_two_pow (Nat.lt_of_lt_of_le hx (by
        have := Nat.pow_le_pow_right (show 0 < 2 by decide) (show 32 ≤ i by omega)
        simpa using this))
      simp [hki, this, show k + (i - k) = i by omega]
  · simp [hki]

theorem or_low (x k : Nat) : x ||| (2 ^ k - 1) = x / 2 ^ k * 2 ^ k + (2 ^ k - 1) := by
  have hlt : 2 ^ k - 1 < 2 ^ k := by have := pow_pos' k; omega
  rw [← Nat.shiftLeft_eq, Nat.shiftLeft_add_eq_or_of_lt hlt, ← Nat.shiftRight_eq_div_pow]
  apply Nat.eq_of_testBit_eq
  intro i
  simp only [Nat.testBit_or, Nat.testBit_shiftLeft, Nat.testBit_two_pow_sub_one, Nat.testBit_shiftRight]
  by_cases hki : k ≤ i
  · simp [hki, show ¬ i < k by omega, show k + (i - k) = i by omega]
  · simp [hki, show i < k by omega]

theorem div_le (x k : Nat) : x / 2 ^ k * 2 ^ k ≤ x := Nat.div_mul_le_self x _
theorem norm_lt {p : Pfx} (h : p.ok) : (normF p).ok := Nat.lt_of_le_of_lt (div_le _ _) h
theorem not_mask (k : Nat) (hk : k ≤ 32) : 4294967295 ^^^ (2 ^ 32 - 2 ^ k) = 2 ^ k - 1 := by
  have h1 : 2 ^ 32 - 2 ^ k = (2 ^ (32 - k) - 1) <<< k := by
    rw [Nat.shiftLeft_eq, Nat.sub_mul, Nat.one_mul, ← Nat.pow_add, show 32 - k + k = 32 by omega]
  rw [h1]
  apply Nat.eq_of_testBit_eq
  intro i
  rw [show (4294967295 : Nat) = 2 ^ 32 - 1 from rfl]
  simp only [Nat.testBit_xor, Nat.testBit_shiftLeft, Nat.testBit_two_pow_sub_one]
  by_cases hki : k ≤ i
  · by_cases hi : i < 32
    · simp [hki, hi, show i - k < 32 - k by omega, show ¬ i < k by omega]
    · simp [hki, hi, show ¬ i - k < 32 - k by omega, show ¬ i < k by omega]
  · simp [hki, show i < k by omega, show i < 32 by omega]
theorem u32max : IntKind.u32.max = 4294967295 := rfl
theorem bits_not_mask (n : Int) : bits .xor .u32 IntKind.u32.max ((maskN n : Nat) : Int) = ((2 ^ sh n - 1 : Nat) : Int) := by
  rw [u32max]
  have := u32_xor_nat 4294967295 (maskN n) (by decide) (mask_lt n)
  rw [show ((4294967295 : Nat) : Int) = 4294967295 from rfl] at this
  rw [this]
  unfold maskN
  rw [not_mask _ (sh_le n)]
theorem low_lt (n : Int) : 2 ^ sh n - 1 < 4294967296 := by have := pow_le (sh_le n); have := pow_pos' (sh n); omega
theorem bits_wide (a : Nat) (n : Int) (ha : a < 4294967296) : bits .or .u32 (a : Int) (bits .xor .u32 IntKind.u32.max ((maskN n : Nat) : Int)) = ((wideF ⟨a, n⟩ : Nat) : Int) := by
  rw [bits_not_mask, u32_or_nat _ _ ha (low_lt n), or_low]
  rfl
theorem bits_norm (a : Nat) (n : Int) (ha : a < 4294967296) : bits .and .u32 (a : Int) ((maskN n : Nat) : Int) = (((normF ⟨a, n⟩).addr : Nat) : Int) := by
  rw [u32_and_nat _ _ ha (mask_lt n)]
  unfold maskN
  rw [and_mask _ _ ha (sh_le n)]
  rfl
theorem bits_rwide (a : Nat) (n : Int) (ha : a < 4294967296) : bits .or .u32 (bits .and .u32 (a : Int) ((maskN n : Nat) : Int)) (bits .xor .u32 IntKind.u32.max ((maskN n : Nat) : Int)) = ((wideF ⟨a, n⟩ : Nat) : Int) := by
  rw [bits_norm a n ha, bits_not_mask, u32_or_nat _ _ (norm_lt (p := ⟨a, n⟩) ha) (low_lt n), or_low]
  unfold wideF normF
  dsimp only
  rw [Nat.mul_div_cancel _ (pow_pos' _)]

theorem xor_mask (p a k : Nat) (hp : p < 4294967296) (ha : a < 4294967296) (hk : k ≤ 32) : ((p ^^^ a) &&& (2 ^ 32 - 2 ^ k) = 0) ↔ p / 2 ^ k = a / 2 ^ k := by
  rw [and_mask _ k (Nat.xor_lt_two_pow (n := 32) hp ha) hk]
  have h1 : (p ^^^ a) / 2 ^ k = (p / 2 ^ k) ^^^ (a / 2 ^ k) := by
    simp only [← Nat.shiftRight_eq_div_pow, Nat.shiftRight_xor_distrib]
  have hpos := pow_pos' k
  rw [h1]
  constructor
  · intro h
    have : (p / 2 ^ k ^^^ a / 2 ^ k) = 0 := by
      rcases Nat.mul_eq_zero.1 h with h | h
      · exact h
      · omega
    have h2 := congrArg (fun z => z ^^^ (a / 2 ^ k)) this
    simpa [Nat.xor_assoc] using h2
  · intro h
    rw [h, Nat.xor_self]
    simp

theorem maskI (n : Int) : (4294967295 * 2 ^ (32 - heldF n).toNat % 4294967296 : Int) = (maskN n : Int) := by
  have hk := sh_le n
  show (4294967295 * 2 ^ sh n % 4294967296 : Int) = _
  have e : (4294967295 * 2 ^ sh n % 4294967296 : Nat) = maskN n := by
    unfold maskN
    have h1 : 4294967295 * 2 ^ sh n = 4294967296 * (2 ^ sh n - 1) + (4294967296 - 2 ^ sh n) := by
      have := pow_le hk
      have := pow_pos' (sh n)
      omega
    rw [h1, Nat.mul_add_mod]
    have := pow_pos' (sh n)
    exact Nat.mod_eq_of_lt (by omega)
  rw [← e]
  simp

theorem wide_lt {p : Pfx} (h : p.ok) : wideF p < 4294967296 := by
  have hk := sh_le p.len
  have h1 := pow_dvd hk
  have hp := pow_pos' (sh p.len)
  have h2 : p.addr / 2 ^ sh p.len < 2 ^ (32 - sh p.len) := by
    rw [Nat.div_lt_iff_lt_mul hp, Nat.mul_comm, h1]; exact h
  unfold wideF
  have h3 : (p.addr / 2 ^ sh p.len + 1) * 2 ^ sh p.len ≤ 2 ^ (32 - sh p.len) * 2 ^ sh p.len := Nat.mul_le_mul_right _ h2
  rw [Nat.mul_comm (2 ^ (32 - sh p.len)), h1, Nat.add_mul] at h3
  omega
end Go.Proofs.YtefhoecdoemgbaaGreatDoor.Ad0
