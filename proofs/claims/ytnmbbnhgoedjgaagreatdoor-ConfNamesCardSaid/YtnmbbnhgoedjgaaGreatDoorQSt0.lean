/- Numbers in decimal, and lists of bytes parted at a byte: plain Lean, no program in sight. -/
import Derived.Lib.ItoaNum
import Derived.Lib.Atoi
import Derived.Lib.SlTrimSet
import Derived.Lib.Split
import Derived.Lib.SplitLaws
import Derived.Lib.CutLaws
namespace Go.Proofs.YtnmbbnhgoedjgaaGreatDoor.St0
open Go
def isDig (b : UInt8) : Bool := decide (48 ≤ b.toNat ∧ b.toNat ≤ 57)
/-- The value of digits, behind a value. -/
def dvF (n : Nat) (l : List UInt8) : Nat := l.foldl (fun n b => 10 * n + (b.toNat - 48)) n
theorem dvF_nil (n : Nat) : dvF n [] = n := rfl
theorem dvF_cons (n : Nat) (b : UInt8) (l : List UInt8) : dvF n (b :: l) = dvF (10 * n + (b.toNat - 48)) l := by unfold dvF; rw [List.foldl_cons]
def dv (l : List UInt8) : Nat := dvF 0 l
/-- At most k digits, at least one, no nought ahead. -/
def okNum (k : Nat) (l : List UInt8) : Bool := !l.isEmpty && decide (l.length ≤ k) && !(l.head? == some 48 && decide (1 < l.length)) && l.all isDig
def digits : List UInt8 := [48, 49, 50, 51, 52, 53, 54, 55, 56, 57]
theorem digits_has (b : UInt8) : digits.contains b = isDig b := by
  have : ∀ n : Fin 256, digits.contains (UInt8.ofNat n.val) = isDig (UInt8.ofNat n.val) := by decide +kernel
  have h := this ⟨b.toNat, b.toNat_lt⟩
  simpa using h
theorem dropWhile_nil (p : UInt8 → Bool) : ∀ l : List UInt8, l.dropWhile p = [] ↔ l.all p = true
  | [] => by simp
  | b :: l => by
    by_cases h : p b = true
    · rw [List.dropWhile_cons_of_pos h, dropWhile_nil p l]; simp [h]
    · rw [List.dropWhile_cons_of_neg h]; simp [h]
theorem trim_digits (l : List UInt8) : Lib.trimS l digits = [] ↔ l.all isDig = true := by
  have hf : (fun b => digits.contains b) = isDig := by funext b; exact digits_has b
  unfold Lib.trimS Lib.trimLeftS Lib.trimRightS
  simp only [hf]
  rw [dropWhile_nil]
  constructor
  · intro h
    have h1 : ∀ x ∈ l.reverse.dropWhile isDig, isDig x = true := fun x hx => (List.all_eq_true.1 h) x (by simpa using hx)
    have h2 : l.reverse.dropWhile isDig = [] := by
      cases hd : l.reverse.dropWhile isDig with
      | nil => rfl
      | cons b t =>
        have hb : isDig b = true := h1 b (by rw [hd]; simp)
        have := List.head_dropWhile_not (p := isDig) (l := l.reverse) (by rw [hd]; simp)
        simp [hd, hb] at this
    rw [dropWhile_nil] at h2
    simpa using h2
  · intro h
    have h2 : l.reverse.dropWhile isDig = [] := by rw [dropWhile_nil]; simpa using h
    rw [h2]; rfl
theorem digitVal_dig {b : UInt8} (h : isDig b = true) : Lib.digitVal b = some (b.toNat - 48) := by
  unfold isDig at h
  unfold Lib.digitVal
  rw [if_pos (by simpa using h)]
theorem decFrom_cons (n : Nat) (b : UInt8) (l : List UInt8) (d : Nat) (h : Lib.digitVal b = some d) : Lib.decFrom n (b :: l) = Lib.decFrom (n * 10 + d) l := by simp only [Lib.decFrom, h]
theorem decFrom_digs (l : List UInt8) : ∀ (n : Nat), l.all isDig = true → Lib.decFrom n l = some (dvF n l) := by
  induction l with
  | nil => intro n _; simp only [Lib.decFrom, dvF_nil]
  | cons b l ih =>
    intro n h
    simp only [List.all_cons, Bool.and_eq_true] at h
    rw [decFrom_cons n b l _ (digitVal_dig h.1), ih _ h.2, dvF_cons, Nat.mul_comm n 10]
theorem atoi_digs (l : List UInt8) (h : l.all isDig = true) (h0 : l ≠ []) : Lib.atoi l = some (dv l : Nat) := by
  cases l with
  | nil => exact absurd rfl h0
  | cons b t =>
    have hb : isDig b = true := by simp at h; exact h.1
    have hd := decFrom_digs (b :: t) 0 h
    unfold isDig at hb
    simp at hb
    have h43 : b ≠ 43 := by intro e; subst e; simp at hb
    have h45 : b ≠ 45 := by intro e; subst e; simp at hb
    unfold Lib.atoi
    simp [h43, h45, Lib.decNat, hd, dv]
theorem dvF_lt : ∀ (l : List UInt8) (n : Nat), l.all isDig = true → dvF n l < (n + 1) * 10 ^ l.length
  | [], n, _ => by simp [dvF_nil]
  | b :: l, n, h => by
    simp only [List.all_cons, Bool.and_eq_true] at h
    have hb := h.1
    unfold isDig at hb
    simp at hb
    have := dvF_lt l (10 * n + (b.toNat - 48)) h.2
    simp only [dvF_cons, List.length_cons]
    refine Nat.lt_of_lt_of_le this ?_
    rw [Nat.pow_succ', ← Nat.mul_assoc]
    exact Nat.mul_le_mul_right _ (by omega)
/-- A list parted at a byte. -/
def parts (c : UInt8) : List UInt8 → List (List UInt8)
  | [] => [[]]
  | b :: l => if b = c then [] :: parts c l else match parts c l with
    | [] => [[b]]
    | p :: ps => (b :: p) :: ps
theorem parts_ne (c : UInt8) (l : List UInt8) : parts c l ≠ [] := by
  cases l with
  | nil => simp [parts]
  | cons b l =>
    unfold parts
    split
    · simp
    · split <;> simp
theorem parts_len (c : UInt8) : ∀ l : List UInt8, (parts c l).length = l.count c + 1
  | [] => by simp [parts]
  | b :: l => by
    have ih := parts_len c l
    unfold parts
    by_cases h : b = c
    · rw [if_pos h]; simp [h, ih]
    · rw [if_neg h]
      have : (b :: l).count c = l.count c := by simp [h]
      rw [this]
      cases hp : parts c l with
      | nil => exact absurd hp (parts_ne c l)
      | cons p ps => simp [hp] at ih ⊢; exact ih
/-- A part ahead of the first byte c, and what is behind. -/
theorem parts_append (c : UInt8) : ∀ (a l : List UInt8), c ∉ a → parts c (a ++ c :: l) = a :: parts c l
  | [], l, _ => by simp [parts]
  | b :: a, l, h => by
    have hb : b ≠ c := fun e => h (by simp [e])
    have ih := parts_append c a l (fun hm => h (by simp [hm]))
    show parts c (b :: (a ++ c :: l)) = _
    rw [parts, if_neg hb, ih]
theorem parts_none (c : UInt8) : ∀ (a : List UInt8), c ∉ a → parts c a = [a]
  | [], _ => by simp [parts]
  | b :: a, h => by
    have hb : b ≠ c := fun e => h (by simp [e])
    have ih := parts_none c a (fun hm => h (by simp [hm]))
    rw [parts, if_neg hb, ih]
theorem parts_snoc_c (c : UInt8) : ∀ (l : List UInt8), parts c (l ++ [c]) = parts c l ++ [[]]
  | [] => by simp [parts]
  | b :: l => by
    have ih := parts_snoc_c c l
    show parts c (b :: (l ++ [c])) = _
    rw [parts, parts]
    by_cases h : b = c
    · rw [if_pos h, if_pos h, ih]; rfl
    · rw [if_neg h, if_neg h, ih]
      cases hp : parts c l with
      | nil => exact absurd hp (parts_ne c l)
      | cons p ps => rfl
theorem parts_snoc_b (c b : UInt8) (hb : b ≠ c) : ∀ (l : List UInt8) (L : List (List UInt8)) (p : List UInt8), parts c l = L ++ [p] → parts c (l ++ [b]) = L ++ [p ++ [b]]
  | [], L, p, h => by
    simp only [parts] at h
    have hL : L = [] := by
      cases L with
      | nil => rfl
      | cons x L => simp at h
    subst hL
    simp at h
    subst h
    simp [parts, hb]
  | x :: l, L, p, h => by
    show parts c (x :: (l ++ [b])) = _
    rw [parts] at h ⊢
    by_cases hx : x = c
    · rw [if_pos hx] at h ⊢
      cases L with
      | nil =>
        simp at h
        exact absurd h.2 (parts_ne c l)
      | cons y L =>
        simp only [List.cons_append, List.cons.injEq] at h
        rw [parts_snoc_b c b hb l L p h.2, ← h.1]; rfl
    · rw [if_neg hx] at h ⊢
      cases hp : parts c l with
      | nil => exact absurd hp (parts_ne c l)
      | cons q ps =>
        rw [hp] at h
        simp only at h
        cases L with
        | nil =>
          simp only [List.nil_append, List.cons.injEq] at h
          obtain ⟨rfl, rfl⟩ := h
          have := parts_snoc_b c b hb l [] q (by rw [hp]; rfl)
          rw [this]; rfl
        | cons y L =>
          simp only [List.cons_append, List.cons.injEq] at h
          obtain ⟨rfl, rfl⟩ := h
          have := parts_snoc_b c b hb l (q :: L) p (by rw [hp]; rfl)
          rw [this]; rfl
theorem idx_hit (c : UInt8) : ∀ (a r : List UInt8), c ∉ a → Lib.index (a ++ c :: r) [c] = a.length
  | [], r, _ => by simp [Lib.index]
  | b :: a, r, h => by
    have hb : ¬ c = b := fun e => h (by simp [e])
    have ih := idx_hit c a r (fun hm => h (List.mem_cons_of_mem _ hm))
    show Lib.index (b :: (a ++ c :: r)) [c] = _
    rw [Lib.index, ih]
    have h1 : ([c].isPrefixOf (b :: (a ++ c :: r))) = false := by
      show (c == b && _) = false
      rw [beq_eq_false_iff_ne.2 hb]; rfl
    have h2 : (((a.length : Nat) : Int) == -1) = false := by rw [beq_eq_false_iff_ne]; omega
    rw [h1, h2]
    simp
theorem idx_miss (c : UInt8) : ∀ (l : List UInt8), c ∉ l → Lib.index l [c] = -1
  | [], _ => by simp [Lib.index]
  | b :: l, h => by
    have hb : ¬ c = b := fun e => h (by simp [e])
    have ih := idx_miss c l (fun hm => h (by simp [hm]))
    rw [Lib.index, ih]
    have h1 : ([c].isPrefixOf (b :: l)) = false := by
      show (c == b && _) = false
      rw [beq_eq_false_iff_ne.2 hb]; rfl
    rw [h1]
    simp
theorem first_at (c : UInt8) : ∀ (l : List UInt8), c ∈ l → ∃ a r, l = a ++ c :: r ∧ c ∉ a
  | [], h => by simp at h
  | b :: l, h => by
    by_cases hb : b = c
    · exact ⟨[], l, by simp [hb], by simp⟩
    · have hm : c ∈ l := by
        rcases List.mem_cons.1 h with h | h
        · exact absurd h.symm hb
        · exact h
      obtain ⟨a, r, e, hn⟩ := first_at c l hm
      exact ⟨b :: a, r, by simp [e], by simp [hn]; exact fun e => hb e.symm⟩
theorem splitK_parts (c : UInt8) : ∀ (k : Nat) (l : List UInt8), l.count c = k → Lib.splitK [c] 0 k l = parts c l
  | 0, l, h => by
    have hn : c ∉ l := List.count_eq_zero.1 h
    rw [parts_none c l hn]; rfl
  | k + 1, l, h => by
    have hm : c ∈ l := List.count_pos_iff.1 (by omega)
    obtain ⟨a, r, rfl, hn⟩ := first_at c l hm
    have hc : r.count c = k := by
      rw [List.count_append, List.count_cons_self, List.count_eq_zero.2 hn] at h
      omega
    rw [Lib.splitK, idx_hit c a r hn, parts_append c a r hn]
    have h2 : (((a.length : Nat) : Int) == -1) = false := by rw [beq_eq_false_iff_ne]; omega
    rw [h2]
    have e1 : (a ++ c :: r).take (((a.length : Nat) : Int).toNat + 0) = a := by simp
    have e2 : (a ++ c :: r).drop (((a.length : Nat) : Int).toNat + [c].length) = r := by simp [List.drop_append]
    simp only [Bool.false_eq_true, if_false]
    rw [e1, e2, splitK_parts c k r hc]
theorem split_parts (c : UInt8) (s : ByteArray) : (Lib.splitB ⟨#[c]⟩ 0 (Lib.countB s ⟨#[c]⟩) s).map (·.data.toList) = parts c s.data.toList := by
  rw [Lib.splitB_data]
  have h : Lib.countB s ⟨#[c]⟩ = s.data.toList.count c := Lib.count_one c _
  rw [h]
  exact splitK_parts c _ _ rfl
theorem splitB_le (sep : ByteArray) : ∀ (k : Nat) (s x : ByteArray), x ∈ Lib.splitB sep 0 k s → x.size ≤ s.size
  | 0, s, x, h => by
    rw [Lib.splitB_zero] at h
    simp at h
    rw [h]; exact Nat.le_refl _
  | k + 1, s, x, h => by
    rw [Lib.splitB] at h
    split at h
    · simp at h
      rw [h]; exact Nat.le_refl _
    · rcases List.mem_cons.1 h with h | h
      · rw [h, ByteArray.size_extract]; omega
      · have := splitB_le sep k _ x h
        rw [ByteArray.size_extract] at this
        omega
theorem split_le (s : ByteArray) {c : UInt8} : ∀ x ∈ Lib.splitB ⟨#[c]⟩ 0 (Lib.countB s ⟨#[c]⟩) s, x.size ≤ s.size := fun x h => splitB_le _ _ s x h
theorem cut_none (c : UInt8) (l : List UInt8) (h : c ∉ l) : Lib.cut l [c] = (l, [], false) := by
  unfold Lib.cut
  rw [idx_miss c l h]; rfl
theorem cut_hit (c : UInt8) (a r : List UInt8) (h : c ∉ a) : Lib.cut (a ++ c :: r) [c] = (a, r, true) := by
  unfold Lib.cut
  rw [idx_hit c a r h, if_pos (by omega)]
  simp [List.drop_append]
end Go.Proofs.YtnmbbnhgoedjgaaGreatDoor.St0

