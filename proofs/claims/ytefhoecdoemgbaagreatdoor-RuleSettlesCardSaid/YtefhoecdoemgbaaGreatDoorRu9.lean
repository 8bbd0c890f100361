/- rule.proto, rule.flags and the reference's twins: words for numbers. -/
import Derived.Test.YtefhoecdoemgbaaGreatDoorRu5
import Derived.Test.YtefhoecdoemgbaaGreatDoorRu6
import Derived.Test.YtefhoecdoemgbaaGreatDoorStA
namespace Go.Proofs.YtefhoecdoemgbaaGreatDoor.Ru8
open Go Go.RowKit Go.Proofs.YtefhoecdoemgbaaGreatDoor.Ad0 Go.Proofs.YtefhoecdoemgbaaGreatDoor.Ad1 Go.Proofs.YtefhoecdoemgbaaGreatDoor.Ad3 Go.Proofs.YtefhoecdoemgbaaGreatDoor.St0 Go.Proofs.YtefhoecdoemgbaaGreatDoor.St1 Go.Proofs.YtefhoecdoemgbaaGreatDoor.St2 Go.Proofs.YtefhoecdoemgbaaGreatDoor.St3 Go.Proofs.YtefhoecdoemgbaaGreatDoor.St4 Go.Proofs.YtefhoecdoemgbaaGreatDoor.StA Go.Proofs.YtefhoecdoemgbaaGreatDoor.Ru0 Go.Proofs.YtefhoecdoemgbaaGreatDoor.Ru1 Go.Proofs.YtefhoecdoemgbaaGreatDoor.Ru6
set_option linter.unusedVariables false
set_option linter.unusedSimpArgs false

theorem proto_any (n : Int) (h0 : 0 ≤ n) (h1 : n ≤ 9223372036854775807) (w : World) (hl : LibOK w) :
    Calls Tryz.prog 44 #[.int .i64 n] w fun e w' => e = .returned (.string ⟨(protoW n).toArray⟩) ∧ Below w.heap.size w w' := by
  have HI := Lib.hid (itoa_any n (by omega) h1 w hl)
  go_enter Tryz.func44, Tryz.ntmps44
  go_wp2_with (go_at_call 47; refine HI.out.mono ?_; rintro e w1 ⟨rfl, hb1⟩; have HB1 := Lib.hid hb1; clear hb1)
  all_goals go_ret
  all_goals first | exact ⟨by simp_all [protoW, wIcmp, wTcp, wUdp], Below.refl _ _⟩ | exact ⟨by simp_all [protoW, wIcmp, wTcp, wUdp], HB1.out⟩
theorem rproto_any (n : Int) (h0 : 0 ≤ n) (h1 : n ≤ 9223372036854775807) (w : World) :
    Calls Tryz.prog 54 #[.int .i64 n] w fun e w' => e = .returned (.string ⟨(protoW n).toArray⟩) ∧ Below w.heap.size w w' := by
  have HI := Lib.hid (dec_len_any n h0 h1 w)
  go_enter Tryz.func54, Tryz.ntmps54
  go_wp2_with (go_at_call 20; refine HI.out.mono ?_; rintro e w1 ⟨rfl, hb1⟩; have HB1 := Lib.hid hb1; clear hb1)
  all_goals go_ret
  all_goals first | exact ⟨by simp_all [protoW, wIcmp, wTcp, wUdp], Below.refl _ _⟩ | exact ⟨by simp_all [protoW, wIcmp, wTcp, wUdp], HB1.out⟩

/-- The letters of the first k flags. -/
def lettersTo (n k : Nat) : Wd := (List.range k).filterMap fun i => if n.testBit i then letters[i]? else none
theorem to_no (n k : Nat) (h : n.testBit k = false) : lettersTo n (k + 1) = lettersTo n k := by
  unfold lettersTo
  rw [List.range_succ, List.filterMap_append]
  simp [h]
theorem to_yes (n k : Nat) (b : UInt8) (h : n.testBit k = true) (hb : letters[k]? = some b) : lettersTo n (k + 1) = lettersTo n k ++ [b] := by
  unfold lettersTo
  rw [List.range_succ, List.filterMap_append]
  simp [h, hb]
theorem str_app (a b : Wd) : (⟨a.toArray⟩ : ByteArray) ++ ⟨b.toArray⟩ = ⟨(a ++ b).toArray⟩ := by
  apply ByteArray.ext
  apply Array.ext'
  simp
theorem to_len (n k : Nat) : (lettersTo n k).length ≤ k := by
  unfold lettersTo
  have := List.length_filterMap_le (fun i => if n.testBit i then letters[i]? else none) (List.range k)
  simpa using this
theorem to_six (n : Nat) : lettersTo n 6 = flagsL n := rfl
theorem bit0 (n : Nat) (h : n < 64) : (bits .and .i64 (n : Int) 1 == 1) = n.testBit 0 := by
  have : ∀ n : Fin 64, (bits .and .i64 ((n.val : Nat) : Int) 1 == 1) = n.val.testBit 0 := by decide +kernel
  exact this ⟨n, h⟩
theorem bit1 (n : Nat) (h : n < 64) : (bits .and .i64 ((n : Int) / 2) 1 == 1) = n.testBit 1 := by
  have : ∀ n : Fin 64, (bits .and .i64 (((n.val : Nat) : Int) / 2) 1 == 1) = n.val.testBit 1 := by decide +kernel
  exact this ⟨n, h⟩
theorem bit2 (n : Nat) (h : n < 64) : (bits .and .i64 ((n : Int) / 4) 1 == 1) = n.testBit 2 := by
  have : ∀ n : Fin 64, (bits .and .i64 (((n.val : Nat) : Int) / 4) 1 == 1) = n.val.testBit 2 := by decide +kernel
  exact this ⟨n, h⟩
theorem bit3 (n : Nat) (h : n < 64) : (bits .and .i64 ((n : Int) / 8) 1 == 1) = n.testBit 3 := by
  have : ∀ n : Fin 64, (bits .and .i64 (((n.val : Nat) : Int) / 8) 1 == 1) = n.val.testBit 3 := by decide +kernel
  exact this ⟨n, h⟩
theorem bit4 (n : Nat) (h : n < 64) : (bits .and .i64 ((n : Int) / 16) 1 == 1) = n.testBit 4 := by
  have : ∀ n : Fin 64, (bits .and .i64 (((n.val : Nat) : Int) / 16) 1 == 1) = n.val.testBit 4 := by decide +kernel
  exact this ⟨n, h⟩
theorem bit5 (n : Nat) (h : n < 64) : (bits .and .i64 ((n : Int) / 32) 1 == 1) = n.testBit 5 := by
  have : ∀ n : Fin 64, (bits .and .i64 (((n.val : Nat) : Int) / 32) 1 == 1) = n.val.testBit 5 := by decide +kernel
  exact this ⟨n, h⟩
set_option maxHeartbeats 2000000 in
theorem flags_any (n : Nat) (hn : n < 64) (w : World) :
    Calls Tryz.prog 46 #[.int .i64 n] w fun e w' => e = .returned (.string ⟨(flagsW n).toArray⟩) ∧ w' = w := by
  go_enter Tryz.func46, Tryz.ntmps46
  go_wp2
  go_loop [3, 5] (fun s i => ∃ k : Nat, k ≤ 6 ∧ i = .int .i64 k ∧ s = .string ⟨(lettersTo n k).toArray⟩) (fun _ i => 6 - (intOf i).toNat)
  case atStart => exact ⟨0, by omega, rfl, rfl⟩
  case round =>
    obtain ⟨k, hk, rfl, rfl⟩ := hrel
    match k, hk with
    | 0, _ =>
      have hb := bit0 n hn
      have hlen := to_len n 0
      cases ht : n.testBit 0 with
      | true =>
        rw [ht] at hb
        have HY := Lib.hid (to_yes n 0 70 ht rfl)
        clear ht
        go_wp2
        go_round
        case rel => exact ⟨1, by omega, rfl, by rw [HY.out, ← str_app]; exact congrArg (fun x => Value.string ((⟨(lettersTo n 0).toArray⟩ : ByteArray) ++ x)) rfl⟩
        case measure => simp [intOf]
      | false =>
        rw [ht] at hb
        have HY := Lib.hid (to_no n 0 ht)
        clear ht
        go_wp2
        go_round
        case rel => exact ⟨1, by omega, rfl, by rw [HY.out]⟩
        case measure => simp [intOf]
    | 1, _ =>
      have hb := bit1 n hn
      have hlen := to_len n 1
      cases ht : n.testBit 1 with
      | true =>
        rw [ht] at hb
        have HY := Lib.hid (to_yes n 1 83 ht rfl)
        clear ht
        go_wp2
        go_round
        case rel => exact ⟨2, by omega, rfl, by rw [HY.out, ← str_app]; exact congrArg (fun x => Value.string ((⟨(lettersTo n 1).toArray⟩ : ByteArray) ++ x)) rfl⟩
        case measure => simp [intOf]
      | false =>
        rw [ht] at hb
        have HY := Lib.hid (to_no n 1 ht)
        clear ht
        go_wp2
        go_round
        case rel => exact ⟨2, by omega, rfl, by rw [HY.out]⟩
        case measure => simp [intOf]
    | 2, _ =>
      have hb := bit2 n hn
      have hlen := to_len n 2
      cases ht : n.testBit 2 with
      | true =>
        rw [ht] at hb
        have HY := Lib.hid (to_yes n 2 82 ht rfl)
        clear ht
        go_wp2
        go_round
        case rel => exact ⟨3, by omega, rfl, by rw [HY.out, ← str_app]; exact congrArg (fun x => Value.string ((⟨(lettersTo n 2).toArray⟩ : ByteArray) ++ x)) rfl⟩
        case measure => simp [intOf]
      | false =>
        rw [ht] at hb
        have HY := Lib.hid (to_no n 2 ht)
        clear ht
        go_wp2
        go_round
        case rel => exact ⟨3, by omega, rfl, by rw [HY.out]⟩
        case measure => simp [intOf]
    | 3, _ =>
      have hb := bit3 n hn
      have hlen := to_len n 3
      cases ht : n.testBit 3 with
      | true =>
        rw [ht] at hb
        have HY := Lib.hid (to_yes n 3 80 ht rfl)
        clear ht
        go_wp2
        go_round
        case rel => exact ⟨4, by omega, rfl, by rw [HY.out, ← str_app]; exact congrArg (fun x => Value.string ((⟨(lettersTo n 3).toArray⟩ : ByteArray) ++ x)) rfl⟩
        case measure => simp [intOf]
      | false =>
        rw [ht] at hb
        have HY := Lib.hid (to_no n 3 ht)
        clear ht
        go_wp2
        go_round
        case rel => exact ⟨4, by omega, rfl, by rw [HY.out]⟩
        case measure => simp [intOf]
    | 4, _ =>
      have hb := bit4 n hn
      have hlen := to_len n 4
      cases ht : n.testBit 4 with
      | true =>
        rw [ht] at hb
        have HY := Lib.hid (to_yes n 4 65 ht rfl)
        clear ht
        go_wp2
        go_round
        case rel => exact ⟨5, by omega, rfl, by rw [HY.out, ← str_app]; exact congrArg (fun x => Value.string ((⟨(lettersTo n 4).toArray⟩ : ByteArray) ++ x)) rfl⟩
        case measure => simp [intOf]
      | false =>
        rw [ht] at hb
        have HY := Lib.hid (to_no n 4 ht)
        clear ht
        go_wp2
        go_round
        case rel => exact ⟨5, by omega, rfl, by rw [HY.out]⟩
        case measure => simp [intOf]
    | 5, _ =>
      have hb := bit5 n hn
      have hlen := to_len n 5
      cases ht : n.testBit 5 with
      | true =>
        rw [ht] at hb
        have HY := Lib.hid (to_yes n 5 85 ht rfl)
        clear ht
        go_wp2
        go_round
        case rel => exact ⟨6, by omega, rfl, by rw [HY.out, ← str_app]; exact congrArg (fun x => Value.string ((⟨(lettersTo n 5).toArray⟩ : ByteArray) ++ x)) rfl⟩
        case measure => simp [intOf]
      | false =>
        rw [ht] at hb
        have HY := Lib.hid (to_no n 5 ht)
        clear ht
        go_wp2
        go_round
        case rel => exact ⟨6, by omega, rfl, by rw [HY.out]⟩
        case measure => simp [intOf]
    | 6, _ =>
      rw [to_six]
      by_cases hf : flagsL n = []
      · have hq : (flagsL n).isEmpty = true := by rw [hf]; rfl
        have hz : flagsW n = [45] := by unfold flagsW; rw [if_pos hf]
        have HZ := Lib.hid hz
        clear hz
        generalize flagsL n = fl at hf hq ⊢
        subst hf
        go_wp2
        go_ret
        exact ⟨(congrArg (fun x : Wd => Ending.returned (.string ⟨x.toArray⟩)) HZ.out).symm, rfl⟩
      · have hq : (flagsL n).isEmpty = false := by simpa using hf
        have hz : flagsW n = flagsL n := by unfold flagsW; rw [if_neg hf]
        have HZ := Lib.hid hz
        clear hz hf
        generalize flagsL n = fl at hq HZ ⊢
        go_wp2
        go_ret
        exact ⟨(congrArg (fun x : Wd => Ending.returned (.string ⟨x.toArray⟩)) HZ.out).symm, rfl⟩
set_option maxHeartbeats 2000000 in
theorem letters_any (n : Nat) (hn : n < 64) (w : World) :
    Calls Tryz.prog 56 #[.int .i64 n] w fun e w' => e = .returned (.string ⟨(flagsW n).toArray⟩) ∧ w' = w := by
  go_enter Tryz.func56, Tryz.ntmps56
  go_wp2
  go_loop [3, 4] (fun s i => ∃ k : Nat, k ≤ 6 ∧ i = .int .i64 k ∧ s = .string ⟨(lettersTo n k).toArray⟩) (fun _ i => 6 - (intOf i).toNat)
  case atStart => exact ⟨0, by omega, rfl, rfl⟩
  case round =>
    obtain ⟨k, hk, rfl, rfl⟩ := hrel
    match k, hk with
    | 0, _ =>
      have hb := bit0 n hn
      have hlen := to_len n 0
      cases ht : n.testBit 0 with
      | true =>
        rw [ht] at hb
        have HY := Lib.hid (to_yes n 0 70 ht rfl)
        clear ht
        go_wp2
        go_round
        case rel => exact ⟨1, by omega, rfl, by rw [HY.out, ← str_app]; exact congrArg (fun x => Value.string ((⟨(lettersTo n 0).toArray⟩ : ByteArray) ++ x)) rfl⟩
        case measure => simp [intOf]
      | false =>
        rw [ht] at hb
        have HY := Lib.hid (to_no n 0 ht)
        clear ht
        go_wp2
        go_round
        case rel => exact ⟨1, by omega, rfl, by rw [HY.out]⟩
        case measure => simp [intOf]
    | 1, _ =>
      have hb := bit1 n hn
      have hlen := to_len n 1
      cases ht : n.testBit 1 with
      | true =>
        rw [ht] at hb
        have HY := Lib.hid (to_yes n 1 83 ht rfl)
        clear ht
        go_wp2
        go_round
        case rel => exact ⟨2, by omega, rfl, by rw [HY.out, ← str_app]; exact congrArg (fun x => Value.string ((⟨(lettersTo n 1).toArray⟩ : ByteArray) ++ x)) rfl⟩
        case measure => simp [intOf]
      | false =>
        rw [ht] at hb
        have HY := Lib.hid (to_no n 1 ht)
        clear ht
        go_wp2
        go_round
        case rel => exact ⟨2, by omega, rfl, by rw [HY.out]⟩
        case measure => simp [intOf]
    | 2, _ =>
      have hb := bit2 n hn
      have hlen := to_len n 2
      cases ht : n.testBit 2 with
      | true =>
        rw [ht] at hb
        have HY := Lib.hid (to_yes n 2 82 ht rfl)
        clear ht
        go_wp2
        go_round
        case rel => exact ⟨3, by omega, rfl, by rw [HY.out, ← str_app]; exact congrArg (fun x => Value.string ((⟨(lettersTo n 2).toArray⟩ : ByteArray) ++ x)) rfl⟩
        case measure => simp [intOf]
      | false =>
        rw [ht] at hb
        have HY := Lib.hid (to_no n 2 ht)
        clear ht
        go_wp2
        go_round
        case rel => exact ⟨3, by omega, rfl, by rw [HY.out]⟩
        case measure => simp [intOf]
    | 3, _ =>
      have hb := bit3 n hn
      have hlen := to_len n 3
      cases ht : n.testBit 3 with
      | true =>
        rw [ht] at hb
        have HY := Lib.hid (to_yes n 3 80 ht rfl)
        clear ht
        go_wp2
        go_round
        case rel => exact ⟨4, by omega, rfl, by rw [HY.out, ← str_app]; exact congrArg (fun x => Value.string ((⟨(lettersTo n 3).toArray⟩ : ByteArray) ++ x)) rfl⟩
        case measure => simp [intOf]
      | false =>
        rw [ht] at hb
        have HY := Lib.hid (to_no n 3 ht)
        clear ht
        go_wp2
        go_round
        case rel => exact ⟨4, by omega, rfl, by rw [HY.out]⟩
        case measure => simp [intOf]
    | 4, _ =>
      have hb := bit4 n hn
      have hlen := to_len n 4
      cases ht : n.testBit 4 with
      | true =>
        rw [ht] at hb
        have HY := Lib.hid (to_yes n 4 65 ht rfl)
        clear ht
        go_wp2
        go_round
        case rel => exact ⟨5, by omega, rfl, by rw [HY.out, ← str_app]; exact congrArg (fun x => Value.string ((⟨(lettersTo n 4).toArray⟩ : ByteArray) ++ x)) rfl⟩
        case measure => simp [intOf]
      | false =>
        rw [ht] at hb
        have HY := Lib.hid (to_no n 4 ht)
        clear ht
        go_wp2
        go_round
        case rel => exact ⟨5, by omega, rfl, by rw [HY.out]⟩
        case measure => simp [intOf]
    | 5, _ =>
      have hb := bit5 n hn
      have hlen := to_len n 5
      cases ht : n.testBit 5 with
      | true =>
        rw [ht] at hb
        have HY := Lib.hid (to_yes n 5 85 ht rfl)
        clear ht
        go_wp2
        go_round
        case rel => exact ⟨6, by omega, rfl, by rw [HY.out, ← str_app]; exact congrArg (fun x => Value.string ((⟨(lettersTo n 5).toArray⟩ : ByteArray) ++ x)) rfl⟩
        case measure => simp [intOf]
      | false =>
        rw [ht] at hb
        have HY := Lib.hid (to_no n 5 ht)
        clear ht
        go_wp2
        go_round
        case rel => exact ⟨6, by omega, rfl, by rw [HY.out]⟩
        case measure => simp [intOf]
    | 6, _ =>
      rw [to_six]
      by_cases hf : flagsL n = []
      · have hq : (flagsL n).isEmpty = true := by rw [hf]; rfl
        have hz : flagsW n = [45] := by unfold flagsW; rw [if_pos hf]
        have HZ := Lib.hid hz
        clear hz
        generalize flagsL n = fl at hf hq ⊢
        subst hf
        go_wp2
        go_ret
        exact ⟨(congrArg (fun x : Wd => Ending.returned (.string ⟨x.toArray⟩)) HZ.out).symm, rfl⟩
      · have hq : (flagsL n).isEmpty = false := by simpa using hf
        have hz : flagsW n = flagsL n := by unfold flagsW; rw [if_neg hf]
        have HZ := Lib.hid hz
        clear hz hf
        generalize flagsL n = fl at hq HZ ⊢
        go_wp2
        go_ret
        exact ⟨(congrArg (fun x : Wd => Ending.returned (.string ⟨x.toArray⟩)) HZ.out).symm, rfl⟩
end Go.Proofs.YtefhoecdoemgbaaGreatDoor.Ru8
/- rule.words.bits, proto, pin, look: parts of a rule, read. -/
namespace Go.Proofs.YtefhoecdoemgbaaGreatDoor.Ru9
open Go Go.RowKit Go.Proofs.YtefhoecdoemgbaaGreatDoor.Ad0 Go.Proofs.YtefhoecdoemgbaaGreatDoor.Ad1 Go.Proofs.YtefhoecdoemgbaaGreatDoor.Ad3 Go.Proofs.YtefhoecdoemgbaaGreatDoor.St0 Go.Proofs.YtefhoecdoemgbaaGreatDoor.St1 Go.Proofs.YtefhoecdoemgbaaGreatDoor.St2 Go.Proofs.YtefhoecdoemgbaaGreatDoor.St3 Go.Proofs.YtefhoecdoemgbaaGreatDoor.St4 Go.Proofs.YtefhoecdoemgbaaGreatDoor.StA Go.Proofs.YtefhoecdoemgbaaGreatDoor.Ru0 Go.Proofs.YtefhoecdoemgbaaGreatDoor.Ru1 Go.Proofs.YtefhoecdoemgbaaGreatDoor.Ru6 Go.Proofs.YtefhoecdoemgbaaGreatDoor.Ru8
set_option linter.unusedVariables false
set_option linter.unusedSimpArgs false

theorem bits_hit (w : Ws) (s : Wd) (k : Nat) (hk : k < 64) (h : flagsW k = s) (hn : ∀ j, j < k → flagsW j ≠ s) : bitsF w s = (((k : Nat) : Int), w) := by
  unfold bitsF
  have : ((List.range 64).find? fun n => flagsW n == s) = some k := by
    rw [List.find?_eq_some_iff_getElem]
    refine ⟨by simpa using h, k, by simpa using hk, by simp, fun j hj => ?_⟩
    simpa using hn j hj
  rw [this]
theorem bits_miss (w : Ws) (s : Wd) (hn : ∀ j, j < 64 → flagsW j ≠ s) : bitsF w s = (0, ⟨w.l, true⟩) := by
  unfold bitsF
  have : ((List.range 64).find? fun n => flagsW n == s) = none := by
    rw [List.find?_eq_none]
    intro j hj
    simpa using hn j (by simpa using hj)
  rw [this]

set_option maxHeartbeats 1000000 in
theorem bits_any (g : Nat) (ws : Ws) (s : ByteArray) (W : World) (h : Rd 53 W g ws) :
    Calls Tryz.prog 62 #[.pointer (some ⟨g, 0, none⟩), .string s] W fun e w' => e = .returned (.int .i64 (bitsF ws s.data.toList).1) ∧ Rd 53 w' g (bitsF ws s.data.toList).2 ∧ Upto g W w' := by
  have HH := Lib.hid h
  obtain ⟨c1, f1⟩ := h.cells
  clear h
  go_enter Tryz.func62, Tryz.ntmps62
  go_wp2
  go_loopw [6] (fun i wr => ∃ k : Nat, k ≤ 64 ∧ i = .int .i64 k ∧ (∀ j, j < k → flagsW j ≠ s.data.toList) ∧ W = wr) (fun i _ => 64 - (intOf i).toNat)
  case atStart => exact ⟨0, by omega, rfl, fun j hj => absurd hj (by omega), rfl⟩
  case round =>
    obtain ⟨k, hk, rfl, hno, rfl⟩ := hrel
    have HN := Lib.hid hno
    clear hno
    by_cases hlt : k < 64
    · have HF := Lib.hid (flags_any k hlt W)
      by_cases he : flagsW k = s.data.toList
      · have hq : (flagsW k == s.toList) = true := by rw [toList_data, beq_iff_eq]; exact he
        have HE := Lib.hid (bits_hit ws _ k hlt he HN.out)
        clear he
        generalize flagsW k = fl at hq HF
        go_wp2_with (go_at_call 46; refine HF.out.mono ?_; rintro e w1 ⟨rfl, rfl⟩)
        go_ret
        exact ⟨by rw [HE.out]; rfl, by rw [HE.out]; exact HH.out, Upto.refl _ _⟩
      · have hq : (flagsW k == s.toList) = false := by rw [toList_data, beq_eq_false_iff_ne]; exact he
        have HE := Lib.hid he
        clear he
        generalize hfl : flagsW k = fl at hq HF
        have HFL := Lib.hid hfl
        clear hfl
        go_wp2_with (go_at_call 46; refine HF.out.mono ?_; rintro e w1 ⟨rfl, rfl⟩)
        go_roundw
        case rel =>
          refine ⟨k + 1, by omega, by go_num, fun j hj => ?_, trivial⟩
          by_cases e : j = k
          · subst e; exact HE.out
          · exact HN.out j (by omega)
        case measure => simp [intOf]; omega
    · obtain rfl : k = 64 := by omega
      have HE := Lib.hid (bits_miss ws _ HN.out)
      go_wp2
      go_ret
      exact ⟨by rw [HE.out]; rfl, by rw [HE.out]; exact HH.out.bad true, (Upto.refl _ _).set⟩

theorem nextF_short {T : TypeId} {W : World} {g : Nat} {ws : Ws} (h : Rd T W g ws) : (nextF ws).1.length < 4294967281 := by
  obtain ⟨l, bad⟩ := ws
  cases l with
  | nil => simp [nextF]
  | cons x t => exact h.short x (by simp)
theorem wd_size (l : Wd) : (⟨l.toArray⟩ : ByteArray).size = l.length := by rw [size_data]
theorem orBad_eq (w : Ws) (b : Bool) : w.orBad b = ⟨w.l, w.bad || b⟩ := rfl
theorem ws_same (w : Ws) : (⟨w.l, w.bad⟩ : Ws) = w := rfl

theorem box3 {w : World} {g : Nat} {x y z : Value} {T : TypeId} (h : w.heap[g]? = some (.cells #[x, y, z] T (0, 0))) :
    w.cell? ⟨g, 0, none⟩ = some x ∧ w.cell? ⟨g, 1, none⟩ = some y ∧ w.cell? ⟨g, 2, none⟩ = some z ∧ w.frozen? ⟨g, 0, none⟩ = false ∧ w.frozen? ⟨g, 1, none⟩ = false ∧ w.frozen? ⟨g, 2, none⟩ = false :=
  ⟨(cell_of_row _ _ 0 _ _ _ h).trans rfl, (cell_of_row _ _ 1 _ _ _ h).trans rfl, (cell_of_row _ _ 2 _ _ _ h).trans rfl, frozen_of_row _ _ 0 _ _ h, frozen_of_row _ _ 1 _ _ h, frozen_of_row _ _ 2 _ _ h⟩
/-- A result out of a box. -/
theorem box_ret1 {P : Program} {fn : Func} {R : Ending → World → Prop} {a : Act} {w : World} {t : Tmp} {T : TypeId} {g : Nat} {c : Array Value} {fr : Nat × Nat} {fs : Array Field}
    (hc : w.heap[g]? = some (.cells c T fr)) (h : fn.results = #[.cell t T]) 
    (ht : a.tmps.getD t undef = .pointer (some ⟨g, 0, none⟩)) (hu : P.underlying T = some (.struct fs)) (hi : (P.info? T).map (·.size) = some c.size)
    (hd : a.defers = []) (hR : R (.returned (.agg c)) w) : bodyPost P fn R .ret a w :=
  bodyPost_ret (results_cell_row h _ _ _ _ _ _ _ ht hc hu rfl hi) hd hR

/-- A text as an address, its two ways told. -/
theorem parse_two (s : Wd) (hs : s.length < 4294967281) (W : World) (hl : LibOK W) : Calls Tryz.prog 63 #[.string ⟨s.toArray⟩] W fun e w' => e = .returned (.tuple #[.int .u32 ((parseL s).getD 0 : Nat), .int .i64 (if (parseL s).isNone then 2 else 0)]) ∧ Below W.heap.size W w' := by
  refine (parse_any ⟨s.toArray⟩ (by rw [wd_size]; exact hs) W hl).mono ?_
  rintro e w' ⟨rfl, hb⟩
  refine ⟨?_, hb⟩
  have : (⟨s.toArray⟩ : ByteArray).data.toList = s := rfl
  rw [this]
  cases parseL s <;> rfl
set_option maxHeartbeats 1000000 in
/-- A pin. -/
theorem pin_any (g : Nat) (ws : Ws) (word : Array UInt8) (W : World) (h : Rd 53 W g ws) (hl : LibOK W) (hG : LibLow g) :
    Calls Tryz.prog 30 #[.pointer (some ⟨g, 0, none⟩), .string ⟨word⟩] W fun e w' => e = .returned (.agg #[.bool (pinF ws word.toList).1.on, .string ⟨(pinF ws word.toList).1.iface.toArray⟩, .int .u32 ((pinF ws word.toList).1.gate : Nat)]) ∧ Rd 53 w' g (pinF ws word.toList).2 ∧ Upto g W w' := by
  have HB0 := Lib.hid (bnew W (.cells #[.bool false, .string ⟨#[]⟩, .int .u32 0] 30))
  have HH := Lib.hid (h.below HB0.out)
  have hlt := h.lt
  have hne : W.heap.size ≠ g := by omega
  have HL0 := Lib.hid (hl.below HB0.out)
  have HX := Lib.hid (heap_alloc_new W (.cells #[.bool false, .string ⟨#[]⟩, .int .u32 0] 30))
  have KT := Lib.hid (fun W' hr => takes_any g ws word W' hr)
  clear h hl
  unfold pinF
  generalize takesP ws word.toList = tk at KT ⊢
  obtain ⟨b, w1⟩ := tk
  dsimp only at KT
  cases b with
  | false =>
    go_enter Tryz.func30, Tryz.ntmps30
    go_wp2_with (go_at_call 25; refine (KT.out _ HH.out).mono ?_; rintro e W1 ⟨rfl, hr1, hu1⟩; have HR1 := Lib.hid hr1; have HU1 := Lib.hid hu1; have HX1 := Lib.hid (hu1.row HX.out hne); obtain ⟨a0, a1, a2, a3, a4, a5⟩ := box3 HX1.out; clear hr1 hu1)
    have hr := set_at (k := 2) (v := .int .u32 0) (set_at (k := 1) (v := .string ⟨#[]⟩) (set_at (k := 0) (v := .bool false) HX1.out))
    refine box_ret1 hr rfl rfl Tryz.underlying30 (by kernel_rfl) rfl ⟨rfl, HR1.out.above ?_, ?_⟩
    · exact set_b (set_b (set_b (Below.refl _ _) (by omega)) (by omega)) (by omega)
    · exact ((((Upto.of_below HB0.out).trans HU1.out).set_new (Nat.le_refl _)).set_new (Nat.le_refl _)).set_new (Nat.le_refl _)
  | true =>
    dsimp only
    simp only [if_true]
    have KN1 := Lib.hid (fun W' hr => next_any g w1 W' hr)
    generalize nextF w1 = n1 at KN1 ⊢
    have KN2 := Lib.hid (fun W' hr => next_any g n1.2 W' hr)
    have KP := Lib.hid (fun W' hs hl => parse_two (nextF n1.2).1 hs W' hl)
    have KS := Lib.hid (fun W' (hr : Rd 53 W' g n1.2) => nextF_short hr)
    generalize nextF n1.2 = n2 at KN2 KP KS ⊢
    generalize (parseL n2.1).getD 0 = ga at KP ⊢
    generalize (parseL n2.1).isNone = no at KP ⊢
    cases no <;> cases hbad : n2.2.bad
    all_goals
      have HBAD := Lib.hid hbad
      clear hbad
      go_enter Tryz.func30, Tryz.ntmps30
      go_wp2_with fail
      refine (KT.out _ HH.out).mono ?_
      rintro e W1 ⟨rfl, hr1, hu1⟩
      have HR1 := Lib.hid hr1
      have HU1 := Lib.hid ((Upto.of_below HB0.out).trans hu1)
      have HX1 := Lib.hid (hu1.row HX.out hne)
      have HL1 := Lib.hid (lib_upto HL0.out hu1 hG (by simp; omega))
      clear hr1 hu1
      go_wp2_with fail
      refine (KN1.out _ HR1.out).mono ?_
      rintro e W2 ⟨rfl, hr1, hu1⟩
      have HR2 := Lib.hid hr1
      have HU2 := Lib.hid (HU1.out.trans hu1)
      have HX2 := Lib.hid (hu1.row HX1.out hne)
      have HL2 := Lib.hid (lib_upto HL1.out hu1 hG (Nat.le_of_lt HR1.out.lt))
      clear hr1 hu1
      go_wp2_with fail
      refine (KN2.out _ HR2.out).mono ?_
      rintro e W3 ⟨rfl, hr1, hu1⟩
      have HR3 := Lib.hid hr1
      have HU3 := Lib.hid (HU2.out.trans hu1)
      have HX3 := Lib.hid (hu1.row HX2.out hne)
      have HL3 := Lib.hid (lib_upto HL2.out hu1 hG (Nat.le_of_lt HR2.out.lt))
      clear hr1 hu1
      go_wp2_with fail
      refine (KP.out _ (KS.out _ HR2.out) HL3.out).mono ?_
      rintro e W4 ⟨rfl, hb1⟩
      have HR4 := Lib.hid (HR3.out.below hb1)
      have HU4 := Lib.hid (HU3.out.trans (Upto.of_below hb1))
      have HX4 := row_step HX3 hb1
      obtain ⟨a0, a1, a2, a3, a4, a5⟩ := box3 HX4.out
      obtain ⟨c1, f1⟩ := HR4.out.cells
      rw [HBAD.out] at c1
      clear hb1
      go_wp2_with fail
      refine box_ret1 (set_at (set_at (set_at ((heap_setCell_other _ _ _ _ hne).trans HX4.out)))) rfl rfl Tryz.underlying30 (by kernel_rfl) rfl ⟨rfl, ?_, ?_⟩
      · rw [orBad_eq, HBAD.out]
        exact (HR4.out.bad _).above (set_b (set_b (set_b (Below.refl _ _) (by omega)) (by omega)) (by omega))
      · exact (((HU4.out.set).set_new (Nat.le_refl _)).set_new (Nat.le_refl _)).set_new (Nat.le_refl _)
end Go.Proofs.YtefhoecdoemgbaaGreatDoor.Ru9
