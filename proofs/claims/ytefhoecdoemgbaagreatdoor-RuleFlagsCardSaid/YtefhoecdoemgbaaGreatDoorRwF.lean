/- The law RuleFlags: walked. -/
import Derived.Test.YtefhoecdoemgbaaGreatDoorRwA
import Derived.Test.YtefhoecdoemgbaaGreatDoorRw2
namespace Go.Proofs.YtefhoecdoemgbaaGreatDoor.RwF
open Go Go.RowKit Go.Proofs.YtefhoecdoemgbaaGreatDoor.Ad0 Go.Proofs.YtefhoecdoemgbaaGreatDoor.Ru0 Go.Proofs.YtefhoecdoemgbaaGreatDoor.Ad1 Go.Proofs.YtefhoecdoemgbaaGreatDoor.St0 Go.Proofs.YtefhoecdoemgbaaGreatDoor.St1 Go.Proofs.YtefhoecdoemgbaaGreatDoor.St2 Go.Proofs.YtefhoecdoemgbaaGreatDoor.St3 Go.Proofs.YtefhoecdoemgbaaGreatDoor.Ru1 Go.Proofs.YtefhoecdoemgbaaGreatDoor.Ru2 Go.Proofs.YtefhoecdoemgbaaGreatDoor.B1 Go.Proofs.YtefhoecdoemgbaaGreatDoor.Ad3 Go.Proofs.YtefhoecdoemgbaaGreatDoor.St4 Go.Proofs.YtefhoecdoemgbaaGreatDoor.St5 Go.Proofs.YtefhoecdoemgbaaGreatDoor.St7 Go.Proofs.YtefhoecdoemgbaaGreatDoor.St8 Go.Proofs.YtefhoecdoemgbaaGreatDoor.St9 Go.Proofs.YtefhoecdoemgbaaGreatDoor.StC Go.Proofs.YtefhoecdoemgbaaGreatDoor.Ru3 Go.Proofs.YtefhoecdoemgbaaGreatDoor.Ru6 Go.Proofs.YtefhoecdoemgbaaGreatDoor.Ru7 Go.Proofs.YtefhoecdoemgbaaGreatDoor.Ru4 Go.Proofs.YtefhoecdoemgbaaGreatDoor.Ru5 Go.Proofs.YtefhoecdoemgbaaGreatDoor.St6 Go.Proofs.YtefhoecdoemgbaaGreatDoor.StA Go.Proofs.YtefhoecdoemgbaaGreatDoor.Ru8 Go.Proofs.YtefhoecdoemgbaaGreatDoor.Ru9 Go.Proofs.YtefhoecdoemgbaaGreatDoor.RuA Go.Proofs.YtefhoecdoemgbaaGreatDoor.RuB Go.Proofs.YtefhoecdoemgbaaGreatDoor.RuC Go.Proofs.YtefhoecdoemgbaaGreatDoor.RuD Go.Proofs.YtefhoecdoemgbaaGreatDoor.RuE Go.Proofs.YtefhoecdoemgbaaGreatDoor.RuF Go.Proofs.YtefhoecdoemgbaaGreatDoor.RuG Go.Proofs.YtefhoecdoemgbaaGreatDoor.RuH Go.Proofs.YtefhoecdoemgbaaGreatDoor.RuI Go.Proofs.YtefhoecdoemgbaaGreatDoor.RuJ Go.Proofs.YtefhoecdoemgbaaGreatDoor.Ad2 Go.Proofs.YtefhoecdoemgbaaGreatDoor.RuQ Go.Proofs.YtefhoecdoemgbaaGreatDoor.RuR Go.Proofs.YtefhoecdoemgbaaGreatDoor.RuS Go.Proofs.YtefhoecdoemgbaaGreatDoor.RuT Go.Proofs.YtefhoecdoemgbaaGreatDoor.RuW Go.Proofs.YtefhoecdoemgbaaGreatDoor.RuY Go.Proofs.YtefhoecdoemgbaaGreatDoor.RuZ Go.Proofs.YtefhoecdoemgbaaGreatDoor.Rw0 Go.Proofs.YtefhoecdoemgbaaGreatDoor.RuVa Go.Proofs.YtefhoecdoemgbaaGreatDoor.RuX Go.Proofs.YtefhoecdoemgbaaGreatDoor.RwA Go.Proofs.YtefhoecdoemgbaaGreatDoor.Rw1 Go.Proofs.YtefhoecdoemgbaaGreatDoor.Rw2
set_option linter.unusedVariables false
set_option linter.unusedSimpArgs false

theorem flagsW_le (n : Nat) : (flagsW n).length ≤ 7 := by
  unfold flagsW
  split
  · simp
  · rw [← to_six]; exact Nat.le_trans (to_len n 6) (by decide)
set_option maxRecDepth 100000 in
set_option maxHeartbeats 8000000 in
theorem flags_in (KS : PrintSaid) (s m : Nat) (hs : s < 64) (hm : m < 64) (h0 : m ≠ 0) (w : World) (hl : LibOK w) :
    Calls Tryz.prog 6 #[.int .i64 (s : Nat), .int .i64 (m : Nat)] w fun e w' => e = .returned (.bool true) ∧ Below w.heap.size w w' := by
  have ls := flagsW_le s
  have lm := to_len m 6
  have hsz : (flT s m).length ≤ 60 := by
    unfold flT
    rw [← to_six m]
    simp only [List.length_append, List.length_cons, List.length_nil]
    omega
  have hz := wd_size (flT s m)
  have hd : (⟨(flT s m).toArray⟩ : ByteArray).data.toList = flT s m := rfl
  have k1 := fun W hL => parseR_any ⟨(flT s m).toArray⟩ (by omega) W hL
  rw [hd, fl_words s m hs hm h0, fl_parse s m hs hm h0] at k1
  have K6 := Lib.hid (fun W hL => known_any KS W hL)
  have HL : Hid (Lo w w) := Lib.hid ⟨Below.refl _ _, hl⟩
  have hmy := fl_may s m hs hm
  have htx : (([112, 97, 115, 115, 32, 112, 114, 111, 116, 111, 32, 116, 99, 112, 32, 102, 114, 111, 109, 32, 97, 110, 121, 32, 116, 111, 32, 97, 110, 121, 32, 102, 108, 97, 103, 115, 32] ++ flagsW s) ++ [47]) ++ lettersTo m 6 = flT s m := rfl
  generalize flT s m = tx at htx k1 hsz
  obtain ⟨R', E, hre, hE⟩ : ∃ (R' : RuleM) (E : Int), ruleV (if ruleR (flR s m) then some (flR s m) else none) = .tuple #[.agg (ruleC R'), .int .i64 E] ∧ ((bits .andNot .i64 (s : Nat) (m : Nat) = 0 ∧ E = 0 ∧ R' = flR s m) ∨ (bits .andNot .i64 (s : Nat) (m : Nat) ≠ 0 ∧ E = 2)) := by
    cases hb : ruleR (flR s m)
    · rw [hb] at hmy
      exact ⟨{}, 2, rfl, .inr ⟨fun h => by rw [h] at hmy; exact absurd hmy (by decide), rfl⟩⟩
    · rw [hb] at hmy
      exact ⟨flR s m, 0, rfl, .inl ⟨by simpa using hmy.symm, rfl, rfl⟩⟩
  rw [hre] at k1
  have c17 : R' = flR s m → (ruleC R')[7]? = (ruleC R')[7]? := fun _ => rfl
  clear c17
  have hcell : R' = flR s m → (ruleC R')[17]? = some (.int .i64 (s : Nat)) ∧ (ruleC R')[18]? = some (.int .i64 (m : Nat)) := fun h => by rw [h]; exact ⟨rfl, rfl⟩
  have HI := Lib.hid (info32 R')
  have H1 := Lib.hid (rule_one R')
  have HZ : Hid ((ruleC R').size = 28) := Lib.hid rfl
  have NB := Lib.hid (fun W => box_new W R' {})
  have NL := Lib.hid (fun W => below_new W R' {})
  unfold Box at NB
  generalize ruleC R' = cr at *
  obtain ⟨fw, hfw⟩ : ∃ q, flagsW s = q := ⟨_, rfl⟩
  rw [hfw] at htx ls
  obtain ⟨q0, hq0⟩ : ∃ q, ([112, 97, 115, 115, 32, 112, 114, 111, 116, 111, 32, 116, 99, 112, 32, 102, 114, 111, 109, 32, 97, 110, 121, 32, 116, 111, 32, 97, 110, 121, 32, 102, 108, 97, 103, 115, 32] : Wd) ++ fw = q := ⟨_, rfl⟩
  have lq0 : q0.length ≤ 44 := by rw [← hq0, List.length_append]; simp only [List.length_cons, List.length_nil]; omega
  obtain ⟨q1, hq1⟩ : ∃ q, q0 ++ ([47] : Wd) = q := ⟨_, rfl⟩
  have lq1 : q1.length ≤ 45 := by rw [← hq1, List.length_append]; simp only [List.length_cons, List.length_nil]; omega
  rw [hq0, hq1] at htx
  obtain ⟨fm, hfm⟩ : ∃ q, lettersTo m 6 = q := ⟨_, rfl⟩
  rw [hfm] at htx lm
  have hadd0 : ∀ W, (Op.stringOp .add (⟨#[112, 97, 115, 115, 32, 112, 114, 111, 116, 111, 32, 116, 99, 112, 32, 102, 114, 111, 109, 32, 97, 110, 121, 32, 116, 111, 32, 97, 110, 121, 32, 102, 108, 97, 103, 115, 32]⟩ : ByteArray) ⟨fw.toArray⟩).run Tryz.prog W = .ok (.string ⟨q0.toArray⟩) W := fun W => by rw [← hq0]; exact add_word [112, 97, 115, 115, 32, 112, 114, 111, 116, 111, 32, 116, 99, 112, 32, 102, 114, 111, 109, 32, 97, 110, 121, 32, 116, 111, 32, 97, 110, 121, 32, 102, 108, 97, 103, 115, 32] fw (by simp only [List.length_cons, List.length_nil]; omega) W
  have hadd1 : ∀ W, (Op.stringOp .add (⟨q0.toArray⟩ : ByteArray) ⟨#[47]⟩).run Tryz.prog W = .ok (.string ⟨q1.toArray⟩) W := fun W => by rw [← hq1]; exact add_word q0 [47] (by simp only [List.length_cons, List.length_nil]; omega) W
  have hadd2 : ∀ W, (Op.stringOp .add (⟨q1.toArray⟩ : ByteArray) ⟨fm.toArray⟩).run Tryz.prog W = .ok (.string ⟨tx.toArray⟩) W := fun W => by rw [← htx]; exact add_word q1 fm (by omega) W
  have HA0 := Lib.hid hadd0
  have HA1 := Lib.hid hadd1
  have HA2 := Lib.hid hadd2
  have HFW := Lib.hid hfw
  have HFM := Lib.hid hfm
  have HE := Lib.hid hE
  have HC := Lib.hid hcell
  have K1 := Lib.hid k1
  have b1 : ¬ ((s : Nat) : Int) < 0 := by omega
  have b2 : ¬ (63 : Int) < (s : Nat) := by omega
  have b3 : ¬ ((m : Nat) : Int) < 1 := by omega
  have b4 : ¬ (63 : Int) < (m : Nat) := by omega
  clear k1 hadd0 hadd1 hadd2 hfw hfm hE hcell hre hmy htx hq0 hq1 lq0 lq1 hsz hz hd hl KS ls lm
  go_enter Tryz.func6, Tryz.ntmps6
  go_wp2_with fail
  go_loop [5, 6, 7] (fun x y i => ∃ k : Nat, k ≤ 6 ∧ i = .int .i64 k ∧ x = .string ⟨(lettersTo s k).toArray⟩ ∧ y = .string ⟨(lettersTo m k).toArray⟩) (fun _ _ i => 6 - (intOf i).toNat)
  case atStart => exact ⟨0, by omega, rfl, rfl, rfl⟩
  case round =>
    obtain ⟨k, hk, rfl, rfl, rfl⟩ := hrel
    match k, hk with
    | 0, _ =>
      have hb1 := bit0 s hs
      have hb2 := bit0 m hm
      have hn1 := to_len s 0
      have hn2 := to_len m 0
      cases ht1 : s.testBit 0 <;> cases ht2 : m.testBit 0
      · rw [ht1] at hb1
        rw [ht2] at hb2
        have HY1 := Lib.hid (to_no s 0 ht1)
        have HY2 := Lib.hid (to_no m 0 ht2)
        clear ht1 ht2
        go_wp2_with fail
        go_round
        case rel => exact ⟨1, by omega, rfl, by rw [HY1.out], by rw [HY2.out]⟩
        case measure => simp [intOf]
      · rw [ht1] at hb1
        rw [ht2] at hb2
        have HY1 := Lib.hid (to_no s 0 ht1)
        have HY2 := Lib.hid (to_yes m 0 70 ht2 rfl)
        clear ht1 ht2
        go_wp2_with fail
        go_round
        case rel => exact ⟨1, by omega, rfl, by rw [HY1.out], by rw [HY2.out, ← str_app]; exact congrArg (fun x => Value.string ((⟨(lettersTo m 0).toArray⟩ : ByteArray) ++ x)) rfl⟩
        case measure => simp [intOf]
      · rw [ht1] at hb1
        rw [ht2] at hb2
        have HY1 := Lib.hid (to_yes s 0 70 ht1 rfl)
        have HY2 := Lib.hid (to_no m 0 ht2)
        clear ht1 ht2
        go_wp2_with fail
        go_round
        case rel => exact ⟨1, by omega, rfl, by rw [HY1.out, ← str_app]; exact congrArg (fun x => Value.string ((⟨(lettersTo s 0).toArray⟩ : ByteArray) ++ x)) rfl, by rw [HY2.out]⟩
        case measure => simp [intOf]
      · rw [ht1] at hb1
        rw [ht2] at hb2
        have HY1 := Lib.hid (to_yes s 0 70 ht1 rfl)
        have HY2 := Lib.hid (to_yes m 0 70 ht2 rfl)
        clear ht1 ht2
        go_wp2_with fail
        go_round
        case rel => exact ⟨1, by omega, rfl, by rw [HY1.out, ← str_app]; exact congrArg (fun x => Value.string ((⟨(lettersTo s 0).toArray⟩ : ByteArray) ++ x)) rfl, by rw [HY2.out, ← str_app]; exact congrArg (fun x => Value.string ((⟨(lettersTo m 0).toArray⟩ : ByteArray) ++ x)) rfl⟩
        case measure => simp [intOf]
    | 1, _ =>
      have hb1 := bit1 s hs
      have hb2 := bit1 m hm
      have hn1 := to_len s 1
      have hn2 := to_len m 1
      cases ht1 : s.testBit 1 <;> cases ht2 : m.testBit 1
      · rw [ht1] at hb1
        rw [ht2] at hb2
        have HY1 := Lib.hid (to_no s 1 ht1)
        have HY2 := Lib.hid (to_no m 1 ht2)
        clear ht1 ht2
        go_wp2_with fail
        go_round
        case rel => exact ⟨2, by omega, rfl, by rw [HY1.out], by rw [HY2.out]⟩
        case measure => simp [intOf]
      · rw [ht1] at hb1
        rw [ht2] at hb2
        have HY1 := Lib.hid (to_no s 1 ht1)
        have HY2 := Lib.hid (to_yes m 1 83 ht2 rfl)
        clear ht1 ht2
        go_wp2_with fail
        go_round
        case rel => exact ⟨2, by omega, rfl, by rw [HY1.out], by rw [HY2.out, ← str_app]; exact congrArg (fun x => Value.string ((⟨(lettersTo m 1).toArray⟩ : ByteArray) ++ x)) rfl⟩
        case measure => simp [intOf]
      · rw [ht1] at hb1
        rw [ht2] at hb2
        have HY1 := Lib.hid (to_yes s 1 83 ht1 rfl)
        have HY2 := Lib.hid (to_no m 1 ht2)
        clear ht1 ht2
        go_wp2_with fail
        go_round
        case rel => exact ⟨2, by omega, rfl, by rw [HY1.out, ← str_app]; exact congrArg (fun x => Value.string ((⟨(lettersTo s 1).toArray⟩ : ByteArray) ++ x)) rfl, by rw [HY2.out]⟩
        case measure => simp [intOf]
      · rw [ht1] at hb1
        rw [ht2] at hb2
        have HY1 := Lib.hid (to_yes s 1 83 ht1 rfl)
        have HY2 := Lib.hid (to_yes m 1 83 ht2 rfl)
        clear ht1 ht2
        go_wp2_with fail
        go_round
        case rel => exact ⟨2, by omega, rfl, by rw [HY1.out, ← str_app]; exact congrArg (fun x => Value.string ((⟨(lettersTo s 1).toArray⟩ : ByteArray) ++ x)) rfl, by rw [HY2.out, ← str_app]; exact congrArg (fun x => Value.string ((⟨(lettersTo m 1).toArray⟩ : ByteArray) ++ x)) rfl⟩
        case measure => simp [intOf]
    | 2, _ =>
      have hb1 := bit2 s hs
      have hb2 := bit2 m hm
      have hn1 := to_len s 2
      have hn2 := to_len m 2
      cases ht1 : s.testBit 2 <;> cases ht2 : m.testBit 2
      · rw [ht1] at hb1
        rw [ht2] at hb2
        have HY1 := Lib.hid (to_no s 2 ht1)
        have HY2 := Lib.hid (to_no m 2 ht2)
        clear ht1 ht2
        go_wp2_with fail
        go_round
        case rel => exact ⟨3, by omega, rfl, by rw [HY1.out], by rw [HY2.out]⟩
        case measure => simp [intOf]
      · rw [ht1] at hb1
        rw [ht2] at hb2
        have HY1 := Lib.hid (to_no s 2 ht1)
        have HY2 := Lib.hid (to_yes m 2 82 ht2 rfl)
        clear ht1 ht2
        go_wp2_with fail
        go_round
        case rel => exact ⟨3, by omega, rfl, by rw [HY1.out], by rw [HY2.out, ← str_app]; exact congrArg (fun x => Value.string ((⟨(lettersTo m 2).toArray⟩ : ByteArray) ++ x)) rfl⟩
        case measure => simp [intOf]
      · rw [ht1] at hb1
        rw [ht2] at hb2
        have HY1 := Lib.hid (to_yes s 2 82 ht1 rfl)
        have HY2 := Lib.hid (to_no m 2 ht2)
        clear ht1 ht2
        go_wp2_with fail
        go_round
        case rel => exact ⟨3, by omega, rfl, by rw [HY1.out, ← str_app]; exact congrArg (fun x => Value.string ((⟨(lettersTo s 2).toArray⟩ : ByteArray) ++ x)) rfl, by rw [HY2.out]⟩
        case measure => simp [intOf]
      · rw [ht1] at hb1
        rw [ht2] at hb2
        have HY1 := Lib.hid (to_yes s 2 82 ht1 rfl)
        have HY2 := Lib.hid (to_yes m 2 82 ht2 rfl)
        clear ht1 ht2
        go_wp2_with fail
        go_round
        case rel => exact ⟨3, by omega, rfl, by rw [HY1.out, ← str_app]; exact congrArg (fun x => Value.string ((⟨(lettersTo s 2).toArray⟩ : ByteArray) ++ x)) rfl, by rw [HY2.out, ← str_app]; exact congrArg (fun x => Value.string ((⟨(lettersTo m 2).toArray⟩ : ByteArray) ++ x)) rfl⟩
        case measure => simp [intOf]
    | 3, _ =>
      have hb1 := bit3 s hs
      have hb2 := bit3 m hm
      have hn1 := to_len s 3
      have hn2 := to_len m 3
      cases ht1 : s.testBit 3 <;> cases ht2 : m.testBit 3
      · rw [ht1] at hb1
        rw [ht2] at hb2
        have HY1 := Lib.hid (to_no s 3 ht1)
        have HY2 := Lib.hid (to_no m 3 ht2)
        clear ht1 ht2
        go_wp2_with fail
        go_round
        case rel => exact ⟨4, by omega, rfl, by rw [HY1.out], by rw [HY2.out]⟩
        case measure => simp [intOf]
      · rw [ht1] at hb1
        rw [ht2] at hb2
        have HY1 := Lib.hid (to_no s 3 ht1)
        have HY2 := Lib.hid (to_yes m 3 80 ht2 rfl)
        clear ht1 ht2
        go_wp2_with fail
        go_round
        case rel => exact ⟨4, by omega, rfl, by rw [HY1.out], by rw [HY2.out, ← str_app]; exact congrArg (fun x => Value.string ((⟨(lettersTo m 3).toArray⟩ : ByteArray) ++ x)) rfl⟩
        case measure => simp [intOf]
      · rw [ht1] at hb1
        rw [ht2] at hb2
        have HY1 := Lib.hid (to_yes s 3 80 ht1 rfl)
        have HY2 := Lib.hid (to_no m 3 ht2)
        clear ht1 ht2
        go_wp2_with fail
        go_round
        case rel => exact ⟨4, by omega, rfl, by rw [HY1.out, ← str_app]; exact congrArg (fun x => Value.string ((⟨(lettersTo s 3).toArray⟩ : ByteArray) ++ x)) rfl, by rw [HY2.out]⟩
        case measure => simp [intOf]
      · rw [ht1] at hb1
        rw [ht2] at hb2
        have HY1 := Lib.hid (to_yes s 3 80 ht1 rfl)
        have HY2 := Lib.hid (to_yes m 3 80 ht2 rfl)
        clear ht1 ht2
        go_wp2_with fail
        go_round
        case rel => exact ⟨4, by omega, rfl, by rw [HY1.out, ← str_app]; exact congrArg (fun x => Value.string ((⟨(lettersTo s 3).toArray⟩ : ByteArray) ++ x)) rfl, by rw [HY2.out, ← str_app]; exact congrArg (fun x => Value.string ((⟨(lettersTo m 3).toArray⟩ : ByteArray) ++ x)) rfl⟩
        case measure => simp [intOf]
    | 4, _ =>
      have hb1 := bit4 s hs
      have hb2 := bit4 m hm
      have hn1 := to_len s 4
      have hn2 := to_len m 4
      cases ht1 : s.testBit 4 <;> cases ht2 : m.testBit 4
      · rw [ht1] at hb1
        rw [ht2] at hb2
        have HY1 := Lib.hid (to_no s 4 ht1)
        have HY2 := Lib.hid (to_no m 4 ht2)
        clear ht1 ht2
        go_wp2_with fail
        go_round
        case rel => exact ⟨5, by omega, rfl, by rw [HY1.out], by rw [HY2.out]⟩
        case measure => simp [intOf]
      · rw [ht1] at hb1
        rw [ht2] at hb2
        have HY1 := Lib.hid (to_no s 4 ht1)
        have HY2 := Lib.hid (to_yes m 4 65 ht2 rfl)
        clear ht1 ht2
        go_wp2_with fail
        go_round
        case rel => exact ⟨5, by omega, rfl, by rw [HY1.out], by rw [HY2.out, ← str_app]; exact congrArg (fun x => Value.string ((⟨(lettersTo m 4).toArray⟩ : ByteArray) ++ x)) rfl⟩
        case measure => simp [intOf]
      · rw [ht1] at hb1
        rw [ht2] at hb2
        have HY1 := Lib.hid (to_yes s 4 65 ht1 rfl)
        have HY2 := Lib.hid (to_no m 4 ht2)
        clear ht1 ht2
        go_wp2_with fail
        go_round
        case rel => exact ⟨5, by omega, rfl, by rw [HY1.out, ← str_app]; exact congrArg (fun x => Value.string ((⟨(lettersTo s 4).toArray⟩ : ByteArray) ++ x)) rfl, by rw [HY2.out]⟩
        case measure => simp [intOf]
      · rw [ht1] at hb1
        rw [ht2] at hb2
        have HY1 := Lib.hid (to_yes s 4 65 ht1 rfl)
        have HY2 := Lib.hid (to_yes m 4 65 ht2 rfl)
        clear ht1 ht2
        go_wp2_with fail
        go_round
        case rel => exact ⟨5, by omega, rfl, by rw [HY1.out, ← str_app]; exact congrArg (fun x => Value.string ((⟨(lettersTo s 4).toArray⟩ : ByteArray) ++ x)) rfl, by rw [HY2.out, ← str_app]; exact congrArg (fun x => Value.string ((⟨(lettersTo m 4).toArray⟩ : ByteArray) ++ x)) rfl⟩
        case measure => simp [intOf]
    | 5, _ =>
      have hb1 := bit5 s hs
      have hb2 := bit5 m hm
      have hn1 := to_len s 5
      have hn2 := to_len m 5
      cases ht1 : s.testBit 5 <;> cases ht2 : m.testBit 5
      · rw [ht1] at hb1
        rw [ht2] at hb2
        have HY1 := Lib.hid (to_no s 5 ht1)
        have HY2 := Lib.hid (to_no m 5 ht2)
        clear ht1 ht2
        go_wp2_with fail
        go_round
        case rel => exact ⟨6, by omega, rfl, by rw [HY1.out], by rw [HY2.out]⟩
        case measure => simp [intOf]
      · rw [ht1] at hb1
        rw [ht2] at hb2
        have HY1 := Lib.hid (to_no s 5 ht1)
        have HY2 := Lib.hid (to_yes m 5 85 ht2 rfl)
        clear ht1 ht2
        go_wp2_with fail
        go_round
        case rel => exact ⟨6, by omega, rfl, by rw [HY1.out], by rw [HY2.out, ← str_app]; exact congrArg (fun x => Value.string ((⟨(lettersTo m 5).toArray⟩ : ByteArray) ++ x)) rfl⟩
        case measure => simp [intOf]
      · rw [ht1] at hb1
        rw [ht2] at hb2
        have HY1 := Lib.hid (to_yes s 5 85 ht1 rfl)
        have HY2 := Lib.hid (to_no m 5 ht2)
        clear ht1 ht2
        go_wp2_with fail
        go_round
        case rel => exact ⟨6, by omega, rfl, by rw [HY1.out, ← str_app]; exact congrArg (fun x => Value.string ((⟨(lettersTo s 5).toArray⟩ : ByteArray) ++ x)) rfl, by rw [HY2.out]⟩
        case measure => simp [intOf]
      · rw [ht1] at hb1
        rw [ht2] at hb2
        have HY1 := Lib.hid (to_yes s 5 85 ht1 rfl)
        have HY2 := Lib.hid (to_yes m 5 85 ht2 rfl)
        clear ht1 ht2
        go_wp2_with fail
        go_round
        case rel => exact ⟨6, by omega, rfl, by rw [HY1.out, ← str_app]; exact congrArg (fun x => Value.string ((⟨(lettersTo s 5).toArray⟩ : ByteArray) ++ x)) rfl, by rw [HY2.out, ← str_app]; exact congrArg (fun x => Value.string ((⟨(lettersTo m 5).toArray⟩ : ByteArray) ++ x)) rfl⟩
        case measure => simp [intOf]
    | 6, _ =>
      rw [HFM.out]
      have hls := to_len s 6
      go_upto_if 54 with fail
      go_cut [5] (fun s5 wc => s5 = .string ⟨fw.toArray⟩ ∧ wc = w)
      case first =>
        cases hx : (lettersTo s 6).isEmpty with
        | true =>
          have hw : flagsW s = [45] := by unfold flagsW; rw [if_pos (by rw [← to_six]; simpa using hx)]
          have HH := Lib.hid (HFW.out.symm.trans hw)
          clear hw
          go_wp2_with fail
          go_meet
          case rel => exact ⟨by rw [HH.out], rfl⟩
        | false =>
          have hw : flagsW s = lettersTo s 6 := by unfold flagsW; rw [if_neg (by rw [← to_six]; simpa using hx)]; rfl
          have HH := Lib.hid (HFW.out.symm.trans hw)
          clear hw
          go_wp2_with fail
          go_meet
          case rel => exact ⟨by rw [HH.out], rfl⟩
      case rest =>
      obtain ⟨rfl, rfl⟩ := hcut
      have a0 := HA0.out
      have a1 := HA1.out
      have a2 := HA2.out
      go_upto_region 13 with fail
      go_cut [8, 9] (fun s3 s4 wd => ∃ g, s3 = .pointer (some ⟨g, 0, none⟩) ∧ s4 = .int .i64 E ∧ wd.heap[g]? = some (.cells cr 32 (0, 0)) ∧ Lo wc wd)
      case first =>
        go_wp2_with (first
          | (go_at_call 9; (with_reducible refine (K1.out _ HL.out.lib).mono ?_); rintro e w1 ⟨rfl, hb1⟩; have HO := Lib.hid (HL.out.below hb1); have HN := Lib.hid (heap_alloc_new w1 (.cells (ruleC {}) 32)); clear hb1)
          | (refine Mem.store_part w1.heap.size 0 cr ?_ ?_ HN.out ?_ ?_ ?_ ?_ ?_; rfl; rfl; (rw [HZ.out]; exact Nat.le_of_ble_eq_true rfl); exact HI.out; exact H1.out; rfl))
        (try simp only [Act.put])
        go_meet
        case rel => exact ⟨_, rfl, rfl, NB.out w1, HO.out.below (NL.out w1)⟩
      case rest =>
      obtain ⟨g, rfl, rfl, hr, hl⟩ := hcut
      have HR := Lib.hid hr
      have HL := Lib.hid hl
      clear hr hl a0 a1 a2
      rcases HE.out with ⟨hq, rfl, hRR⟩ | ⟨hq, rfl⟩
      · obtain ⟨d17, d18⟩ := HC.out hRR
        have e17 := cell_of_row _ _ 17 _ _ _ HR.out
        have e18 := cell_of_row _ _ 18 _ _ _ HR.out
        rw [d17] at e17
        rw [d18] at e18
        have hq' : (bits .andNot .i64 ((s : Nat) : Int) ((m : Nat) : Int) != 0) = false := by rw [hq]; rfl
        clear hRR d17 d18
        go_wp2_with (go_at_call 14; (with_reducible refine (K6.out _ HL.out.lib).mono ?_); rintro e w1 ⟨rfl, hb1⟩; have HL := Lib.hid (HL.out.below hb1); clear hb1)
        go_ret
        exact ⟨rfl, HL.out.low⟩
      · have hq' : (bits .andNot .i64 ((s : Nat) : Int) ((m : Nat) : Int) != 0) = true := by simpa using hq
        go_wp2_with (go_at_call 14; (with_reducible refine (K6.out _ HL.out.lib).mono ?_); rintro e w1 ⟨rfl, hb1⟩; have HL := Lib.hid (HL.out.below hb1); clear hb1)
        go_ret
        exact ⟨rfl, HL.out.low⟩
set_option maxRecDepth 20000 in
theorem flags_walk (KS : PrintSaid) (set mask : Int) (w : World) (hl : LibOK w) :
    Calls Tryz.prog 6 #[.int .i64 set, .int .i64 mask] w fun e w' => e = .returned (.bool true) ∧ Below w.heap.size w w' := by
  have K6 := Lib.hid (known_any KS w hl)
  by_cases c0 : set < 0
  · go_enter Tryz.func6, Tryz.ntmps6
    go_wp2_with (go_at_call 14; (with_reducible refine K6.out.mono ?_); rintro e w1 ⟨rfl, hb1⟩; have HB := Lib.hid hb1; clear hb1)
    go_ret
    exact ⟨rfl, HB.out⟩
  by_cases c1 : 63 < set
  · go_enter Tryz.func6, Tryz.ntmps6
    go_wp2_with (go_at_call 14; (with_reducible refine K6.out.mono ?_); rintro e w1 ⟨rfl, hb1⟩; have HB := Lib.hid hb1; clear hb1)
    go_ret
    exact ⟨rfl, HB.out⟩
  by_cases c2 : mask < 1
  · go_enter Tryz.func6, Tryz.ntmps6
    go_wp2_with (go_at_call 14; (with_reducible refine K6.out.mono ?_); rintro e w1 ⟨rfl, hb1⟩; have HB := Lib.hid hb1; clear hb1)
    go_ret
    exact ⟨rfl, HB.out⟩
  by_cases c3 : 63 < mask
  · go_enter Tryz.func6, Tryz.ntmps6
    go_wp2_with (go_at_call 14; (with_reducible refine K6.out.mono ?_); rintro e w1 ⟨rfl, hb1⟩; have HB := Lib.hid hb1; clear hb1)
    go_ret
    exact ⟨rfl, HB.out⟩
  obtain ⟨s, rfl⟩ : ∃ s : Nat, set = (s : Nat) := ⟨set.toNat, by omega⟩
  obtain ⟨m, rfl⟩ : ∃ m : Nat, mask = (m : Nat) := ⟨mask.toNat, by omega⟩
  exact flags_in KS s m (by omega) (by omega) (by omega) w hl
end Go.Proofs.YtefhoecdoemgbaaGreatDoor.RwF
