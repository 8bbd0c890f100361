/- The law RulePorts: walked. -/
import Derived.Test.YtefhoecdoemgbaaGreatDoorRwA
import Derived.Test.YtefhoecdoemgbaaGreatDoorRw2
namespace Go.Proofs.YtefhoecdoemgbaaGreatDoor.RwP
open Go Go.RowKit Go.Proofs.YtefhoecdoemgbaaGreatDoor.Ad0 Go.Proofs.YtefhoecdoemgbaaGreatDoor.Ru0 Go.Proofs.YtefhoecdoemgbaaGreatDoor.Ad1 Go.Proofs.YtefhoecdoemgbaaGreatDoor.St0 Go.Proofs.YtefhoecdoemgbaaGreatDoor.St1 Go.Proofs.YtefhoecdoemgbaaGreatDoor.St2 Go.Proofs.YtefhoecdoemgbaaGreatDoor.St3 Go.Proofs.YtefhoecdoemgbaaGreatDoor.Ru1 Go.Proofs.YtefhoecdoemgbaaGreatDoor.Ru2 Go.Proofs.YtefhoecdoemgbaaGreatDoor.B1 Go.Proofs.YtefhoecdoemgbaaGreatDoor.Ad3 Go.Proofs.YtefhoecdoemgbaaGreatDoor.St4 Go.Proofs.YtefhoecdoemgbaaGreatDoor.St5 Go.Proofs.YtefhoecdoemgbaaGreatDoor.St7 Go.Proofs.YtefhoecdoemgbaaGreatDoor.St8 Go.Proofs.YtefhoecdoemgbaaGreatDoor.St9 Go.Proofs.YtefhoecdoemgbaaGreatDoor.StC Go.Proofs.YtefhoecdoemgbaaGreatDoor.Ru3 Go.Proofs.YtefhoecdoemgbaaGreatDoor.Ru6 Go.Proofs.YtefhoecdoemgbaaGreatDoor.Ru7 Go.Proofs.YtefhoecdoemgbaaGreatDoor.Ru4 Go.Proofs.YtefhoecdoemgbaaGreatDoor.Ru5 Go.Proofs.YtefhoecdoemgbaaGreatDoor.St6 Go.Proofs.YtefhoecdoemgbaaGreatDoor.StA Go.Proofs.YtefhoecdoemgbaaGreatDoor.Ru8 Go.Proofs.YtefhoecdoemgbaaGreatDoor.Ru9 Go.Proofs.YtefhoecdoemgbaaGreatDoor.RuA Go.Proofs.YtefhoecdoemgbaaGreatDoor.RuB Go.Proofs.YtefhoecdoemgbaaGreatDoor.RuC Go.Proofs.YtefhoecdoemgbaaGreatDoor.RuD Go.Proofs.YtefhoecdoemgbaaGreatDoor.RuE Go.Proofs.YtefhoecdoemgbaaGreatDoor.RuF Go.Proofs.YtefhoecdoemgbaaGreatDoor.RuG Go.Proofs.YtefhoecdoemgbaaGreatDoor.RuH Go.Proofs.YtefhoecdoemgbaaGreatDoor.RuI Go.Proofs.YtefhoecdoemgbaaGreatDoor.RuJ Go.Proofs.YtefhoecdoemgbaaGreatDoor.Ad2 Go.Proofs.YtefhoecdoemgbaaGreatDoor.RuQ Go.Proofs.YtefhoecdoemgbaaGreatDoor.RuR Go.Proofs.YtefhoecdoemgbaaGreatDoor.RuS Go.Proofs.YtefhoecdoemgbaaGreatDoor.RuT Go.Proofs.YtefhoecdoemgbaaGreatDoor.RuW Go.Proofs.YtefhoecdoemgbaaGreatDoor.RuY Go.Proofs.YtefhoecdoemgbaaGreatDoor.RuZ Go.Proofs.YtefhoecdoemgbaaGreatDoor.Rw0 Go.Proofs.YtefhoecdoemgbaaGreatDoor.RuVa Go.Proofs.YtefhoecdoemgbaaGreatDoor.RuX Go.Proofs.YtefhoecdoemgbaaGreatDoor.RwA Go.Proofs.YtefhoecdoemgbaaGreatDoor.Rw1
set_option linter.unusedVariables false
set_option linter.unusedSimpArgs false

theorem portT_len (low high : Int) (l0 : 0 ≤ low) (l1 : low ≤ 99999) (h0 : 0 ≤ high) (h1 : high ≤ 99999) : (portT low high).length ≤ 11 := by
  have i1 : (Lib.itoa low).length ≤ 5 := by rw [itoa_of low l0]; exact len_dec 4 low.toNat (by omega)
  have i2 : (Lib.itoa high).length ≤ 5 := by rw [itoa_of high h0]; exact len_dec 4 high.toNat (by omega)
  unfold portT
  split
  · omega
  · simp; omega
/-- The name of a protocol, as the law makes it. -/
def Named (p : Int) (nm : Wd) : Prop := (p = 1 ∧ nm = wIcmp) ∨ (p = 6 ∧ nm = wTcp) ∨ (p = 17 ∧ nm = wUdp) ∨ (p ≠ 1 ∧ p ≠ 6 ∧ p ≠ 17 ∧ nm = Lib.itoa p)
theorem named (p : Int) : Named p (protoW p) := by
  unfold Named protoW
  by_cases h1 : p = 1
  · simp [h1]
  · by_cases h2 : p = 6
    · simp [h2]
    · by_cases h3 : p = 17
      · simp [h3]
      · simp [h1, h2, h3]
set_option maxRecDepth 100000 in
set_option maxHeartbeats 8000000 in
theorem ports_in (KS : PrintSaid) (KR : ReadSaid) (low high p : Int) (l0 : 0 ≤ low) (l1 : low ≤ 99999) (h0 : 0 ≤ high) (h1 : high ≤ 99999) (p0 : 1 ≤ p) (p1' : p ≤ 255) (w : World) (hl : LibOK w) :
    Calls Tryz.prog 7 #[.int .i64 low, .int .i64 high, .int .i64 p] w fun e w' => e = .returned (.bool true) ∧ Below w.heap.size w w' := by
  have hpl : (protoW p).length ≤ 5 := by
    unfold protoW
    split
    · decide
    · split
      · decide
      · split
        · decide
        · rw [itoa_of p (by omega)]; exact len_dec 4 p.toNat (by omega)
  have htl := portT_len low high l0 l1 h0 h1
  have i1 : (Lib.itoa low).length ≤ 5 := by rw [itoa_of low l0]; exact len_dec 4 low.toNat (by omega)
  have i2 : (Lib.itoa high).length ≤ 5 := by rw [itoa_of high h0]; exact len_dec 4 high.toNat (by omega)
  have K3 := Lib.hid (fun W => dec_int p (by omega) (by omega) W)
  have K4 := Lib.hid (fun W => dec_int low l0 (by omega) W)
  have K5 := Lib.hid (fun W => dec_int high h0 (by omega) W)
  have K6 := Lib.hid (fun W hL => known_any KS W hL)
  have HL : Hid (Lo w w) := Lib.hid ⟨Below.refl _ _, hl⟩
  have hsz : (portTx low high p).length ≤ 100 := by
    unfold portTx
    simp only [List.length_append, List.length_cons, List.length_nil]
    omega
  have hz := wd_size (portTx low high p)
  have hd : (⟨(portTx low high p).toArray⟩ : ByteArray).data.toList = portTx low high p := rfl
  have k1 := fun W hL => parseR_any ⟨(portTx low high p).toArray⟩ (by omega) W hL
  have k2 := fun W hL => KR ⟨(portTx low high p).toArray⟩ (by omega) W hL
  rw [hd, ports_words low high p l0 h0 p0, ports_parse low high p l0 l1 h0 h1 p0 p1'] at k1
  rw [hd, ports_words low high p l0 h0 p0, ← rule_same, ports_parse low high p l0 l1 h0 h1 p0 p1'] at k2
  have hm := ports_may low high p l0 p0 p1'
  have hn := named p
  have htx : ((([98, 108, 111, 99, 107, 32, 112, 114, 111, 116, 111, 32] ++ protoW p) ++ [32, 102, 114, 111, 109, 32, 97, 110, 121, 32, 112, 111, 114, 116, 32]) ++ portT low high) ++ [32, 116, 111, 32, 97, 110, 121] = portTx low high p := rfl
  generalize portTx low high p = tx at htx k1 k2 hsz
  generalize protoW p = nm at htx hn hpl
  generalize hb : ruleR (portR low high p) = b at k1 k2 hm
  generalize portR low high p = R at k1 k2
  have hpt : portT low high = if high = low then Lib.itoa low else (Lib.itoa low ++ [58]) ++ Lib.itoa high := rfl
  generalize portT low high = pt at htx hpt htl
  generalize Lib.itoa low = il at K4 hpt i1
  generalize Lib.itoa high = ih at K5 hpt i2
  obtain ⟨q0, hq0⟩ : ∃ q, ([98, 108, 111, 99, 107, 32, 112, 114, 111, 116, 111, 32] : Wd) ++ nm = q := ⟨_, rfl⟩
  have lq0 : q0.length ≤ 17 := by rw [← hq0, List.length_append]; simp only [List.length_cons, List.length_nil]; omega
  obtain ⟨q1, hq1⟩ : ∃ q, q0 ++ ([32, 102, 114, 111, 109, 32, 97, 110, 121, 32, 112, 111, 114, 116, 32] : Wd) = q := ⟨_, rfl⟩
  have lq1 : q1.length ≤ 32 := by rw [← hq1, List.length_append]; simp only [List.length_cons, List.length_nil]; omega
  obtain ⟨q2, hq2⟩ : ∃ q, q1 ++ pt = q := ⟨_, rfl⟩
  have lq2 : q2.length ≤ 43 := by rw [← hq2, List.length_append]; omega
  rw [hq0, hq1, hq2] at htx
  have hadd0 : ∀ W, (Op.stringOp .add (⟨#[98, 108, 111, 99, 107, 32, 112, 114, 111, 116, 111, 32]⟩ : ByteArray) ⟨nm.toArray⟩).run Tryz.prog W = .ok (.string ⟨q0.toArray⟩) W := fun W => by rw [← hq0]; exact add_word [98, 108, 111, 99, 107, 32, 112, 114, 111, 116, 111, 32] nm (by simp only [List.length_cons, List.length_nil]; omega) W
  have hadd1 : ∀ W, (Op.stringOp .add (⟨q0.toArray⟩ : ByteArray) ⟨#[32, 102, 114, 111, 109, 32, 97, 110, 121, 32, 112, 111, 114, 116, 32]⟩).run Tryz.prog W = .ok (.string ⟨q1.toArray⟩) W := fun W => by rw [← hq1]; exact add_word q0 [32, 102, 114, 111, 109, 32, 97, 110, 121, 32, 112, 111, 114, 116, 32] (by simp only [List.length_cons, List.length_nil]; omega) W
  have hadd2 : ∀ W, (Op.stringOp .add (⟨q1.toArray⟩ : ByteArray) ⟨pt.toArray⟩).run Tryz.prog W = .ok (.string ⟨q2.toArray⟩) W := fun W => by rw [← hq2]; exact add_word q1 pt (by omega) W
  have hadd3 : ∀ W, (Op.stringOp .add (⟨q2.toArray⟩ : ByteArray) ⟨#[32, 116, 111, 32, 97, 110, 121]⟩).run Tryz.prog W = .ok (.string ⟨tx.toArray⟩) W := fun W => by rw [← htx]; exact add_word q2 [32, 116, 111, 32, 97, 110, 121] (by simp only [List.length_cons, List.length_nil]; omega) W
  obtain ⟨r0, hr0⟩ : ∃ q, il ++ ([58] : Wd) = q := ⟨_, rfl⟩
  have lr0 : r0.length ≤ 6 := by rw [← hr0, List.length_append]; simp only [List.length_cons, List.length_nil]; omega
  have hadd4 : ∀ W, (Op.stringOp .add (⟨il.toArray⟩ : ByteArray) ⟨#[58]⟩).run Tryz.prog W = .ok (.string ⟨r0.toArray⟩) W := fun W => by rw [← hr0]; exact add_word il [58] (by simp only [List.length_cons, List.length_nil]; omega) W
  have hadd5 : ∀ W, (Op.stringOp .add (⟨r0.toArray⟩ : ByteArray) ⟨ih.toArray⟩).run Tryz.prog W = .ok (.string ⟨(r0 ++ ih).toArray⟩) W := fun W => add_word r0 ih (by omega) W
  rw [hr0] at hpt
  generalize r0 ++ ih = r1 at hpt hadd5
  obtain ⟨R', E, hre⟩ : ∃ (R' : RuleM) (E : Int), ruleV (if b then some R else none) = .tuple #[.agg (ruleC R'), .int .i64 E] ∧ (E == 0) = b := by
    cases b
    · exact ⟨{}, 2, rfl, rfl⟩
    · exact ⟨R, 0, rfl, rfl⟩
  obtain ⟨hre, hE⟩ := hre
  rw [hre] at k1 k2
  have k7 := fun W => rsame_any R' R' W
  rw [show decide (R' = R') = true from by simp] at k7
  have HI := Lib.hid (info32 R')
  have H1 := Lib.hid (rule_one R')
  have HZ : Hid ((ruleC R').size = 28) := Lib.hid rfl
  have NB := Lib.hid (fun W => box_new W R' {})
  have NL := Lib.hid (fun W => below_new W R' {})
  unfold Box at NB
  generalize ruleC R' = cr at *
  have K1 := Lib.hid k1
  have K2 := Lib.hid k2
  have K7 := Lib.hid k7
  have HPT := Lib.hid hpt
  have HM := Lib.hid hm
  have HN := Lib.hid hn
  have c1 : ¬ low < 0 := by omega
  have c2 : ¬ 99999 < low := by omega
  have c3 : ¬ high < 0 := by omega
  have c4 : ¬ 99999 < high := by omega
  have c5 : ¬ p < 1 := by omega
  have c6 : ¬ 255 < p := by omega
  clear k1 k2 k7 hpt hm hn hl KS KR hre hb htx hq0 hq1 hq2 lq0 lq1 lq2 hr0 lr0 hpl htl i1 i2 hsz hz hd
  go_enter Tryz.func7, Tryz.ntmps7
  go_upto_region 3 with fail
  go_cut [7] (fun s7 wc => s7 = .string ⟨(Lib.itoa p).toArray⟩ ∧ Lo w wc)
  case first =>
    go_wp2_with (go_at_call 20; (with_reducible refine (K3.out _).mono ?_); rintro e w1 ⟨rfl, hb1⟩; have HL := Lib.hid (HL.out.below hb1); clear hb1)
    go_meet
    case rel => exact ⟨rfl, HL.out⟩
  case rest =>
  obtain ⟨rfl, hl⟩ := hcut
  have HL := Lib.hid hl
  clear hl
  obtain ⟨n0, hn0⟩ : ∃ q, Lib.itoa p = q := ⟨_, rfl⟩
  rw [hn0]
  have HN0 := Lib.hid hn0
  clear hn0
  obtain ⟨n1, hn1⟩ : ∃ q, (if p = 1 then wIcmp else n0) = q := ⟨_, rfl⟩
  have HN1 := Lib.hid hn1
  clear hn1
  go_upto_if 42 with fail
  go_cut [7] (fun s7 wy => s7 = .string ⟨n1.toArray⟩ ∧ wy = wc)
  case first =>
    by_cases hp : p = 1
    · have hq : (p == 1) = true := by rw [beq_iff_eq]; exact hp
      have HP := Lib.hid hp
      clear hp
      go_wp2_with fail
      go_meet
      case rel => exact ⟨by rw [← HN1.out, if_pos HP.out]; rfl, rfl⟩
    · have hq : (p == 1) = false := by rw [beq_eq_false_iff_ne]; exact hp
      have HP := Lib.hid hp
      clear hp
      go_wp2_with fail
      go_meet
      case rel => exact ⟨by rw [← HN1.out, if_neg HP.out], rfl⟩
  case rest =>
  obtain ⟨rfl, rfl⟩ := hcut
  obtain ⟨n2, hn2⟩ : ∃ q, (if p = 6 then wTcp else n1) = q := ⟨_, rfl⟩
  have HN2 := Lib.hid hn2
  clear hn2
  go_upto_if 44 with fail
  go_cut [7] (fun s7 wy => s7 = .string ⟨n2.toArray⟩ ∧ wy = wc)
  case first =>
    by_cases hp : p = 6
    · have hq : (p == 6) = true := by rw [beq_iff_eq]; exact hp
      have HP := Lib.hid hp
      clear hp
      go_wp2_with fail
      go_meet
      case rel => exact ⟨by rw [← HN2.out, if_pos HP.out]; rfl, rfl⟩
    · have hq : (p == 6) = false := by rw [beq_eq_false_iff_ne]; exact hp
      have HP := Lib.hid hp
      clear hp
      go_wp2_with fail
      go_meet
      case rel => exact ⟨by rw [← HN2.out, if_neg HP.out], rfl⟩
  case rest =>
  obtain ⟨rfl, rfl⟩ := hcut
  obtain ⟨n3, hn3⟩ : ∃ q, (if p = 17 then wUdp else n2) = q := ⟨_, rfl⟩
  have HN3 := Lib.hid hn3
  clear hn3
  go_upto_if 46 with fail
  go_cut [7] (fun s7 wy => s7 = .string ⟨n3.toArray⟩ ∧ wy = wc)
  case first =>
    by_cases hp : p = 17
    · have hq : (p == 17) = true := by rw [beq_iff_eq]; exact hp
      have HP := Lib.hid hp
      clear hp
      go_wp2_with fail
      go_meet
      case rel => exact ⟨by rw [← HN3.out, if_pos HP.out]; rfl, rfl⟩
    · have hq : (p == 17) = false := by rw [beq_eq_false_iff_ne]; exact hp
      have HP := Lib.hid hp
      clear hp
      go_wp2_with fail
      go_meet
      case rel => exact ⟨by rw [← HN3.out, if_neg HP.out], rfl⟩
  case rest =>
  obtain ⟨rfl, rfl⟩ := hcut
  have hnm : n3 = nm := by
    rw [← HN3.out, ← HN2.out, ← HN1.out, ← HN0.out]
    rcases HN.out with ⟨rfl, h⟩ | ⟨rfl, h⟩ | ⟨rfl, h⟩ | ⟨h1, h2, h3, h⟩
    · rw [h]; rfl
    · rw [h]; rfl
    · rw [h]; rfl
    · rw [if_neg h3, if_neg h2, if_neg h1, h]
  rw [hnm]
  clear hnm HN
  go_upto_region 10 with fail
  go_cut [8] (fun s8 wc => s8 = .string ⟨il.toArray⟩ ∧ Lo w wc)
  case first =>
    go_wp2_with (go_at_call 20; (with_reducible refine (K4.out _).mono ?_); rintro e w1 ⟨rfl, hb1⟩; have HL := Lib.hid (HL.out.below hb1); clear hb1)
    go_meet
    case rel => exact ⟨rfl, HL.out⟩
  case rest =>
  obtain ⟨rfl, hl⟩ := hcut
  have HL := Lib.hid hl
  clear hl
  go_upto_if 51 with fail
  go_cut [8] (fun s8 wc => s8 = .string ⟨pt.toArray⟩ ∧ Lo w wc)
  case first =>
    by_cases he : high = low
    · have hq : (high != low) = false := by simp [he]
      have HH := Lib.hid (HPT.out.trans (if_pos he))
      clear he
      go_wp2_with fail
      go_meet
      case rel => exact ⟨by rw [HH.out], HL.out⟩
    · have hq : (high != low) = true := by simp [he]
      have HH := Lib.hid (HPT.out.trans (if_neg he))
      clear he
      go_wp2_with (go_at_call 20; (with_reducible refine (K5.out _).mono ?_); rintro e w1 ⟨rfl, hb1⟩; have HL := Lib.hid (HL.out.below hb1); clear hb1)
      go_meet
      case rel => exact ⟨by rw [HH.out], HL.out⟩
  case rest =>
  obtain ⟨rfl, hl⟩ := hcut
  have HL := Lib.hid hl
  clear hl
  go_upto_region 14 with fail
  go_cut [10, 11] (fun s3 s4 wc => ∃ g, s3 = .pointer (some ⟨g, 0, none⟩) ∧ s4 = .int .i64 E ∧ wc.heap[g]? = some (.cells cr 32 (0, 0)) ∧ Lo w wc)
  case first =>
    go_wp2_with (first
      | (go_at_call 9; (with_reducible refine (K1.out _ HL.out.lib).mono ?_); rintro e w1 ⟨rfl, hb1⟩; have HO := Lib.hid (HL.out.below hb1); have HN := Lib.hid (heap_alloc_new w1 (.cells (ruleC {}) 32)); clear hb1)
      | (refine Mem.store_part w1.heap.size 0 cr ?_ ?_ HN.out ?_ ?_ ?_ ?_ ?_; rfl; rfl; (rw [HZ.out]; exact Nat.le_of_ble_eq_true rfl); exact HI.out; exact H1.out; rfl))
    (try simp only [Act.put])
    go_meet
    case rel => exact ⟨_, rfl, rfl, NB.out w1, HO.out.below (NL.out w1)⟩
  case rest =>
  obtain ⟨g, rfl, rfl, hr, hl⟩ := hcut
  have HR := Lib.hid hr
  have HL := Lib.hid hl
  clear hr hl
  go_upto_region 15 with fail
  go_cut [12, 13] (fun s3 s4 wc => ∃ k, s3 = .pointer (some ⟨k, 0, none⟩) ∧ s4 = .int .i64 E ∧ wc.heap[g]? = some (.cells cr 32 (0, 0)) ∧ wc.heap[k]? = some (.cells cr 32 (0, 0)) ∧ Lo w wc)
  case first =>
    go_wp2_with (first
      | (go_at_call 10; (with_reducible refine (K2.out _ HL.out.lib).mono ?_); rintro e w1 ⟨rfl, hb1⟩; have HO := Lib.hid (HL.out.below hb1); have HN := Lib.hid (heap_alloc_new w1 (.cells (ruleC {}) 32)); have HR1 := row_step HR hb1; clear hb1)
      | (refine Mem.store_part w1.heap.size 0 cr ?_ ?_ HN.out ?_ ?_ ?_ ?_ ?_; rfl; rfl; (rw [HZ.out]; exact Nat.le_of_ble_eq_true rfl); exact HI.out; exact H1.out; rfl))
    (try simp only [Act.put])
    go_meet
    case rel => exact ⟨_, rfl, rfl, (row_step HR1 (NL.out w1)).out, NB.out w1, HO.out.below (NL.out w1)⟩
  case rest =>
  obtain ⟨k, rfl, rfl, hr, hq, hl⟩ := hcut
  have HR := Lib.hid hr
  have HQ := Lib.hid hq
  have HL := Lib.hid hl
  clear hr hq hl
  obtain ⟨al, hal⟩ : ∃ q, (low == 0 && high == 65535) = q := ⟨_, rfl⟩
  rw [hal] at HM
  have HAL := Lib.hid hal
  clear hal
  go_upto_region 16 with fail
  go_cut [14] (fun s14 wx => s14 = .bool al ∧ wx = wc)
  case first =>
    cases h1 : (low == 0) <;> cases h2 : (high == 65535)
    all_goals
      go_wp2
      all_goals go_meet
      all_goals (case rel => exact ⟨by rw [← HAL.out, h1, h2]; rfl, rfl⟩)
  case rest =>
  obtain ⟨rfl, rfl⟩ := hcut
  obtain ⟨x1, hx1⟩ : ∃ q, decide (low ≤ high) = q := ⟨_, rfl⟩
  obtain ⟨x2, hx2⟩ : ∃ q, decide (high ≤ 65535) = q := ⟨_, rfl⟩
  obtain ⟨x3, hx3⟩ : ∃ q, (p == 6) = q := ⟨_, rfl⟩
  obtain ⟨x4, hx4⟩ : ∃ q, (p == 17) = q := ⟨_, rfl⟩
  rw [hx1, hx2, hx3, hx4] at HM
  have HX1 := Lib.hid hx1
  have HX2 := Lib.hid hx2
  have HX3 := Lib.hid hx3
  have HX4 := Lib.hid hx4
  clear hx1 hx2 hx3 hx4
  go_upto_region 17 with fail
  go_cut [15] (fun s15 wy => s15 = .bool b ∧ wy = wc)
  case first =>
    cases x1 <;> cases x2 <;> cases x3 <;> cases x4
    all_goals
      have y1 := HX1.out
      have y2 := HX2.out
      have y3 := HX3.out
      have y4 := HX4.out
      simp only [decide_eq_true_eq, decide_eq_false_iff_not] at y1 y2
      go_wp2
      all_goals go_meet
      all_goals (case rel => exact ⟨by rw [HM.out]; simp, rfl⟩)
  case rest =>
  obtain ⟨rfl, rfl⟩ := hcut
  rw [← hE]
  go_wp2_with (first
    | ((with_reducible refine Mem.load_row g ?_ HR.out Tryz.underlying32 HI.out ?_ ?_); rfl; rfl)
    | ((with_reducible refine Mem.load_row k ?_ HQ.out Tryz.underlying32 HI.out ?_ ?_); rfl; rfl)
    | (go_at_call 11; (with_reducible refine (K7.out _).mono ?_); rintro e w1 ⟨rfl, hb1⟩; have HL := Lib.hid (HL.out.below hb1); clear hb1)
    | (go_at_call 14; (with_reducible refine (K6.out _ HL.out.lib).mono ?_); rintro e w1 ⟨rfl, hb1⟩; have HL := Lib.hid (HL.out.below hb1); clear hb1))
  go_ret
  exact ⟨rfl, HL.out.low⟩
set_option maxRecDepth 20000 in
theorem ports_walk (KS : PrintSaid) (KR : ReadSaid) (low high p : Int) (w : World) (hl : LibOK w) :
    Calls Tryz.prog 7 #[.int .i64 low, .int .i64 high, .int .i64 p] w fun e w' => e = .returned (.bool true) ∧ Below w.heap.size w w' := by
  have K6 := Lib.hid (known_any KS w hl)
  by_cases c0 : low < 0
  · go_enter Tryz.func7, Tryz.ntmps7
    go_wp2_with (go_at_call 14; (with_reducible refine K6.out.mono ?_); rintro e w1 ⟨rfl, hb1⟩; have HB := Lib.hid hb1; clear hb1)
    go_ret
    exact ⟨rfl, HB.out⟩
  by_cases c1 : 99999 < low
  · go_enter Tryz.func7, Tryz.ntmps7
    go_wp2_with (go_at_call 14; (with_reducible refine K6.out.mono ?_); rintro e w1 ⟨rfl, hb1⟩; have HB := Lib.hid hb1; clear hb1)
    go_ret
    exact ⟨rfl, HB.out⟩
  by_cases c2 : high < 0
  · go_enter Tryz.func7, Tryz.ntmps7
    go_wp2_with (go_at_call 14; (with_reducible refine K6.out.mono ?_); rintro e w1 ⟨rfl, hb1⟩; have HB := Lib.hid hb1; clear hb1)
    go_ret
    exact ⟨rfl, HB.out⟩
  by_cases c3 : 99999 < high
  · go_enter Tryz.func7, Tryz.ntmps7
    go_wp2_with (go_at_call 14; (with_reducible refine K6.out.mono ?_); rintro e w1 ⟨rfl, hb1⟩; have HB := Lib.hid hb1; clear hb1)
    go_ret
    exact ⟨rfl, HB.out⟩
  by_cases c4 : p < 1
  · go_enter Tryz.func7, Tryz.ntmps7
    go_wp2_with (go_at_call 14; (with_reducible refine K6.out.mono ?_); rintro e w1 ⟨rfl, hb1⟩; have HB := Lib.hid hb1; clear hb1)
    go_ret
    exact ⟨rfl, HB.out⟩
  by_cases c5 : 255 < p
  · go_enter Tryz.func7, Tryz.ntmps7
    go_wp2_with (go_at_call 14; (with_reducible refine K6.out.mono ?_); rintro e w1 ⟨rfl, hb1⟩; have HB := Lib.hid hb1; clear hb1)
    go_ret
    exact ⟨rfl, HB.out⟩
  exact ports_in KS KR low high p (by omega) (by omega) (by omega) (by omega) (by omega) (by omega) w hl
end Go.Proofs.YtefhoecdoemgbaaGreatDoor.RwP
