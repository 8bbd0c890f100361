/- The laws RuleParses and RuleSettles: walked. -/
import Derived.Test.YtefhoecdoemgbaaGreatDoorRuZ
import Derived.Test.YtefhoecdoemgbaaGreatDoorRw2
import Derived.Test.YtefhoecdoemgbaaGreatDoorRuX
import Derived.Test.YtefhoecdoemgbaaGreatDoorRuR
import Derived.Test.YtefhoecdoemgbaaGreatDoorRuE
namespace Go.Proofs.YtefhoecdoemgbaaGreatDoor.RwA
open Go Go.RowKit Go.Proofs.YtefhoecdoemgbaaGreatDoor.Ad0 Go.Proofs.YtefhoecdoemgbaaGreatDoor.Ru0 Go.Proofs.YtefhoecdoemgbaaGreatDoor.Ad1 Go.Proofs.YtefhoecdoemgbaaGreatDoor.St0 Go.Proofs.YtefhoecdoemgbaaGreatDoor.St1 Go.Proofs.YtefhoecdoemgbaaGreatDoor.St2 Go.Proofs.YtefhoecdoemgbaaGreatDoor.St3 Go.Proofs.YtefhoecdoemgbaaGreatDoor.Ru1 Go.Proofs.YtefhoecdoemgbaaGreatDoor.Ru2 Go.Proofs.YtefhoecdoemgbaaGreatDoor.B1 Go.Proofs.YtefhoecdoemgbaaGreatDoor.Ad3 Go.Proofs.YtefhoecdoemgbaaGreatDoor.St4 Go.Proofs.YtefhoecdoemgbaaGreatDoor.St5 Go.Proofs.YtefhoecdoemgbaaGreatDoor.St7 Go.Proofs.YtefhoecdoemgbaaGreatDoor.St8 Go.Proofs.YtefhoecdoemgbaaGreatDoor.St9 Go.Proofs.YtefhoecdoemgbaaGreatDoor.StC Go.Proofs.YtefhoecdoemgbaaGreatDoor.Ru3 Go.Proofs.YtefhoecdoemgbaaGreatDoor.Ru6 Go.Proofs.YtefhoecdoemgbaaGreatDoor.Ru7 Go.Proofs.YtefhoecdoemgbaaGreatDoor.Ru4 Go.Proofs.YtefhoecdoemgbaaGreatDoor.Ru5 Go.Proofs.YtefhoecdoemgbaaGreatDoor.St6 Go.Proofs.YtefhoecdoemgbaaGreatDoor.StA Go.Proofs.YtefhoecdoemgbaaGreatDoor.Ru8 Go.Proofs.YtefhoecdoemgbaaGreatDoor.Ru9 Go.Proofs.YtefhoecdoemgbaaGreatDoor.RuA Go.Proofs.YtefhoecdoemgbaaGreatDoor.RuB Go.Proofs.YtefhoecdoemgbaaGreatDoor.RuC Go.Proofs.YtefhoecdoemgbaaGreatDoor.RuD Go.Proofs.YtefhoecdoemgbaaGreatDoor.RuE Go.Proofs.YtefhoecdoemgbaaGreatDoor.RuF Go.Proofs.YtefhoecdoemgbaaGreatDoor.RuG Go.Proofs.YtefhoecdoemgbaaGreatDoor.RuH Go.Proofs.YtefhoecdoemgbaaGreatDoor.RuI Go.Proofs.YtefhoecdoemgbaaGreatDoor.RuJ Go.Proofs.YtefhoecdoemgbaaGreatDoor.Ad2 Go.Proofs.YtefhoecdoemgbaaGreatDoor.RuQ Go.Proofs.YtefhoecdoemgbaaGreatDoor.RuR Go.Proofs.YtefhoecdoemgbaaGreatDoor.RuS Go.Proofs.YtefhoecdoemgbaaGreatDoor.RuT Go.Proofs.YtefhoecdoemgbaaGreatDoor.RuW Go.Proofs.YtefhoecdoemgbaaGreatDoor.RuY Go.Proofs.YtefhoecdoemgbaaGreatDoor.RuZ Go.Proofs.YtefhoecdoemgbaaGreatDoor.Rw0 Go.Proofs.YtefhoecdoemgbaaGreatDoor.RuVa Go.Proofs.YtefhoecdoemgbaaGreatDoor.RuX
set_option linter.unusedVariables false
set_option linter.unusedSimpArgs false

set_option maxRecDepth 100000 in
set_option maxHeartbeats 4000000 in
theorem parses_walk (KS : PrintSaid) (KR : ReadSaid) (s : ByteArray) (w : World) (hl : LibOK w) :
    Calls Tryz.prog 3 #[.string s] w fun e w' => e = .returned (.bool true) ∧ Below w.heap.size w w' := by
  by_cases hs : (400 : Int) < s.size
  · go_enter Tryz.func3, Tryz.ntmps3
    go_wp2_with fail
    go_ret
    exact ⟨rfl, Below.refl _ _⟩
  · obtain ⟨l, rfl⟩ : ∃ l : Wd, s = ⟨l.toArray⟩ := ⟨s.data.toList, by cases s; simp⟩
    have hdl : (⟨l.toArray⟩ : ByteArray).data.toList = l := rfl
    have hz := wd_size l
    have k1 := fun W hL => parseR_any ⟨l.toArray⟩ (by omega) W hL
    have k2 := fun W hL => KR ⟨l.toArray⟩ (by omega) W hL
    have k4 := fun W => name_any l (by omega) W
    have k5 := fun W => rname_any ⟨l.toArray⟩ (by omega) W
    rw [hdl] at k1 k2 k5
    clear hdl hz
    generalize (⟨l.toArray⟩ : ByteArray) = s at *
    rw [ruleV_eq] at k1
    rw [← rule_same, ruleV_eq] at k2
    generalize (ruleOf (wordsL l)).getD {} = R at k1 k2
    generalize ruleE (ruleOf (wordsL l)) = E at k1 k2
    have k3 := fun W => rsame_any R R W
    rw [show decide (R = R) = true from by simp] at k3
    have HI := Lib.hid (info32 R)
    have H1 := Lib.hid (rule_one R)
    have HZ : Hid ((ruleC R).size = 28) := Lib.hid rfl
    have NB := Lib.hid (fun W => box_new W R {})
    have NL := Lib.hid (fun W => below_new W R {})
    unfold Box at NB
    generalize ruleC R = cr at *
    generalize nameL l = b at k4 k5
    have K1 := Lib.hid k1
    have K2 := Lib.hid k2
    have K3 := Lib.hid k3
    have K4 := Lib.hid k4
    have K5 := Lib.hid k5
    have K6 := Lib.hid (fun W hL => known_any KS W hL)
    have HL : Hid (Lo w w) := Lib.hid ⟨Below.refl _ _, hl⟩
    clear k1 k2 k3 k4 k5 hl KS KR
    go_enter Tryz.func3, Tryz.ntmps3
    go_upto_region 3 with fail
    go_cut [3, 4] (fun s3 s4 wc => ∃ g, s3 = .pointer (some ⟨g, 0, none⟩) ∧ s4 = .int .i64 E ∧ wc.heap[g]? = some (.cells cr 32 (0, 0)) ∧ Lo w wc)
    case first =>
      go_wp2_with (first
        | (go_at_call 9; (with_reducible refine (K1.out _ HL.out.lib).mono ?_); rintro e w1 ⟨rfl, hb1⟩; have HO := Lib.hid (HL.out.below hb1); have HN := Lib.hid (heap_alloc_new w1 (.cells (ruleC {}) 32)); clear hb1)
        | (refine Mem.store_part w1.heap.size 0 cr ?_ ?_ HN.out ?_ ?_ ?_ ?_ ?_; rfl; rfl; (rw [HZ.out]; exact Nat.le_of_ble_eq_true rfl); exact HI.out; exact H1.out; rfl))
      (try simp only [Act.put])
      go_meet
      case rel => exact ⟨_, rfl, rfl, NB.out w1, HO.out.below (NL.out w1)⟩
    case rest =>
    obtain ⟨g, rfl, rfl, hr, hl⟩ := hcut
    have HR := Lib.hid hr
    have HL := Lib.hid hl
    clear hr hl
    go_upto_region 4 with fail
    go_cut [5, 6] (fun s3 s4 wc => ∃ k, s3 = .pointer (some ⟨k, 0, none⟩) ∧ s4 = .int .i64 E ∧ wc.heap[g]? = some (.cells cr 32 (0, 0)) ∧ wc.heap[k]? = some (.cells cr 32 (0, 0)) ∧ Lo w wc)
    case first =>
      go_wp2_with (first
        | (go_at_call 10; (with_reducible refine (K2.out _ HL.out.lib).mono ?_); rintro e w1 ⟨rfl, hb1⟩; have HO := Lib.hid (HL.out.below hb1); have HN := Lib.hid (heap_alloc_new w1 (.cells (ruleC {}) 32)); have HR1 := row_step HR hb1; clear hb1)
        | (refine Mem.store_part w1.heap.size 0 cr ?_ ?_ HN.out ?_ ?_ ?_ ?_ ?_; rfl; rfl; (rw [HZ.out]; exact Nat.le_of_ble_eq_true rfl); exact HI.out; exact H1.out; rfl))
      (try simp only [Act.put])
      go_meet
      case rel => exact ⟨_, rfl, rfl, (row_step HR1 (NL.out w1)).out, NB.out w1, HO.out.below (NL.out w1)⟩
    case rest =>
    obtain ⟨k, rfl, rfl, hr, hq, hl⟩ := hcut
    have HR := Lib.hid hr
    have HQ := Lib.hid hq
    have HL := Lib.hid hl
    clear hr hq hl
    go_wp2_with (first
      | ((with_reducible refine Mem.load_row g ?_ HR.out Tryz.underlying32 HI.out ?_ ?_); rfl; rfl)
      | ((with_reducible refine Mem.load_row k ?_ HQ.out Tryz.underlying32 HI.out ?_ ?_); rfl; rfl)
      | (go_at_call 11; (with_reducible refine (K3.out _).mono ?_); rintro e w1 ⟨rfl, hb1⟩; have HL := Lib.hid (HL.out.below hb1); clear hb1)
      | (go_at_call 12; (with_reducible refine (K4.out _).mono ?_); rintro e w1 ⟨rfl, hb1⟩; have HL := Lib.hid (HL.out.below hb1); clear hb1)
      | (go_at_call 13; (with_reducible refine (K5.out _).mono ?_); rintro e w1 ⟨rfl, rfl⟩)
      | (go_at_call 14; (with_reducible refine (K6.out _ HL.out.lib).mono ?_); rintro e w1 ⟨rfl, hb1⟩; have HL := Lib.hid (HL.out.below hb1); clear hb1))
    go_ret
    exact ⟨rfl, HL.out.low⟩
theorem ruleV_none : ruleV none = .tuple #[.agg (ruleC {}), .int .i64 2] := rfl
theorem ruleV_some (r : RuleM) : ruleV (some r) = .tuple #[.agg (ruleC r), .int .i64 0] := rfl
theorem isR_true (r : RuleM) (h : Fits r) (hr : ruleR r = true) (W : World) : Calls Tryz.prog 19 #[.agg (ruleC r)] W fun e w' => e = .returned (.bool true) ∧ Below W.heap.size W w' := by
  have k := isP_any r h W
  rw [rules_same r h.set.1 h.set.2, hr] at k
  exact k
theorem print_back (KS : PrintSaid) (r : RuleM) (h : Fits r) (hr : ruleR r = true) : ∃ s : ByteArray, (∀ W, LibOK W → Calls Tryz.prog 17 #[.agg (ruleC r)] W fun e w' => e = .returned (.string s) ∧ Below W.heap.size W w') ∧
    (∀ W, LibOK W → Calls Tryz.prog 9 #[.string s] W fun e w' => e = .returned (.tuple #[.agg (ruleC r), .int .i64 0]) ∧ Below W.heap.size W w') := by
  refine ⟨⟨(printed r).toArray⟩, fun W hL => KS r h W hL, fun W hL => ?_⟩
  have hp : printed r = spaced (tokens r) := by unfold printed; rw [if_pos hr]
  have hz := wd_size (printed r)
  have hn := printed_len r h hr
  rw [← hp] at hn
  have k := parseR_any ⟨(printed r).toArray⟩ (by omega) W hL
  rw [show (⟨(printed r).toArray⟩ : ByteArray).data.toList = printed r from rfl, hp, parse_back r hr h, ruleV_some, ← hp] at k
  exact k
set_option maxRecDepth 100000 in
set_option maxHeartbeats 4000000 in
theorem settles_walk (KS : PrintSaid) (KR : ReadSaid) (s : ByteArray) (w : World) (hl : LibOK w) :
    Calls Tryz.prog 5 #[.string s] w fun e w' => e = .returned (.bool true) ∧ Below w.heap.size w w' := by
  by_cases hs : (400 : Int) < s.size
  · go_enter Tryz.func5, Tryz.ntmps5
    go_wp2_with fail
    go_ret
    exact ⟨rfl, Below.refl _ _⟩
  · have k1 := fun W hL => parseR_any s (by omega) W hL
    have K6 := Lib.hid (fun W hL => known_any KS W hL)
    have HL : Hid (Lo w w) := Lib.hid ⟨Below.refl _ _, hl⟩
    have k2 := fun W hL => KR s (by omega) W hL
    rw [← rule_same] at k2
    cases hx : ruleOf (wordsL s.data.toList) with
    | none =>
      rw [hx, ruleV_none] at k1 k2
      have HI := Lib.hid (info32 {})
      have H1 := Lib.hid (rule_one {})
      have HZ : Hid ((ruleC {}).size = 28) := Lib.hid rfl
      have NB := Lib.hid (fun W => box_new W {} {})
      have NL := Lib.hid (fun W => below_new W {} {})
      have HA := Lib.hid (fun W : World => heap_alloc_new W (.cells (ruleC {}) 32))
      unfold Box at NB
      obtain ⟨cr, hcr⟩ : ∃ c, ruleC {} = c := ⟨_, rfl⟩
      rw [hcr] at k1 k2 HI H1 HZ
      have HCR := Lib.hid hcr
      have K1 := Lib.hid k1
      have K2 := Lib.hid k2
      clear k1 k2 hcr hl KS KR hx
      go_enter Tryz.func5, Tryz.ntmps5
      go_upto_region 3 with fail
      go_cut [3, 4] (fun s3 s4 wc => s4 = .int .i64 2 ∧ Lo w wc)
      case first =>
        go_wp2_with (first
          | (go_at_call 9; (with_reducible refine (K1.out _ HL.out.lib).mono ?_); rintro e w1 ⟨rfl, hb1⟩; have HO := Lib.hid (HL.out.below hb1); have HN := Lib.hid (HA.out w1); clear hb1)
          | (refine Mem.store_part w1.heap.size 0 cr ?_ ?_ HN.out ?_ ?_ ?_ ?_ ?_; rfl; rfl; (rw [HZ.out]; exact Nat.le_of_ble_eq_true rfl); exact HI.out; exact H1.out; rfl))
        (try simp only [Act.put])
        go_meet
        case rel => exact ⟨rfl, by rw [← HCR.out]; exact HO.out.below (NL.out w1)⟩
      case rest =>
      obtain ⟨rfl, hl⟩ := hcut
      have HL := Lib.hid hl
      clear hl
      go_upto_region 5 with fail
      go_cut [5, 6] (fun s3 s4 wc => s4 = .int .i64 2 ∧ Lo w wc)
      case first =>
        go_wp2_with (first
          | (go_at_call 10; (with_reducible refine (K2.out _ HL.out.lib).mono ?_); rintro e w1 ⟨rfl, hb1⟩; have HO := Lib.hid (HL.out.below hb1); have HN := Lib.hid (HA.out w1); clear hb1)
          | (refine Mem.store_part w1.heap.size 0 cr ?_ ?_ HN.out ?_ ?_ ?_ ?_ ?_; rfl; rfl; (rw [HZ.out]; exact Nat.le_of_ble_eq_true rfl); exact HI.out; exact H1.out; rfl))
        (try simp only [Act.put])
        go_meet
        case rel => exact ⟨rfl, by rw [← HCR.out]; exact HO.out.below (NL.out w1)⟩
      case rest =>
      obtain ⟨rfl, hl⟩ := hcut
      have HL := Lib.hid hl
      clear hl
      go_wp2_with (go_at_call 14; (with_reducible refine (K6.out _ HL.out.lib).mono ?_); rintro e w1 ⟨rfl, hb1⟩; have HL := Lib.hid (HL.out.below hb1); clear hb1)
      go_ret
      exact ⟨rfl, HL.out.low⟩
    | some r =>
      obtain ⟨hr, hf⟩ := parsed_fits _ r hx
      rw [hx, ruleV_some] at k1
      obtain ⟨t, k3, k4⟩ := print_back KS r hf hr
      have k5 := fun W => isR_true r hf hr W
      have k7 := fun W => rsame_any r r W
      rw [show decide (r = r) = true from by simp] at k7
      have HI := Lib.hid (info32 r)
      have H1 := Lib.hid (rule_one r)
      have HZ : Hid ((ruleC r).size = 28) := Lib.hid rfl
      have NB := Lib.hid (fun W => box_new W r {})
      have NL := Lib.hid (fun W => below_new W r {})
      unfold Box at NB
      generalize ruleC r = cr at *
      have K1 := Lib.hid k1
      have K3 := Lib.hid k3
      have K4 := Lib.hid k4
      have K5 := Lib.hid k5
      have K7 := Lib.hid k7
      clear k1 k2 k3 k4 k5 k7 hl KS KR hx hf hr
      go_enter Tryz.func5, Tryz.ntmps5
      go_upto_region 3 with fail
      go_cut [3, 4] (fun s3 s4 wc => ∃ g, s3 = .pointer (some ⟨g, 0, none⟩) ∧ s4 = .int .i64 0 ∧ wc.heap[g]? = some (.cells cr 32 (0, 0)) ∧ Lo w wc)
      case first =>
        go_wp2_with (first
          | (go_at_call 9; (with_reducible refine (K1.out _ HL.out.lib).mono ?_); rintro e w1 ⟨rfl, hb1⟩; have HO := Lib.hid (HL.out.below hb1); have HN := Lib.hid (heap_alloc_new w1 (.cells (ruleC {}) 32)); clear hb1)
          | (refine Mem.store_part w1.heap.size 0 cr ?_ ?_ HN.out ?_ ?_ ?_ ?_ ?_; rfl; rfl; (rw [HZ.out]; exact Nat.le_of_ble_eq_true rfl); exact HI.out; exact H1.out; rfl))
        (try simp only [Act.put])
        go_meet
        case rel => exact ⟨_, rfl, rfl, NB.out w1, HO.out.below (NL.out w1)⟩
      case rest =>
      obtain ⟨g, rfl, rfl, hr, hl⟩ := hcut
      have HR := Lib.hid hr
      have HL := Lib.hid hl
      clear hr hl
      go_upto_region 7 with fail
      go_cut [7, 8] (fun s3 s4 wc => ∃ k, s3 = .pointer (some ⟨k, 0, none⟩) ∧ s4 = .int .i64 0 ∧ wc.heap[g]? = some (.cells cr 32 (0, 0)) ∧ wc.heap[k]? = some (.cells cr 32 (0, 0)) ∧ Lo w wc)
      case first =>
        go_wp2_with (first
          | ((with_reducible refine Mem.load_row g ?_ HR.out Tryz.underlying32 HI.out ?_ ?_); rfl; rfl)
          | (go_at_call 17; (with_reducible refine (K3.out _ HL.out.lib).mono ?_); rintro e w0 ⟨rfl, hb1⟩; have HL := Lib.hid (HL.out.below hb1); have HR := row_step HR hb1; clear hb1)
          | (go_at_call 9; (with_reducible refine (K4.out _ HL.out.lib).mono ?_); rintro e w1 ⟨rfl, hb1⟩; have HO := Lib.hid (HL.out.below hb1); have HN := Lib.hid (heap_alloc_new w1 (.cells (ruleC {}) 32)); have HR1 := row_step HR hb1; clear hb1)
          | (refine Mem.store_part w1.heap.size 0 cr ?_ ?_ HN.out ?_ ?_ ?_ ?_ ?_; rfl; rfl; (rw [HZ.out]; exact Nat.le_of_ble_eq_true rfl); exact HI.out; exact H1.out; rfl))
        (try simp only [Act.put])
        go_meet
        case rel => exact ⟨_, rfl, rfl, (row_step HR1 (NL.out w1)).out, NB.out w1, HO.out.below (NL.out w1)⟩
      case rest =>
      obtain ⟨k, rfl, rfl, hr, hq, hl⟩ := hcut
      have HR := Lib.hid hr
      have HQ := Lib.hid hq
      have HL := Lib.hid hl
      clear hr hq hl
      go_wp2_with (first
        | ((with_reducible refine Mem.load_row g ?_ HR.out Tryz.underlying32 HI.out ?_ ?_); rfl; rfl)
        | ((with_reducible refine Mem.load_row k ?_ HQ.out Tryz.underlying32 HI.out ?_ ?_); rfl; rfl)
        | (go_at_call 11; (with_reducible refine (K7.out _).mono ?_); rintro e w1 ⟨rfl, hb1⟩; have HL := Lib.hid (HL.out.below hb1); have HR := row_step HR hb1; clear hb1)
        | (go_at_call 19; (with_reducible refine (K5.out _).mono ?_); rintro e w1 ⟨rfl, hb1⟩; have HL := Lib.hid (HL.out.below hb1); clear hb1)
        | (go_at_call 14; (with_reducible refine (K6.out _ HL.out.lib).mono ?_); rintro e w1 ⟨rfl, hb1⟩; have HL := Lib.hid (HL.out.below hb1); clear hb1))
      go_ret
      exact ⟨rfl, HL.out.low⟩
end Go.Proofs.YtefhoecdoemgbaaGreatDoor.RwA
