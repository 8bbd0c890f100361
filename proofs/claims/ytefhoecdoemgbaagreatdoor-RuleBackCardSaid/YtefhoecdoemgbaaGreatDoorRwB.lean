/- The law RuleBack: walked. -/
import Derived.Test.YtefhoecdoemgbaaGreatDoorRwA
import Derived.Test.YtefhoecdoemgbaaGreatDoorRuZ
import Derived.Test.YtefhoecdoemgbaaGreatDoorRuP
namespace Go.Proofs.YtefhoecdoemgbaaGreatDoor.RwB
open Go Go.RowKit Go.Proofs.YtefhoecdoemgbaaGreatDoor.Ad0 Go.Proofs.YtefhoecdoemgbaaGreatDoor.Ru0 Go.Proofs.YtefhoecdoemgbaaGreatDoor.Ad1 Go.Proofs.YtefhoecdoemgbaaGreatDoor.St0 Go.Proofs.YtefhoecdoemgbaaGreatDoor.St1 Go.Proofs.YtefhoecdoemgbaaGreatDoor.St2 Go.Proofs.YtefhoecdoemgbaaGreatDoor.St3 Go.Proofs.YtefhoecdoemgbaaGreatDoor.Ru1 Go.Proofs.YtefhoecdoemgbaaGreatDoor.Ru2 Go.Proofs.YtefhoecdoemgbaaGreatDoor.B1 Go.Proofs.YtefhoecdoemgbaaGreatDoor.Ad3 Go.Proofs.YtefhoecdoemgbaaGreatDoor.St4 Go.Proofs.YtefhoecdoemgbaaGreatDoor.St5 Go.Proofs.YtefhoecdoemgbaaGreatDoor.St7 Go.Proofs.YtefhoecdoemgbaaGreatDoor.St8 Go.Proofs.YtefhoecdoemgbaaGreatDoor.St9 Go.Proofs.YtefhoecdoemgbaaGreatDoor.StC Go.Proofs.YtefhoecdoemgbaaGreatDoor.Ru3 Go.Proofs.YtefhoecdoemgbaaGreatDoor.Ru6 Go.Proofs.YtefhoecdoemgbaaGreatDoor.Ru7 Go.Proofs.YtefhoecdoemgbaaGreatDoor.Ru4 Go.Proofs.YtefhoecdoemgbaaGreatDoor.Ru5 Go.Proofs.YtefhoecdoemgbaaGreatDoor.St6 Go.Proofs.YtefhoecdoemgbaaGreatDoor.StA Go.Proofs.YtefhoecdoemgbaaGreatDoor.Ru8 Go.Proofs.YtefhoecdoemgbaaGreatDoor.Ru9 Go.Proofs.YtefhoecdoemgbaaGreatDoor.RuA Go.Proofs.YtefhoecdoemgbaaGreatDoor.RuB Go.Proofs.YtefhoecdoemgbaaGreatDoor.RuC Go.Proofs.YtefhoecdoemgbaaGreatDoor.RuD Go.Proofs.YtefhoecdoemgbaaGreatDoor.RuE Go.Proofs.YtefhoecdoemgbaaGreatDoor.RuF Go.Proofs.YtefhoecdoemgbaaGreatDoor.RuG Go.Proofs.YtefhoecdoemgbaaGreatDoor.RuH Go.Proofs.YtefhoecdoemgbaaGreatDoor.RuI Go.Proofs.YtefhoecdoemgbaaGreatDoor.RuJ Go.Proofs.YtefhoecdoemgbaaGreatDoor.Ad2 Go.Proofs.YtefhoecdoemgbaaGreatDoor.RuQ Go.Proofs.YtefhoecdoemgbaaGreatDoor.RuR Go.Proofs.YtefhoecdoemgbaaGreatDoor.RuS Go.Proofs.YtefhoecdoemgbaaGreatDoor.RuT Go.Proofs.YtefhoecdoemgbaaGreatDoor.RuW Go.Proofs.YtefhoecdoemgbaaGreatDoor.RuY Go.Proofs.YtefhoecdoemgbaaGreatDoor.RuZ Go.Proofs.YtefhoecdoemgbaaGreatDoor.Rw0 Go.Proofs.YtefhoecdoemgbaaGreatDoor.RuVa Go.Proofs.YtefhoecdoemgbaaGreatDoor.RuX Go.Proofs.YtefhoecdoemgbaaGreatDoor.RwA Go.Proofs.YtefhoecdoemgbaaGreatDoor.RuYa Go.Proofs.YtefhoecdoemgbaaGreatDoor.RuP
set_option linter.unusedVariables false
set_option linter.unusedSimpArgs false

def two (l : List Wd) : Wd := l.flatMap fun w => 32 :: 32 :: w
theorem two_len (l : List Wd) : (two l).length ≤ 2 * (spaced l).length + 2 := by
  cases l with
  | nil => simp [two]
  | cons a t =>
    have : (two t).length ≤ 2 * (t.flatMap fun w => 32 :: w).length := by
      induction t with
      | nil => simp [two]
      | cons b t ih =>
        simp only [two, List.flatMap_cons, List.length_append, List.length_cons] at ih ⊢
        omega
    simp only [two, spaced, List.flatMap_cons, List.length_append, List.length_cons] at this ⊢
    omega
theorem two_count (l : List Wd) : l.length ≤ (two l).length := by
  induction l with
  | nil => simp [two]
  | cons a t ih =>
    simp only [two, List.flatMap_cons, List.length_append, List.length_cons] at ih ⊢
    omega
theorem two_take (l : List Wd) (k : Nat) : (two (l.take k)).length ≤ (two l).length := by
  have e : two l = two (l.take k) ++ two (l.drop k) := by unfold two; rw [← List.flatMap_append, List.take_append_drop]
  rw [e, List.length_append]
  omega
theorem two_next (l : List Wd) (k : Nat) (x : Wd) (h : l[k]? = some x) : two (l.take (k + 1)) = (two (l.take k) ++ [32, 32]) ++ x := by
  rw [List.take_add_one, h]
  simp [two]
theorem two_wide (l : List Wd) : wide l = two l ++ [32] := rfl
theorem print_words (KS : PrintSaid) (r : RuleM) (h : Fits r) (hr : ruleR r = true) : ∃ s : ByteArray, (∀ W, LibOK W → Calls Tryz.prog 17 #[.agg (ruleC r)] W fun e w' => e = .returned (.string s) ∧ Below W.heap.size W w') ∧
    (∀ W, LibOK W → Calls Tryz.prog 9 #[.string s] W fun e w' => e = .returned (.tuple #[.agg (ruleC r), .int .i64 0]) ∧ Below W.heap.size W w') ∧
    (∀ W, LibOK W → Calls Tryz.prog 9 #[.string ⟨(two (tokens r) ++ [32]).toArray⟩] W fun e w' => e = .returned (.tuple #[.agg (ruleC r), .int .i64 0]) ∧ Below W.heap.size W w') ∧
    wordsL s.data.toList = tokens r ∧ s.size ≤ 300 ∧ (two (tokens r)).length ≤ 700 := by
  have hp : printed r = spaced (tokens r) := by unfold printed; rw [if_pos hr]
  have hz := wd_size (printed r)
  have hn := printed_len r h hr
  have h2 := two_len (tokens r)
  rw [← hp] at hn
  refine ⟨⟨(printed r).toArray⟩, fun W hL => KS r h W hL, fun W hL => ?_, fun W hL => ?_, ?_, by omega, by rw [hp] at hn; omega⟩
  · have k := parseR_any ⟨(printed r).toArray⟩ (by omega) W hL
    rw [show (⟨(printed r).toArray⟩ : ByteArray).data.toList = printed r from rfl, hp, parse_back r hr h, ruleV_some, ← hp] at k
    exact k
  · have hz2 := wd_size (two (tokens r) ++ [32])
    rw [List.length_append] at hz2
    rw [hp] at hn
    have k := parseR_any ⟨(two (tokens r) ++ [32]).toArray⟩ (by rw [hz2]; simp; omega) W hL
    have e : (⟨(two (tokens r) ++ [32]).toArray⟩ : ByteArray).data.toList = wide (tokens r) := rfl
    rw [e, parse_wide r hr h, ruleV_some] at k
    exact k
  · show wordsL (printed r) = _
    rw [hp]
    exact words_back r hr h.set.2

set_option maxRecDepth 100000 in
set_option maxHeartbeats 4000000 in
theorem back_walk (KS : PrintSaid) (r : RuleM) (h : Fits r) (w : World) (hl : LibOK w) :
    Calls Tryz.prog 4 #[.agg (ruleC r)] w fun e w' => e = .returned (.bool true) ∧ Below w.heap.size w w' := by
  have kh := fun W => heavy_all r W
  have ki := fun W => isR_any r h W
  have hr0 := heap_alloc_new w (.cells (ruleC r) 32)
  have hlo := Lo.new hl (.cells (ruleC r) 32)
  have HI := Lib.hid (info32 r)
  generalize heavyF r = bh at kh
  cases hr : ruleR r with
  | false =>
    rw [hr] at ki
    generalize ruleC r = cr at *
    have KH := Lib.hid kh
    have KI := Lib.hid ki
    have HR := Lib.hid hr0
    have HL := Lib.hid hlo
    clear kh ki hr0 hlo hl h hr KS
    cases bh
    all_goals
      go_enter Tryz.func4, Tryz.ntmps4
      go_wp2_with (first
        | ((with_reducible refine Mem.load_row w.heap.size ?_ HR.out Tryz.underlying32 HI.out ?_ ?_); rfl; rfl)
        | (go_at_call 15; (with_reducible refine (KH.out _).mono ?_); rintro e w1 ⟨rfl, hb1⟩; have HL := Lib.hid (HL.out.below hb1); have HR := row_step HR hb1; clear hb1)
        | (go_at_call 16; (with_reducible refine (KI.out _).mono ?_); rintro e w1 ⟨rfl, hb1⟩; have HL := Lib.hid (HL.out.below hb1); have HR := row_step HR hb1; clear hb1))
      go_ret
      exact ⟨rfl, HL.out.low⟩
  | true =>
    rw [hr] at ki
    obtain ⟨s, k1, k2, k3, hw, hsz, htl⟩ := print_words KS r h hr
    have k4 := fun W => words_any s (by omega) W
    rw [hw] at k4
    have k5 := fun W => rsame_any r r W
    rw [show decide (r = r) = true from by simp] at k5
    have K6 := Lib.hid (fun W hL => known_any KS W hL)
    have H1 := Lib.hid (rule_one r)
    have HZ : Hid ((ruleC r).size = 28) := Lib.hid rfl
    have NB := Lib.hid (fun W => box_new W r {})
    have NL := Lib.hid (fun W => below_new W r {})
    unfold Box at NB
    generalize ruleC r = cr at *
    generalize tokens r = L at *
    have KH := Lib.hid kh
    have KI := Lib.hid ki
    have HR := Lib.hid hr0
    have HL := Lib.hid hlo
    have K1 := Lib.hid k1
    have K2 := Lib.hid k2
    have K3 := Lib.hid k3
    have K4 := Lib.hid k4
    have K5 := Lib.hid k5
    have HTL := Lib.hid htl
    clear kh ki hr0 hlo hl h hr KS k1 k2 k3 k4 k5 hw hsz htl
    cases bh with
    | true =>
      go_enter Tryz.func4, Tryz.ntmps4
      go_wp2_with (first
        | ((with_reducible refine Mem.load_row w.heap.size ?_ HR.out Tryz.underlying32 HI.out ?_ ?_); rfl; rfl)
        | (go_at_call 15; (with_reducible refine (KH.out _).mono ?_); rintro e w1 ⟨rfl, hb1⟩; have HL := Lib.hid (HL.out.below hb1); have HR := row_step HR hb1; clear hb1)
        | (go_at_call 16; (with_reducible refine (KI.out _).mono ?_); rintro e w1 ⟨rfl, hb1⟩; have HL := Lib.hid (HL.out.below hb1); have HR := row_step HR hb1; clear hb1))
      go_ret
      exact ⟨rfl, HL.out.low⟩
    | false =>
      have hww : w.heap.size ≤ (w.alloc (.cells cr 32)).heap.size := HL.out.low.size
      go_enter Tryz.func4, Tryz.ntmps4
      go_upto_region 4 with (first
        | ((with_reducible refine Mem.load_row w.heap.size ?_ HR.out Tryz.underlying32 HI.out ?_ ?_); rfl; rfl)
        | (go_at_call 15; (with_reducible refine (KH.out _).mono ?_); rintro e w1 ⟨rfl, hb1⟩; have HL := Lib.hid (HL.out.below hb1); have HR := row_step HR hb1; clear hb1)
        | (go_at_call 16; (with_reducible refine (KI.out _).mono ?_); rintro e w1 ⟨rfl, hb1⟩; have HL := Lib.hid (HL.out.below hb1); have HR := row_step HR hb1; clear hb1)
        | (go_at_call 17; (with_reducible refine (K1.out _ HL.out.lib).mono ?_); rintro e w1 ⟨rfl, hb1⟩; have HL := Lib.hid (HL.out.below hb1); have HR := row_step HR hb1; clear hb1))
      go_cut [4, 5] (fun s3 s4 wc => ∃ g, s3 = .pointer (some ⟨g, 0, none⟩) ∧ s4 = .int .i64 0 ∧ wc.heap[w.heap.size]? = some (.cells cr 32 (0, 0)) ∧ wc.heap[g]? = some (.cells cr 32 (0, 0)) ∧ Lo w wc)
      case first =>
        go_wp2_with (first
          | (go_at_call 9; (with_reducible refine (K2.out _ HL.out.lib).mono ?_); rintro e w1 ⟨rfl, hb1⟩; have HO := Lib.hid (HL.out.below hb1); have HN := Lib.hid (heap_alloc_new w1 (.cells (ruleC {}) 32)); have HR1 := row_step HR hb1; clear hb1)
          | (refine Mem.store_part w1.heap.size 0 cr ?_ ?_ HN.out ?_ ?_ ?_ ?_ ?_; rfl; rfl; (rw [HZ.out]; exact Nat.le_of_ble_eq_true rfl); exact HI.out; exact H1.out; rfl))
        (try simp only [Act.put])
        go_meet
        case rel => exact ⟨_, rfl, rfl, (row_step HR1 (NL.out w1)).out, NB.out w1, HO.out.below (NL.out w1)⟩
      case rest =>
      obtain ⟨g, rfl, rfl, hr, hq, hl⟩ := hcut
      have HR := Lib.hid hr
      have HQ := Lib.hid hq
      have HL := Lib.hid hl
      clear hr hq hl
      go_upto_region 7 with (go_at_call 18; (with_reducible refine (K4.out _).mono ?_); rintro e w1 ⟨v, xs, rfl, hxs, hxz, ho, hb1⟩; have HL := Lib.hid (HL.out.below hb1); have HR := row_step HR hb1; have HQ := row_step HQ hb1; clear hb1 hxz)
      have hnl : xs.length = L.length := by rw [← hxs, List.length_map]
      have hcell : ∀ k, k < xs.length → ∃ x : Wd, L[k]? = some x ∧ ∃ a : Nat, ∃ cap, v = .slice (some ⟨a, 0, none⟩) xs.length cap ∧ xs.length ≤ cap ∧ w1.cell? ⟨a, k, none⟩ = some (.string ⟨x.toArray⟩) := by
        intro k hk
        rcases ho.2 with ⟨_, h0⟩ | ⟨a, cap, cur, hv, _, hg, hcap, _⟩
        · omega
        · subst hv
          refine ⟨xs[k].data.toList, ?_, a, cap, rfl, hcap, ?_⟩
          · rw [← hxs, List.getElem?_map, List.getElem?_eq_getElem hk]; rfl
          · rw [ho.cellAt k (by omega), List.getElem?_map, List.getElem?_eq_getElem hk]; rfl
      have hv : ∃ a cap, v = .slice a xs.length cap := by
        rcases ho.2 with ⟨h1, h0⟩ | ⟨a, cap, cur, hv, _⟩
        · exact ⟨none, 0, by rw [h1, h0]⟩
        · exact ⟨_, cap, hv⟩
      have HV := Lib.hid hv
      have hxb : xs.length ≤ 700 := by rw [hnl]; exact Nat.le_trans (two_count L) HTL.out
      have HC := Lib.hid hcell
      have HW := Lib.hid hnl
      clear hcell hnl hxs ho hv
      obtain ⟨wo, hwo⟩ : ∃ wo : World, wo = w1 := ⟨_, rfl⟩
      subst hwo
      go_wp2_with fail
      go_loopw [6, 8] (fun t i wr => ∃ k : Nat, k ≤ xs.length ∧ i = .int .i64 k ∧ t = .string ⟨(two (L.take k)).toArray⟩ ∧ wo = wr) (fun _ i _ => xs.length - (intOf i).toNat)
      case atStart => exact ⟨0, by omega, rfl, rfl, rfl⟩
      case round =>
        obtain ⟨k, hk, rfl, rfl, rfl⟩ := hrel
        by_cases hlt : k < xs.length
        · obtain ⟨x, hx, a, cap, rfl, hcap, hc⟩ := HC.out k hlt
          have hn := two_next L k x hx
          have hb0 := Nat.le_trans (two_take L k) HTL.out
          have hb1 := Nat.le_trans (two_take L (k + 1)) HTL.out
          generalize two (L.take k) = tk at hn hb0 ⊢
          obtain ⟨q0, hq0⟩ : ∃ q, tk ++ [32, 32] = q := ⟨_, rfl⟩
          rw [hq0] at hn
          have hl0 : q0.length ≤ 702 := by rw [← hq0, List.length_append]; simp only [List.length_cons, List.length_nil]; omega
          obtain ⟨q1, hq1⟩ : ∃ q, two (L.take (k + 1)) = q := ⟨_, rfl⟩
          rw [hq1] at hn hb1
          have hl1 : q0.length + x.length ≤ 700 := by rw [hn, List.length_append] at hb1; exact hb1
          have hadd0 : ∀ W, (Op.stringOp .add (⟨tk.toArray⟩ : ByteArray) ⟨#[32, 32]⟩).run Tryz.prog W = .ok (.string ⟨q0.toArray⟩) W := fun W => by rw [← hq0]; exact add_word tk [32, 32] (by simp only [List.length_cons, List.length_nil]; omega) W
          have hadd1 : ∀ W, (Op.stringOp .add (⟨q0.toArray⟩ : ByteArray) ⟨x.toArray⟩).run Tryz.prog W = .ok (.string ⟨q1.toArray⟩) W := fun W => by rw [hn]; exact add_word q0 x (by omega) W
          have HQ1 := Lib.hid hq1
          have hlt' : (k : Int) < xs.length := by omega
          clear hn hb0 hb1 hq0 hl0 hl1 hq1
          go_wp2_with fail
          go_roundw
          case rel => exact ⟨k + 1, by omega, by go_num, by rw [HQ1.out], trivial⟩
          case measure => simp [intOf]; omega
        · obtain rfl : k = xs.length := by omega
          have hL : two (L.take xs.length) = two L := by rw [HW.out, List.take_length]
          rw [hL]
          have htl := HTL.out
          have hadd2 : ∀ W, (Op.stringOp .add (⟨(two L).toArray⟩ : ByteArray) ⟨#[32]⟩).run Tryz.prog W = .ok (.string ⟨(two L ++ [32]).toArray⟩) W := fun W => add_word (two L) [32] (by simp only [List.length_cons, List.length_nil]; omega) W
          generalize hq2 : two L ++ [32] = q2 at K3 hadd2
          generalize two L = q1 at hadd2 ⊢
          clear hq2 hL htl
          obtain ⟨a, cap, hv⟩ := HV.out
          subst hv
          go_upto_region 11 with fail
          go_cut [9, 10] (fun s3 s4 wc => ∃ k, s3 = .pointer (some ⟨k, 0, none⟩) ∧ s4 = .int .i64 0 ∧ wc.heap[w.heap.size]? = some (.cells cr 32 (0, 0)) ∧ wc.heap[g]? = some (.cells cr 32 (0, 0)) ∧ wc.heap[k]? = some (.cells cr 32 (0, 0)) ∧ Lo w wc)
          case first =>
            go_wp2_with (first
              | (go_at_call 9; (with_reducible refine (K3.out _ HL.out.lib).mono ?_); rintro e w1 ⟨rfl, hb1⟩; have HO := Lib.hid (HL.out.below hb1); have HN := Lib.hid (heap_alloc_new w1 (.cells (ruleC {}) 32)); have HR1 := row_step HR hb1; have HQ1 := row_step HQ hb1; clear hb1)
              | (refine Mem.store_part w1.heap.size 0 cr ?_ ?_ HN.out ?_ ?_ ?_ ?_ ?_; rfl; rfl; (rw [HZ.out]; exact Nat.le_of_ble_eq_true rfl); exact HI.out; exact H1.out; rfl))
            (try simp only [Act.put])
            go_meet
            case rel => exact ⟨_, rfl, rfl, (row_step HR1 (NL.out w1)).out, (row_step HQ1 (NL.out w1)).out, NB.out w1, HO.out.below (NL.out w1)⟩
          case rest =>
          obtain ⟨k, rfl, rfl, hr, hq, hp, hl⟩ := hcut
          have HR := Lib.hid hr
          have HQ := Lib.hid hq
          have HP := Lib.hid hp
          have HL := Lib.hid hl
          clear hr hq hp hl
          go_wp2_with (first
            | ((with_reducible refine Mem.load_row w.heap.size ?_ HR.out Tryz.underlying32 HI.out ?_ ?_); rfl; rfl)
            | ((with_reducible refine Mem.load_row g ?_ HQ.out Tryz.underlying32 HI.out ?_ ?_); rfl; rfl)
            | ((with_reducible refine Mem.load_row k ?_ HP.out Tryz.underlying32 HI.out ?_ ?_); rfl; rfl)
            | (go_at_call 11; (with_reducible refine (K5.out _).mono ?_); rintro e w1 ⟨rfl, hb1⟩; have HL := Lib.hid (HL.out.below hb1); have HR := row_step HR hb1; have HP := row_step HP hb1; clear hb1)
            | (go_at_call 14; (with_reducible refine (K6.out _ HL.out.lib).mono ?_); rintro e w1 ⟨rfl, hb1⟩; have HL := Lib.hid (HL.out.below hb1); clear hb1))
          go_ret
          exact ⟨rfl, HL.out.low⟩
end Go.Proofs.YtefhoecdoemgbaaGreatDoor.RwB
