/- rule.isSide, isPass, isLook, Is. -/
import Derived.Test.YtefhoecdoemgbaaGreatDoorRuD

namespace Go.Proofs.YtefhoecdoemgbaaGreatDoor.RuF
open Go Go.RowKit Go.Proofs.YtefhoecdoemgbaaGreatDoor.Ad0 Go.Proofs.YtefhoecdoemgbaaGreatDoor.Ad1 Go.Proofs.YtefhoecdoemgbaaGreatDoor.Ad3 Go.Proofs.YtefhoecdoemgbaaGreatDoor.St0 Go.Proofs.YtefhoecdoemgbaaGreatDoor.St1 Go.Proofs.YtefhoecdoemgbaaGreatDoor.St2 Go.Proofs.YtefhoecdoemgbaaGreatDoor.St3 Go.Proofs.YtefhoecdoemgbaaGreatDoor.St4 Go.Proofs.YtefhoecdoemgbaaGreatDoor.StA Go.Proofs.YtefhoecdoemgbaaGreatDoor.Ru0 Go.Proofs.YtefhoecdoemgbaaGreatDoor.Ru1 Go.Proofs.YtefhoecdoemgbaaGreatDoor.Ru6 Go.Proofs.YtefhoecdoemgbaaGreatDoor.Ru7 Go.Proofs.YtefhoecdoemgbaaGreatDoor.Ru8 Go.Proofs.YtefhoecdoemgbaaGreatDoor.Ru9 Go.Proofs.YtefhoecdoemgbaaGreatDoor.RuB Go.Proofs.YtefhoecdoemgbaaGreatDoor.RuC Go.Proofs.YtefhoecdoemgbaaGreatDoor.RuD
set_option linter.unusedVariables false
set_option linter.unusedSimpArgs false

theorem ported_any (p : Int) (w : World) : Calls Tryz.prog 83 #[.int .i64 p] w fun e w' => e = .returned (.bool (portedF p)) ∧ w' = w := by
  go_enter Tryz.func83, Tryz.ntmps83
  go_wp2
  all_goals go_ret
  all_goals exact ⟨by simp_all [portedF], rfl⟩
set_option maxHeartbeats 2000000 in
theorem isPass_any (r : RuleM) (w : World) :
    Calls Tryz.prog 50 #[.agg (ruleC r)] w fun e w' => e = .returned (.bool (passP r)) ∧ Below w.heap.size w w' := by
  have h0 := rc0 r
  have h20 := rc20 r
  have h21 := rc21 r
  have h24 := rc24 r
  have h27 := rc27 r
  unfold passP
  cases ha : r.pass <;> cases hb : r.keep <;> cases hc : r.routeTo.on <;> cases hd : r.replyTo.on
  all_goals
    rw [ha] at h0
    rw [hb] at h20
    rw [hc] at h21
    rw [hd] at h24
    clear ha hb hc hd
    go_enter Tryz.func50, Tryz.ntmps50
    go_wp2
    all_goals go_ret
    all_goals exact ⟨by simp_all, bnew _ _⟩
def flB (r : RuleM) : Bool := decide (0 ≤ r.mask) && decide (r.mask ≤ 63) && (bits .andNot .i64 r.set r.mask == 0) && (r.mask == 0 || r.proto == 6)
def tyB (r : RuleM) : Bool := decide (-1 ≤ r.typ) && decide (r.typ ≤ 255) && (r.typ == -1 || r.proto == 1)
theorem lookP_eq (r : RuleM) : lookP r = (decide (0 ≤ r.proto) && decide (r.proto ≤ 255) && flB r && tyB r) := rfl
set_option maxHeartbeats 2000000 in
theorem isLook_any (r : RuleM) (w : World) :
    Calls Tryz.prog 51 #[.agg (ruleC r)] w fun e w' => e = .returned (.bool (lookP r)) ∧ Below w.heap.size w w' := by
  have h4 := rc4 r
  have h17 := rc17 r
  have h18 := rc18 r
  have h19 := rc19 r
  rw [lookP_eq]
  go_enter Tryz.func51, Tryz.ntmps51
  go_upto_region 1 with fail
  go_cut [3] (fun s3 wc => s3 = .bool (flB r) ∧ wc = w.alloc (.cells (ruleC r) 32))
  case first =>
    go_wp2
    all_goals go_meet
    all_goals (case rel => exact ⟨by simp_all [flB] <;> (try intros) <;> omega, rfl⟩)
  case rest =>
    obtain ⟨rfl, rfl⟩ := hcut
    go_upto_region 2 with fail
    go_cut [4] (fun s4 wc => s4 = .bool (tyB r) ∧ wc = w.alloc (.cells (ruleC r) 32))
    case first =>
      go_wp2
      all_goals go_meet
      all_goals (case rel => exact ⟨by simp_all [tyB] <;> (try intros) <;> omega, rfl⟩)
    case rest =>
      obtain ⟨rfl, rfl⟩ := hcut
      cases ha : flB r <;> cases hb : tyB r
      all_goals
        have HA := Lib.hid ha
        have HB := Lib.hid hb
        clear ha hb
        go_wp2
        all_goals go_ret
        all_goals exact ⟨by rw [HA.out, HB.out]; simp_all <;> (try intros) <;> omega, bnew _ _⟩

end Go.Proofs.YtefhoecdoemgbaaGreatDoor.RuF
/- rule.isSide. -/

namespace Go.Proofs.YtefhoecdoemgbaaGreatDoor.RuG
open Go Go.RowKit Go.Proofs.YtefhoecdoemgbaaGreatDoor.Ad0 Go.Proofs.YtefhoecdoemgbaaGreatDoor.Ad1 Go.Proofs.YtefhoecdoemgbaaGreatDoor.Ad3 Go.Proofs.YtefhoecdoemgbaaGreatDoor.St0 Go.Proofs.YtefhoecdoemgbaaGreatDoor.St1 Go.Proofs.YtefhoecdoemgbaaGreatDoor.St2 Go.Proofs.YtefhoecdoemgbaaGreatDoor.St3 Go.Proofs.YtefhoecdoemgbaaGreatDoor.St4 Go.Proofs.YtefhoecdoemgbaaGreatDoor.StA Go.Proofs.YtefhoecdoemgbaaGreatDoor.Ru0 Go.Proofs.YtefhoecdoemgbaaGreatDoor.Ru1 Go.Proofs.YtefhoecdoemgbaaGreatDoor.Ru6 Go.Proofs.YtefhoecdoemgbaaGreatDoor.Ru7 Go.Proofs.YtefhoecdoemgbaaGreatDoor.Ru8 Go.Proofs.YtefhoecdoemgbaaGreatDoor.Ru9 Go.Proofs.YtefhoecdoemgbaaGreatDoor.RuB Go.Proofs.YtefhoecdoemgbaaGreatDoor.RuC Go.Proofs.YtefhoecdoemgbaaGreatDoor.RuD Go.Proofs.YtefhoecdoemgbaaGreatDoor.RuF
set_option linter.unusedVariables false
set_option linter.unusedSimpArgs false

/-- Is the who of an end not so? -/
def whoBad (s : SideM) : Bool := (s.any && (decide (s.table ≠ []) || !decide (s.pfx = ⟨0, 0⟩))) || (decide (s.table ≠ []) && (!nameL s.table || !decide (s.pfx = ⟨0, 0⟩))) || !isF s.pfx
theorem sideP_eq (s : SideM) (p : Int) : sideP s p = if whoBad s then false else (decide (0 ≤ s.low) && decide (s.low ≤ s.high) && decide (s.high ≤ 65535) && (allP s || portedF p)) := rfl
theorem sc (s : SideM) : (sideC s)[0]? = some (.bool s.any) ∧ (sideC s)[1]? = some (.string ⟨s.table.toArray⟩) ∧ (sideC s)[2]? = some (.int .u32 (s.pfx.addr : Nat)) ∧ (sideC s)[3]? = some (.int .i64 s.pfx.len) ∧ (sideC s)[4]? = some (.int .i64 s.low) ∧ (sideC s)[5]? = some (.int .i64 s.high) := ⟨rfl, rfl, rfl, rfl, rfl, rfl⟩
theorem pfx_zero (p : Pfx) : decide (p = ⟨0, 0⟩) = (decide (p.addr = 0) && decide (p.len = 0)) := by
  obtain ⟨a, b⟩ := p
  rw [Bool.eq_iff_iff]
  simp
set_option maxRecDepth 100000 in
set_option maxHeartbeats 4000000 in
theorem isSide_any (s : SideM) (p : Int) (hs : s.table.length ≤ 9223372036854775807) (hp : s.pfx.ok) (w : World) :
    Calls Tryz.prog 52 #[.agg (sideC s), .int .i64 p] w fun e w' => e = .returned (.bool (sideP s p)) ∧ Below w.heap.size w w' := by
  have KN := Lib.hid (fun W => name_any s.table hs W)
  have KI := Lib.hid (fun W => is_any s.pfx hp W)
  have KP := Lib.hid (fun W => ported_any p W)
  have HB0 := Lib.hid (bnew w (.cells (sideC s) 28))
  have HR0 := Lib.hid (heap_alloc_new w (.cells (sideC s) 28))
  obtain ⟨s0, s1, s2, s3, s4, s5⟩ := sc s
  have hz := pfx_zero s.pfx
  have HZ := Lib.hid hz
  clear hz
  go_enter Tryz.func52, Tryz.ntmps52
  go_upto_region 1 with fail
  go_cut [5] (fun s5 wc => s5 = .bool (decide (s.pfx = ⟨0, 0⟩)) ∧ wc = w.alloc (.cells (sideC s) 28))
  case first =>
    go_wp2
    all_goals go_meet
    all_goals (case rel => exact ⟨by rw [HZ.out]; simp_all, rfl⟩)
  case rest =>
    obtain ⟨rfl, rfl⟩ := hcut
    go_upto_region 2 with fail
    generalize hz : decide (s.pfx = ⟨0, 0⟩) = z
    have HZ2 := Lib.hid hz
    clear hz
    go_cut [5, 42] (fun s5 s42 wc => s42 = .bool (whoBad s) ∧ Below w.heap.size w wc ∧ wc.heap[w.heap.size]? = some (.cells (sideC s) 28 (0, 0)))
    case first =>
      go_wp2_with (first
        | (go_at_call 12; refine (KN.out _).mono ?_; rintro e w1 ⟨rfl, hb1⟩; have HB1 := Lib.hid (bstep HB0.out hb1 HB0.out.size); have HR1 := row_step HR0 hb1; obtain ⟨c1, f1⟩ := bcell hb1; clear hb1)
        | (go_at_call 82; refine (KI.out _).mono ?_; rintro e w2 ⟨rfl, hb2⟩; have HX := Lib.hid hb2; clear hb2))
      all_goals go_meet
      all_goals (case rel => first | exact ⟨by unfold whoBad; rw [HZ2.out]; simp_all, HB0.out, HR0.out⟩ | exact ⟨by unfold whoBad; rw [HZ2.out]; simp_all, HB1.out, HR1.out⟩ | exact ⟨by unfold whoBad; rw [HZ2.out]; simp_all, bstep HB0.out HX.out HB0.out.size, row_step HR0 HX.out⟩ | exact ⟨by unfold whoBad; rw [HZ2.out]; simp_all, bstep HB1.out HX.out HB1.out.size, row_step HR1 HX.out⟩ | (trace_state; fail ))
    case rest =>
      obtain ⟨rfl, hbw, hrw⟩ := hcut
      have HB2 := Lib.hid hbw
      have HR2 := Lib.hid hrw
      obtain ⟨a0, a1, a2, a3, a4, a5, b0, b1, b2, b3, b4, b5⟩ := box6 hrw
      clear hbw hrw
      cases hwb : whoBad s with
      | true =>
        have HW := Lib.hid hwb
        clear hwb
        go_wp2
        go_ret
        exact ⟨by rw [sideP_eq, HW.out]; rfl, HB2.out⟩
      | false =>
        have HW := Lib.hid hwb
        clear hwb
        go_upto_region 4 with fail
        go_cut [6] (fun s6 wx => s6 = .bool (allP s) ∧ wx = wc)
        case first =>
          go_wp2
          all_goals go_meet
          all_goals (case rel => exact ⟨by simp_all [allP], rfl⟩)
        case rest =>
          obtain ⟨rfl, rfl⟩ := hcut
          generalize hap : allP s = ap
          have HAP := Lib.hid hap
          clear hap
          generalize hpo : portedF p = po at KP
          have HPO := Lib.hid hpo
          clear hpo
          go_wp2_with (go_at_call 83; refine (KP.out _).mono ?_; rintro e w3 ⟨rfl, rfl⟩)
          all_goals go_ret
          all_goals exact ⟨by rw [sideP_eq, HW.out, HAP.out, HPO.out]; simp_all <;> (try intros) <;> omega, HB2.out⟩
end Go.Proofs.YtefhoecdoemgbaaGreatDoor.RuG
