/- rule.Is. -/
import Derived.Test.YtefhoecdoemgbaaGreatDoorMem
import Derived.Test.YtefhoecdoemgbaaGreatDoorRuE
import Derived.Test.YtefhoecdoemgbaaGreatDoorRuG
import Derived.BigGuardPart
namespace Go.Proofs.YtefhoecdoemgbaaGreatDoor.RuH
open Go Go.RowKit Go.Proofs.YtefhoecdoemgbaaGreatDoor.Ad0 Go.Proofs.YtefhoecdoemgbaaGreatDoor.Ad1 Go.Proofs.YtefhoecdoemgbaaGreatDoor.Ad3 Go.Proofs.YtefhoecdoemgbaaGreatDoor.St0 Go.Proofs.YtefhoecdoemgbaaGreatDoor.St1 Go.Proofs.YtefhoecdoemgbaaGreatDoor.St2 Go.Proofs.YtefhoecdoemgbaaGreatDoor.St3 Go.Proofs.YtefhoecdoemgbaaGreatDoor.St4 Go.Proofs.YtefhoecdoemgbaaGreatDoor.StA Go.Proofs.YtefhoecdoemgbaaGreatDoor.Ru0 Go.Proofs.YtefhoecdoemgbaaGreatDoor.Ru1 Go.Proofs.YtefhoecdoemgbaaGreatDoor.Ru6 Go.Proofs.YtefhoecdoemgbaaGreatDoor.Ru7 Go.Proofs.YtefhoecdoemgbaaGreatDoor.Ru8 Go.Proofs.YtefhoecdoemgbaaGreatDoor.Ru9 Go.Proofs.YtefhoecdoemgbaaGreatDoor.RuB Go.Proofs.YtefhoecdoemgbaaGreatDoor.RuC Go.Proofs.YtefhoecdoemgbaaGreatDoor.RuD Go.Proofs.YtefhoecdoemgbaaGreatDoor.RuE Go.Proofs.YtefhoecdoemgbaaGreatDoor.RuF Go.Proofs.YtefhoecdoemgbaaGreatDoor.RuG
set_option linter.unusedVariables false
set_option linter.unusedSimpArgs false

/-- What a rule in memory holds to: no word is too long, each address fits. -/
structure Fits (r : RuleM) : Prop where
  on : r.on.length ≤ 9223372036854775807
  ft : r.frm.table.length ≤ 9223372036854775807
  fp : r.frm.pfx.ok
  dt : r.dst.table.length ≤ 9223372036854775807
  dp : r.dst.pfx.ok
  ri : r.routeTo.iface.length ≤ 9223372036854775807
  pi : r.replyTo.iface.length ≤ 9223372036854775807
  rg : r.routeTo.gate < 4294967296
  pg : r.replyTo.gate < 4294967296
  set : -9223372036854775808 ≤ r.set ∧ r.set ≤ 9223372036854775807
theorem ruleP_chain (r : RuleM) : ruleP r = (!(r.ret && r.pass) && (passP r && ((decide (r.on = []) || nameL r.on) && (lookP r && (sideP r.frm r.proto && (sideP r.dst r.proto && (pinP r.routeTo && (pinP r.replyTo && (decide (0 ≤ r.table) && decide (r.table < 4)))))))))) := by
  unfold ruleP
  simp only [Bool.and_assoc]
set_option maxRecDepth 100000 in
set_option maxHeartbeats 4000000 in
theorem isP_any (r : RuleM) (h : Fits r) (w : World) :
    Calls Tryz.prog 19 #[.agg (ruleC r)] w fun e w' => e = .returned (.bool (ruleP r)) ∧ Below w.heap.size w w' := by
  have K1 : Hid (∀ W, Calls Tryz.prog 50 #[.agg (ruleC r)] W fun e w' => e = .returned (.bool (passP r)) ∧ Below W.heap.size W w') := fun W => isPass_any r W
  have K2 := Lib.hid (fun W => name_any r.on h.on W)
  have K3 := Lib.hid (fun W => isLook_any r W)
  have K4 := Lib.hid (fun W => isSide_any r.frm r.proto h.ft h.fp W)
  have K5 := Lib.hid (fun W => isSide_any r.dst r.proto h.dt h.dp W)
  have K6 := Lib.hid (fun W => isPin_any r.routeTo h.ri W)
  have K7 := Lib.hid (fun W => isPin_any r.replyTo h.pi W)
  have HC := Lib.hid (ruleP_chain r)
  generalize passP r = b1 at K1 HC
  generalize nameL r.on = b2 at K2 HC
  generalize lookP r = b3 at K3 HC
  generalize sideP r.frm r.proto = b4 at K4 HC
  generalize sideP r.dst r.proto = b5 at K5 HC
  generalize pinP r.routeTo = b6 at K6 HC
  generalize pinP r.replyTo = b7 at K7 HC
  have HB := Lib.hid (bnew w (.cells (ruleC r) 32))
  have HR := Lib.hid (heap_alloc_new w (.cells (ruleC r) 32))
  have HI := Tryz.underlying32
  have d0 := rc0 r
  have d1 := rc1 r
  have d3 := rc3 r
  have d4 := rc4 r
  have d27 := rc27 r
  have hi32 : (Tryz.prog.info? 32).map (·.size) = some (ruleC r).size := by kernel_rfl
  have HI32 := Lib.hid hi32
  have hi28 : ∀ s : SideM, (Tryz.prog.info? 28).map (·.size) = some (sideC s).size := fun _ => by kernel_rfl
  have HI28 := Lib.hid hi28
  have hi30 : ∀ s : PinM, (Tryz.prog.info? 30).map (·.size) = some (pinC s).size := fun _ => by kernel_rfl
  have HI30 := Lib.hid hi30
  clear h HI hi32 hi28 hi30
  go_enter Tryz.func19, Tryz.ntmps19
  go_wp2_with (first
    | ((with_reducible refine Mem.load_row w.heap.size ?_ HR.out Tryz.underlying32 HI32.out ?_ ?_); rfl; rfl)
    | ((with_reducible refine Mem.load_part w.heap.size 5 6 ?_ HR.out (ex_frm r) Tryz.underlying28 (HI28.out _) ?_ ?_); rfl; rfl)
    | ((with_reducible refine Mem.load_part w.heap.size 11 6 ?_ HR.out (ex_dst r) Tryz.underlying28 (HI28.out _) ?_ ?_); rfl; rfl)
    | ((with_reducible refine Mem.load_part w.heap.size 21 3 ?_ HR.out (ex_route r) Tryz.underlying30 (HI30.out _) ?_ ?_); rfl; rfl)
    | ((with_reducible refine Mem.load_part w.heap.size 24 3 ?_ HR.out (ex_reply r) Tryz.underlying30 (HI30.out _) ?_ ?_); rfl; rfl)
    | (go_at_call 50; first | ((with_reducible refine (K1.out _).mono ?_); rintro e w1 ⟨rfl, hb1⟩; have HB := Lib.hid (bstep HB.out hb1 HB.out.size); have HR := row_step HR hb1; have hc : ∀ j, w1.cell? ⟨w.heap.size, j, none⟩ = (ruleC r)[j]? := fun j => cell_of_row _ _ _ _ _ _ HR.out; clear hb1))
    | (go_at_call 12; first | ((with_reducible refine (K2.out _).mono ?_); rintro e w1 ⟨rfl, hb1⟩; have HB := Lib.hid (bstep HB.out hb1 HB.out.size); have HR := row_step HR hb1; have hc : ∀ j, w1.cell? ⟨w.heap.size, j, none⟩ = (ruleC r)[j]? := fun j => cell_of_row _ _ _ _ _ _ HR.out; clear hb1))
    | (go_at_call 51; first | ((with_reducible refine (K3.out _).mono ?_); rintro e w1 ⟨rfl, hb1⟩; have HB := Lib.hid (bstep HB.out hb1 HB.out.size); have HR := row_step HR hb1; have hc : ∀ j, w1.cell? ⟨w.heap.size, j, none⟩ = (ruleC r)[j]? := fun j => cell_of_row _ _ _ _ _ _ HR.out; clear hb1))
    | (go_at_call 52; first | ((with_reducible refine (K4.out _).mono ?_); rintro e w1 ⟨rfl, hb1⟩; have HB := Lib.hid (bstep HB.out hb1 HB.out.size); have HR := row_step HR hb1; have hc : ∀ j, w1.cell? ⟨w.heap.size, j, none⟩ = (ruleC r)[j]? := fun j => cell_of_row _ _ _ _ _ _ HR.out; clear hb1) | ((with_reducible refine (K5.out _).mono ?_); rintro e w1 ⟨rfl, hb1⟩; have HB := Lib.hid (bstep HB.out hb1 HB.out.size); have HR := row_step HR hb1; have hc : ∀ j, w1.cell? ⟨w.heap.size, j, none⟩ = (ruleC r)[j]? := fun j => cell_of_row _ _ _ _ _ _ HR.out; clear hb1))
    | (go_at_call 53; first | ((with_reducible refine (K6.out _).mono ?_); rintro e w1 ⟨rfl, hb1⟩; have HB := Lib.hid (bstep HB.out hb1 HB.out.size); have HR := row_step HR hb1; have hc : ∀ j, w1.cell? ⟨w.heap.size, j, none⟩ = (ruleC r)[j]? := fun j => cell_of_row _ _ _ _ _ _ HR.out; clear hb1) | ((with_reducible refine (K7.out _).mono ?_); rintro e w1 ⟨rfl, hb1⟩; have HB := Lib.hid (bstep HB.out hb1 HB.out.size); have HR := row_step HR hb1; have hc : ∀ j, w1.cell? ⟨w.heap.size, j, none⟩ = (ruleC r)[j]? := fun j => cell_of_row _ _ _ _ _ _ HR.out; clear hb1)))
  all_goals go_ret
  all_goals exact ⟨by rw [HC.out]; simp_all <;> (try intros) <;> omega, HB.out⟩
end Go.Proofs.YtefhoecdoemgbaaGreatDoor.RuH
