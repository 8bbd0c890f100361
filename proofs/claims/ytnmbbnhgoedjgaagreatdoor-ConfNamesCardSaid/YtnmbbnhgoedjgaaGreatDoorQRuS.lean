/- castellanref14.Is (a rule, the document's way). -/
import Derived.Test.YtnmbbnhgoedjgaaGreatDoorQRuVa
namespace Go.Proofs.YtnmbbnhgoedjgaaGreatDoor.RuS
open Go Go.RowKit Go.Proofs.YtnmbbnhgoedjgaaGreatDoor.Ad1 Go.Proofs.YtnmbbnhgoedjgaaGreatDoor.St3 Go.Proofs.YtnmbbnhgoedjgaaGreatDoor.Ru0 Go.Proofs.YtnmbbnhgoedjgaaGreatDoor.Ru6 Go.Proofs.YtnmbbnhgoedjgaaGreatDoor.RuB Go.Proofs.YtnmbbnhgoedjgaaGreatDoor.RuC Go.Proofs.YtnmbbnhgoedjgaaGreatDoor.RuD Go.Proofs.YtnmbbnhgoedjgaaGreatDoor.RuE Go.Proofs.YtnmbbnhgoedjgaaGreatDoor.RuH Go.Proofs.YtnmbbnhgoedjgaaGreatDoor.RuR
set_option linter.unusedVariables false
set_option linter.unusedSimpArgs false
def c1a (r : RuleM) : Bool := r.pass && r.ret
def c1b (r : RuleM) : Bool := !r.pass && (r.keep || r.routeTo.on || r.replyTo.on || !(r.table == 0))
def c2a (r : RuleM) : Bool := decide (r.on ≠ []) && !nameL r.on
def c2b (r : RuleM) : Bool := decide (r.proto < 0) || decide (255 < r.proto)
def c2c (r : RuleM) : Bool := !sideR r.frm (portedF r.proto) || !sideR r.dst (portedF r.proto)
def c3a (r : RuleM) : Bool := decide (r.mask < 0) || decide (63 < r.mask) || decide (r.set < 0) || !(bits .andNot .i64 r.set r.mask == 0)
def c3b (r : RuleM) : Bool := !(r.proto == 6) && (!(r.mask == 0) || !(r.set == 0))
def c4a (r : RuleM) : Bool := decide (r.typ < -1) || decide (255 < r.typ)
def c4b (r : RuleM) : Bool := !(r.proto == 1) && !(r.typ == -1)
def c5 (r : RuleM) : Bool := pinR r.routeTo && pinR r.replyTo && decide (0 ≤ r.table) && decide (r.table < 4)
theorem ruleR_chain (r : RuleM) : ruleR r = (!c1a r && (!c1b r && (!c2a r && (!c2b r && (!c2c r && (!c3a r && (!c3b r && (!c4a r && (!c4b r && c5 r))))))))) := by
  unfold ruleR c1a c1b c2a c2b c2c c3a c3b c4a c4b c5
  generalize (r.pass && r.ret) = x1
  generalize (!r.pass && (r.keep || r.routeTo.on || r.replyTo.on || !(r.table == 0))) = x2
  generalize (decide (r.on ≠ []) && !nameL r.on) = x3
  generalize (decide (r.proto < 0) || decide (255 < r.proto)) = x4
  generalize (!sideR r.frm (portedF r.proto) || !sideR r.dst (portedF r.proto)) = x5
  generalize (decide (r.mask < 0) || decide (63 < r.mask) || decide (r.set < 0) || !(bits .andNot .i64 r.set r.mask == 0)) = x6
  generalize (!(r.proto == 6) && (!(r.mask == 0) || !(r.set == 0))) = x7
  generalize (decide (r.typ < -1) || decide (255 < r.typ)) = x8
  generalize (!(r.proto == 1) && !(r.typ == -1)) = x9
  generalize (pinR r.routeTo && pinR r.replyTo && decide (0 ≤ r.table) && decide (r.table < 4)) = x10
  cases x1 <;> cases x2 <;> cases x3 <;> cases x4 <;> cases x5 <;> cases x6 <;> cases x7 <;> cases x8 <;> cases x9 <;> rfl
set_option maxRecDepth 100000 in
set_option maxHeartbeats 4000000 in
theorem isR_any (r : RuleM) (h : Fits r) (w : World) :
    Calls Tryz.prog 51 #[.agg (ruleC r)] w fun e w' => e = .returned (.bool (ruleR r)) ∧ Below w.heap.size w w' := by
  have K2 := Lib.hid (fun W => rname_w r.on h.on W)
  have K4 := Lib.hid (fun W => rside_any r.frm (portedF r.proto) h.ft h.fp W)
  have K5 := Lib.hid (fun W => rside_any r.dst (portedF r.proto) h.dt h.dp W)
  have K6 := Lib.hid (fun W => rpin_any r.routeTo h.ri W)
  have K7 := Lib.hid (fun W => rpin_any r.replyTo h.pi W)
  have HC := Lib.hid (ruleR_chain r)
  have C1a := Lib.hid (show c1a r = (r.pass && r.ret) from rfl)
  have C1b := Lib.hid (show c1b r = (!r.pass && (r.keep || r.routeTo.on || r.replyTo.on || !(r.table == 0))) from rfl)
  have C2a := Lib.hid (show c2a r = (decide (r.on ≠ []) && !nameL r.on) from rfl)
  have C2b := Lib.hid (show c2b r = (decide (r.proto < 0) || decide (255 < r.proto)) from rfl)
  have C2c := Lib.hid (show c2c r = (!sideR r.frm (portedF r.proto) || !sideR r.dst (portedF r.proto)) from rfl)
  have C3a := Lib.hid (show c3a r = (decide (r.mask < 0) || decide (63 < r.mask) || decide (r.set < 0) || !(bits .andNot .i64 r.set r.mask == 0)) from rfl)
  have C3b := Lib.hid (show c3b r = (!(r.proto == 6) && (!(r.mask == 0) || !(r.set == 0))) from rfl)
  have C4a := Lib.hid (show c4a r = (decide (r.typ < -1) || decide (255 < r.typ)) from rfl)
  have C4b := Lib.hid (show c4b r = (!(r.proto == 1) && !(r.typ == -1)) from rfl)
  have C5 := Lib.hid (show c5 r = (pinR r.routeTo && pinR r.replyTo && decide (0 ≤ r.table) && decide (r.table < 4)) from rfl)
  have HPO := Lib.hid (show portedF r.proto = (r.proto == 6 || r.proto == 17) from rfl)
  generalize portedF r.proto = po at K4 K5 C2c HPO
  generalize nameL r.on = b2 at K2 C2a
  generalize sideR r.frm po = b4 at K4 C2c
  generalize sideR r.dst po = b5 at K5 C2c
  generalize pinR r.routeTo = b6 at K6 C5
  generalize pinR r.replyTo = b7 at K7 C5
  have HB := Lib.hid (bnew w (.cells (ruleC r) 75))
  have HR := Lib.hid (heap_alloc_new w (.cells (ruleC r) 75))
  have d0 := rc0 r
  have d1 := rc1 r
  have d3 := rc3 r
  have d4 := rc4 r
  have d17 := rc17 r
  have d18 := rc18 r
  have d19 := rc19 r
  have d20 := rc20 r
  have d21 := rc21 r
  have d24 := rc24 r
  have d27 := rc27 r
  have hi28 : ∀ s : SideM, (Tryz.prog.info? 71).map (·.size) = some (sideC s).size := fun _ => by kernel_rfl
  have HI28 := Lib.hid hi28
  have hi30 : ∀ s : PinM, (Tryz.prog.info? 73).map (·.size) = some (pinC s).size := fun _ => by kernel_rfl
  have HI30 := Lib.hid hi30
  clear h hi28 hi30
  go_enter Tryz.func51, Tryz.ntmps51
  go_upto_region 1 with fail
  go_cut [3] (fun s3 wc => s3 = .bool po ∧ Below w.heap.size w wc ∧ wc.heap[w.heap.size]? = some (.cells (ruleC r) 75 (0, 0)))
  case first =>
    go_wp2_with fail
    all_goals go_meet
    all_goals (case rel => exact ⟨by rw [HPO.out]; simp_all [bne] <;> (try intros) <;> first | omega | (rw [Bool.eq_iff_iff]; simp; omega), HB.out, HR.out⟩)
  case rest =>
    obtain ⟨rfl, hbw, hrw⟩ := hcut
    have HB := Lib.hid hbw
    have HR := Lib.hid hrw
    have hc : ∀ j, wc.cell? ⟨w.heap.size, j, none⟩ = (ruleC r)[j]? := fun j => cell_of_row _ _ _ _ _ _ HR.out
    clear hbw hrw
    go_upto_region 2 with fail
    go_cut [12] (fun s12 wc => s12 = .bool (c1a r) ∧ Below w.heap.size w wc ∧ wc.heap[w.heap.size]? = some (.cells (ruleC r) 75 (0, 0)))
    case first =>
      go_wp2_with fail
      all_goals go_meet
      all_goals (case rel => exact ⟨by rw [C1a.out]; simp_all [bne] <;> (try intros) <;> first | omega | (rw [Bool.eq_iff_iff]; simp; omega), HB.out, HR.out⟩)
    case rest =>
      obtain ⟨rfl, hbw, hrw⟩ := hcut
      have HB := Lib.hid hbw
      have HR := Lib.hid hrw
      have hc : ∀ j, wc.cell? ⟨w.heap.size, j, none⟩ = (ruleC r)[j]? := fun j => cell_of_row _ _ _ _ _ _ HR.out
      clear hbw hrw
      generalize c1a r = bc1a at HC C1a
      cases bc1a with
      | true =>
        go_wp2
        go_ret
        exact ⟨by rw [HC.out]; simp, HB.out⟩
      | false =>
        go_upto_region 3 with fail
        go_cut [12] (fun s12 wc => s12 = .bool (c1b r) ∧ Below w.heap.size w wc ∧ wc.heap[w.heap.size]? = some (.cells (ruleC r) 75 (0, 0)))
        case first =>
          go_wp2_with fail
          all_goals go_meet
          all_goals (case rel => exact ⟨by rw [C1b.out]; simp_all [bne] <;> (try intros) <;> first | omega | (rw [Bool.eq_iff_iff]; simp; omega), HB.out, HR.out⟩)
        case rest =>
          obtain ⟨rfl, hbw, hrw⟩ := hcut
          have HB := Lib.hid hbw
          have HR := Lib.hid hrw
          have hc : ∀ j, wc.cell? ⟨w.heap.size, j, none⟩ = (ruleC r)[j]? := fun j => cell_of_row _ _ _ _ _ _ HR.out
          clear hbw hrw
          generalize c1b r = bc1b at HC C1b
          cases bc1b with
          | true =>
            go_wp2
            go_ret
            exact ⟨by rw [HC.out]; simp, HB.out⟩
          | false =>
            go_upto_region 5 with fail
            go_cut [41] (fun s41 wc => s41 = .bool (c2a r) ∧ Below w.heap.size w wc ∧ wc.heap[w.heap.size]? = some (.cells (ruleC r) 75 (0, 0)))
            case first =>
              go_wp2_with ((go_at_call 50; (with_reducible refine (K2.out _).mono ?_); rintro e w1 ⟨rfl, rfl⟩))
              all_goals go_meet
              all_goals (case rel => exact ⟨by rw [C2a.out]; simp_all [bne] <;> (try intros) <;> first | omega | (rw [Bool.eq_iff_iff]; simp; omega), HB.out, HR.out⟩)
            case rest =>
              obtain ⟨rfl, hbw, hrw⟩ := hcut
              have HB := Lib.hid hbw
              have HR := Lib.hid hrw
              have hc : ∀ j, wc.cell? ⟨w.heap.size, j, none⟩ = (ruleC r)[j]? := fun j => cell_of_row _ _ _ _ _ _ HR.out
              clear hbw hrw
              generalize c2a r = bc2a at HC C2a
              cases bc2a with
              | true =>
                go_wp2
                go_ret
                exact ⟨by rw [HC.out]; simp, HB.out⟩
              | false =>
                go_upto_region 6 with fail
                go_cut [41] (fun s41 wc => s41 = .bool (c2b r) ∧ Below w.heap.size w wc ∧ wc.heap[w.heap.size]? = some (.cells (ruleC r) 75 (0, 0)))
                case first =>
                  go_wp2_with fail
                  all_goals go_meet
                  all_goals (case rel => exact ⟨by rw [C2b.out]; simp_all [bne] <;> (try intros) <;> first | omega | (rw [Bool.eq_iff_iff]; simp; omega), HB.out, HR.out⟩)
                case rest =>
                  obtain ⟨rfl, hbw, hrw⟩ := hcut
                  have HB := Lib.hid hbw
                  have HR := Lib.hid hrw
                  have hc : ∀ j, wc.cell? ⟨w.heap.size, j, none⟩ = (ruleC r)[j]? := fun j => cell_of_row _ _ _ _ _ _ HR.out
                  clear hbw hrw
                  generalize c2b r = bc2b at HC C2b
                  cases bc2b with
                  | true =>
                    go_wp2
                    go_ret
                    exact ⟨by rw [HC.out]; simp, HB.out⟩
                  | false =>
                    go_upto_region 7 with fail
                    go_cut [41] (fun s41 wc => s41 = .bool (c2c r) ∧ Below w.heap.size w wc ∧ wc.heap[w.heap.size]? = some (.cells (ruleC r) 75 (0, 0)))
                    case first =>
                      go_wp2_with (first | ((with_reducible refine Mem.load_part w.heap.size 5 6 ?_ HR.out (ex_frm r) Tryz.underlying71 (HI28.out _) ?_ ?_); rfl; rfl) | ((with_reducible refine Mem.load_part w.heap.size 11 6 ?_ HR.out (ex_dst r) Tryz.underlying71 (HI28.out _) ?_ ?_); rfl; rfl) | (go_at_call 97; first | ((with_reducible refine (K4.out _).mono ?_); rintro e w1 ⟨rfl, hb1⟩; have HB := Lib.hid (bstep HB.out hb1 HB.out.size); have HR := row_step HR hb1; have hc : ∀ j, w1.cell? ⟨w.heap.size, j, none⟩ = (ruleC r)[j]? := fun j => cell_of_row _ _ _ _ _ _ HR.out; clear hb1) | ((with_reducible refine (K5.out _).mono ?_); rintro e w1 ⟨rfl, hb1⟩; have HB := Lib.hid (bstep HB.out hb1 HB.out.size); have HR := row_step HR hb1; have hc : ∀ j, w1.cell? ⟨w.heap.size, j, none⟩ = (ruleC r)[j]? := fun j => cell_of_row _ _ _ _ _ _ HR.out; clear hb1)))
                      all_goals go_meet
                      all_goals (case rel => exact ⟨by rw [C2c.out]; simp_all [bne] <;> (try intros) <;> first | omega | (rw [Bool.eq_iff_iff]; simp; omega), HB.out, HR.out⟩)
                    case rest =>
                      obtain ⟨rfl, hbw, hrw⟩ := hcut
                      have HB := Lib.hid hbw
                      have HR := Lib.hid hrw
                      have hc : ∀ j, wc.cell? ⟨w.heap.size, j, none⟩ = (ruleC r)[j]? := fun j => cell_of_row _ _ _ _ _ _ HR.out
                      clear hbw hrw
                      generalize c2c r = bc2c at HC C2c
                      cases bc2c with
                      | true =>
                        go_wp2
                        go_ret
                        exact ⟨by rw [HC.out]; simp, HB.out⟩
                      | false =>
                        go_upto_region 9 with fail
                        go_cut [71] (fun s71 wc => s71 = .bool (c3a r) ∧ Below w.heap.size w wc ∧ wc.heap[w.heap.size]? = some (.cells (ruleC r) 75 (0, 0)))
                        case first =>
                          go_wp2_with fail
                          all_goals go_meet
                          all_goals (case rel => exact ⟨by rw [C3a.out]; simp_all [bne] <;> (try intros) <;> first | omega | (rw [Bool.eq_iff_iff]; simp; omega), HB.out, HR.out⟩)
                        case rest =>
                          obtain ⟨rfl, hbw, hrw⟩ := hcut
                          have HB := Lib.hid hbw
                          have HR := Lib.hid hrw
                          have hc : ∀ j, wc.cell? ⟨w.heap.size, j, none⟩ = (ruleC r)[j]? := fun j => cell_of_row _ _ _ _ _ _ HR.out
                          clear hbw hrw
                          generalize c3a r = bc3a at HC C3a
                          cases bc3a with
                          | true =>
                            go_wp2
                            go_ret
                            exact ⟨by rw [HC.out]; simp, HB.out⟩
                          | false =>
                            go_upto_region 10 with fail
                            go_cut [71] (fun s71 wc => s71 = .bool (c3b r) ∧ Below w.heap.size w wc ∧ wc.heap[w.heap.size]? = some (.cells (ruleC r) 75 (0, 0)))
                            case first =>
                              go_wp2_with fail
                              all_goals go_meet
                              all_goals (case rel => exact ⟨by rw [C3b.out]; simp_all [bne] <;> (try intros) <;> first | omega | (rw [Bool.eq_iff_iff]; simp; omega), HB.out, HR.out⟩)
                            case rest =>
                              obtain ⟨rfl, hbw, hrw⟩ := hcut
                              have HB := Lib.hid hbw
                              have HR := Lib.hid hrw
                              have hc : ∀ j, wc.cell? ⟨w.heap.size, j, none⟩ = (ruleC r)[j]? := fun j => cell_of_row _ _ _ _ _ _ HR.out
                              clear hbw hrw
                              generalize c3b r = bc3b at HC C3b
                              cases bc3b with
                              | true =>
                                go_wp2
                                go_ret
                                exact ⟨by rw [HC.out]; simp, HB.out⟩
                              | false =>
                                go_upto_region 12 with fail
                                go_cut [106] (fun s106 wc => s106 = .bool (c4a r) ∧ Below w.heap.size w wc ∧ wc.heap[w.heap.size]? = some (.cells (ruleC r) 75 (0, 0)))
                                case first =>
                                  go_wp2_with fail
                                  all_goals go_meet
                                  all_goals (case rel => exact ⟨by rw [C4a.out]; simp_all [bne] <;> (try intros) <;> first | omega | (rw [Bool.eq_iff_iff]; simp; omega), HB.out, HR.out⟩)
                                case rest =>
                                  obtain ⟨rfl, hbw, hrw⟩ := hcut
                                  have HB := Lib.hid hbw
                                  have HR := Lib.hid hrw
                                  have hc : ∀ j, wc.cell? ⟨w.heap.size, j, none⟩ = (ruleC r)[j]? := fun j => cell_of_row _ _ _ _ _ _ HR.out
                                  clear hbw hrw
                                  generalize c4a r = bc4a at HC C4a
                                  cases bc4a with
                                  | true =>
                                    go_wp2
                                    go_ret
                                    exact ⟨by rw [HC.out]; simp, HB.out⟩
                                  | false =>
                                    go_upto_region 13 with fail
                                    go_cut [106] (fun s106 wc => s106 = .bool (c4b r) ∧ Below w.heap.size w wc ∧ wc.heap[w.heap.size]? = some (.cells (ruleC r) 75 (0, 0)))
                                    case first =>
                                      go_wp2_with fail
                                      all_goals go_meet
                                      all_goals (case rel => exact ⟨by rw [C4b.out]; simp_all [bne] <;> (try intros) <;> first | omega | (rw [Bool.eq_iff_iff]; simp; omega), HB.out, HR.out⟩)
                                    case rest =>
                                      obtain ⟨rfl, hbw, hrw⟩ := hcut
                                      have HB := Lib.hid hbw
                                      have HR := Lib.hid hrw
                                      have hc : ∀ j, wc.cell? ⟨w.heap.size, j, none⟩ = (ruleC r)[j]? := fun j => cell_of_row _ _ _ _ _ _ HR.out
                                      clear hbw hrw
                                      generalize c4b r = bc4b at HC C4b
                                      cases bc4b with
                                      | true =>
                                        go_wp2
                                        go_ret
                                        exact ⟨by rw [HC.out]; simp, HB.out⟩
                                      | false =>
                                        go_wp2_with (first | ((with_reducible refine Mem.load_part w.heap.size 21 3 ?_ HR.out (ex_route r) Tryz.underlying73 (HI30.out _) ?_ ?_); rfl; rfl) | ((with_reducible refine Mem.load_part w.heap.size 24 3 ?_ HR.out (ex_reply r) Tryz.underlying73 (HI30.out _) ?_ ?_); rfl; rfl) | (go_at_call 98; first | ((with_reducible refine (K6.out _).mono ?_); rintro e w1 ⟨rfl, hb1⟩; have HB := Lib.hid (bstep HB.out hb1 HB.out.size); have HR := row_step HR hb1; have hc : ∀ j, w1.cell? ⟨w.heap.size, j, none⟩ = (ruleC r)[j]? := fun j => cell_of_row _ _ _ _ _ _ HR.out; clear hb1) | ((with_reducible refine (K7.out _).mono ?_); rintro e w1 ⟨rfl, hb1⟩; have HB := Lib.hid (bstep HB.out hb1 HB.out.size); have HR := row_step HR hb1; have hc : ∀ j, w1.cell? ⟨w.heap.size, j, none⟩ = (ruleC r)[j]? := fun j => cell_of_row _ _ _ _ _ _ HR.out; clear hb1)))
                                        all_goals go_ret
                                        all_goals exact ⟨by rw [HC.out, C5.out]; simp_all <;> (try intros) <;> omega, HB.out⟩
end Go.Proofs.YtnmbbnhgoedjgaaGreatDoor.RuS

