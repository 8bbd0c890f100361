/- conf.Is, conf.Print. conf.twice. -/
import Derived.Test.YtnmbbnhgoedjgaaGreatDoorQCf1
import Derived.Test.YtnmbbnhgoedjgaaGreatDoorQCg0
import Derived.Test.YtnmbbnhgoedjgaaGreatDoorQShelf
import Derived.Deep.DeepCutAuto
namespace Go.Proofs.YtnmbbnhgoedjgaaGreatDoor.Cg2
open Go Go.RowKit Go.Proofs.YtnmbbnhgoedjgaaGreatDoor.Ad0 Go.Proofs.YtnmbbnhgoedjgaaGreatDoor.Ad1 Go.Proofs.YtnmbbnhgoedjgaaGreatDoor.St2 Go.Proofs.YtnmbbnhgoedjgaaGreatDoor.St3 Go.Proofs.YtnmbbnhgoedjgaaGreatDoor.Ru0 Go.Proofs.YtnmbbnhgoedjgaaGreatDoor.Ru1 Go.Proofs.YtnmbbnhgoedjgaaGreatDoor.Ru6 Go.Proofs.YtnmbbnhgoedjgaaGreatDoor.RuB Go.Proofs.YtnmbbnhgoedjgaaGreatDoor.RuC Go.Proofs.YtnmbbnhgoedjgaaGreatDoor.RuY Go.Proofs.YtnmbbnhgoedjgaaGreatDoor.Cf0 Go.Proofs.YtnmbbnhgoedjgaaGreatDoor.Cf4 Go.Proofs.YtnmbbnhgoedjgaaGreatDoor.Cf5 Go.Proofs.YtnmbbnhgoedjgaaGreatDoor.Cf6 Go.Proofs.YtnmbbnhgoedjgaaGreatDoor.Cg0 Go.Proofs.YtnmbbnhgoedjgaaGreatDoor.Cg1
set_option linter.unusedVariables false
set_option linter.unusedSimpArgs false
theorem info6 (v0 v1 v2 v3 : Value) (c : ConfM) : (Tryz.prog.info? 27).map (·.size) = some (confC v0 v1 v2 v3 c).size := by kernel_rfl
set_option maxRecDepth 20000 in
set_option maxHeartbeats 2000000 in
theorem is_conf (HI : IsIfaceSaid) (HP : PrintedSaid) (c : ConfM) (v0 v1 v2 v3 : Value) (ts : List (NamedM × Value)) (W : World) (h : ConfIn W v0 v1 v2 v3 ts c) (hf : FitC c) (hl : LibOK W) :
    Calls Tryz.prog 19 #[.agg (confC v0 v1 v2 v3 c)] W fun e w' => e = .returned (.bool (isC c)) ∧ Below W.heap.size W w' := by
  have HB := Lib.hid (bnew W (.cells (confC v0 v1 v2 v3 c) 27))
  have HR := Lib.hid (heap_alloc_new W (.cells (confC v0 v1 v2 v3 c) 27))
  have HL := Lib.hid (hl.below HB.out)
  have HS := Lib.hid (h.below HB.out)
  have HN := Lib.hid (info6 v0 v1 v2 v3 c)
  have K8 := Lib.hid (fun W' (h' : ConfIn W' v0 v1 v2 v3 ts c) => arePfx_any c.bogons hf.ok.bogons (by have := hf.nb; omega) v1 W' h'.bogons)
  have K9 := Lib.hid (fun W' (h' : ConfIn W' v0 v1 v2 v3 ts c) => has_ifaceIs ifL ifL_len (fun x => !isI x) c.ifaces (by have := hf.ni; omega) v0 W' h'.ifaces (fun x hx W2 _ => is1_any HI x (by have := hf.il x hx; omega) (hf.ok.ifaces x hx) W2))
  have K10 := Lib.hid (fun W' (h' : ConfIn W' v0 v1 v2 v3 ts c) => has_namedIs nmL nmL_len (fun t => !(nameL t.1.name && prefsOK t.1.l)) ts (by have := hf.nt; have := h'.tlen; omega) v2 W' h'.tables (fun t ht W2 hb2 => by
    have hm : t.1 ∈ c.tables := by rw [← h'.tab]; exact List.mem_map_of_mem ht
    exact is2_any t (by have := (hf.tl t.1 hm).1; omega) (hf.ok.tables t.1 hm) (by have := (hf.tl t.1 hm).2; omega) W2 ((h'.tin t ht).below hb2)))
  have K11 := Lib.hid (fun W' (h' : ConfIn W' v0 v1 v2 v3 ts c) => has_ruleIs rlL rlL_len (fun r => !ruleR r) c.rules (by have := hf.nr; omega) v3 W' h'.rules (fun r hr W2 _ => is3_any r (hf.ok.rules r hr) W2))
  rw [any_not] at K9
  rw [any_not] at K11
  have e10 : (ts.any fun t => !(nameL t.1.name && prefsOK t.1.l)) = !(c.tables.all fun t => nameL t.name && prefsOK t.l) := by
    rw [any_not, ← h.tab, List.all_map]
    rfl
  rw [e10] at K10
  have K12 := Lib.hid (fun W' (h' : ConfIn W' v0 v1 v2 v3 ts c) (hl' : LibOK W') (hc : isC0 c = true) => HP c v0 v1 v2 v3 ts W' h' hf hc hl')
  rw [isC_split]
  rw [prefsB_ok] at K8
  generalize hb8 : prefsOK c.bogons = b8 at K8
  generalize hb9 : c.ifaces.all isI = b9 at K9
  generalize hb10 : (c.tables.all fun t => nameL t.name && prefsOK t.l) = b10 at K10
  generalize hb11 : c.rules.all ruleR = b11 at K11
  obtain ⟨A0, cap0, e0, -, -⟩ := h.ifaces
  obtain ⟨A3, cap3, e3, -, -⟩ := h.rules
  clear e10 h hl
  subst e0 e3
  generalize hcs : confC (.slice A0 c.ifaces.length cap0) v1 v2 (.slice A3 c.rules.length cap3) c = cs at *
  have d0 : cs[0]? = some (.slice A0 c.ifaces.length cap0) := by rw [← hcs]; rfl
  have d1 : cs[1]? = some v1 := by rw [← hcs]; rfl
  have d2 : cs[2]? = some v2 := by rw [← hcs]; rfl
  have d3 : cs[3]? = some (.slice A3 c.rules.length cap3) := by rw [← hcs]; rfl
  have d4 : cs[4]? = some (.int .i64 c.flows) := by rw [← hcs]; rfl
  have d5 : cs[5]? = some (.int .i64 c.errors) := by rw [← hcs]; rfl
  clear hcs
  have HD : Hid (_ ∧ _ ∧ _ ∧ _ ∧ _ ∧ _) := ⟨d0, d1, d2, d3, d4, d5⟩
  have q0 := (cell_of_row _ _ 0 _ _ _ HR.out).trans d0
  have q1 := (cell_of_row _ _ 1 _ _ _ HR.out).trans d1
  have q3 := (cell_of_row _ _ 3 _ _ _ HR.out).trans d3
  have q4 := (cell_of_row _ _ 4 _ _ _ HR.out).trans d4
  have q5 := (cell_of_row _ _ 5 _ _ _ HR.out).trans d5
  clear d0 d1 d2 d3 d4 d5
  by_cases p0 : c.flows < 1
  · have HC := Lib.hid (isC0_not (c := c) (fun h => by have := h.f0; omega))
    go_enter Tryz.func19, Tryz.ntmps19
    go_wp2_with (first
      | ((with_reducible refine Mem.load_row W.heap.size ?_ HR.out Tryz.underlying27 HN.out ?_ ?_); rfl; rfl)
      | (go_at_call 38; (with_reducible refine (K8.out _ HS.out).mono ?_); rintro e w1 ⟨rfl, hb1⟩; have HB := Lib.hid (bstep HB.out hb1 HB.out.size); have HR := row_step HR hb1; have HS := Lib.hid (HS.out.below hb1); have HL := Lib.hid (HL.out.below hb1); have q0 := (cell_of_row _ _ 0 _ _ _ HR.out).trans HD.out.1; have q2 := (cell_of_row _ _ 2 _ _ _ HR.out).trans HD.out.2.2.1; have q3 := (cell_of_row _ _ 3 _ _ _ HR.out).trans HD.out.2.2.2.1; clear hb1)
      | (go_at_call 39; (with_reducible refine (K9.out _ HS.out).mono ?_); rintro e w1 ⟨rfl, hb1⟩; have HB := Lib.hid (bstep HB.out hb1 HB.out.size); have HR := row_step HR hb1; have HS := Lib.hid (HS.out.below hb1); have HL := Lib.hid (HL.out.below hb1); have q0 := (cell_of_row _ _ 0 _ _ _ HR.out).trans HD.out.1; have q2 := (cell_of_row _ _ 2 _ _ _ HR.out).trans HD.out.2.2.1; have q3 := (cell_of_row _ _ 3 _ _ _ HR.out).trans HD.out.2.2.2.1; clear hb1)
      | (go_at_call 42; (with_reducible refine (K10.out _ HS.out).mono ?_); rintro e w1 ⟨rfl, hb1⟩; have HB := Lib.hid (bstep HB.out hb1 HB.out.size); have HR := row_step HR hb1; have HS := Lib.hid (HS.out.below hb1); have HL := Lib.hid (HL.out.below hb1); have q0 := (cell_of_row _ _ 0 _ _ _ HR.out).trans HD.out.1; have q2 := (cell_of_row _ _ 2 _ _ _ HR.out).trans HD.out.2.2.1; have q3 := (cell_of_row _ _ 3 _ _ _ HR.out).trans HD.out.2.2.2.1; clear hb1)
      | (go_at_call 45; (with_reducible refine (K11.out _ HS.out).mono ?_); rintro e w1 ⟨rfl, hb1⟩; have HB := Lib.hid (bstep HB.out hb1 HB.out.size); have HR := row_step HR hb1; have HS := Lib.hid (HS.out.below hb1); have HL := Lib.hid (HL.out.below hb1); have q0 := (cell_of_row _ _ 0 _ _ _ HR.out).trans HD.out.1; have q2 := (cell_of_row _ _ 2 _ _ _ HR.out).trans HD.out.2.2.1; have q3 := (cell_of_row _ _ 3 _ _ _ HR.out).trans HD.out.2.2.2.1; clear hb1)
      | (go_at_call 34; (with_reducible refine (K12.out _ HS.out HL.out HC.out).mono ?_); rintro e w1 ⟨rfl, hb1⟩; have HB := Lib.hid (bstep HB.out hb1 HB.out.size); have HR := row_step HR hb1; have HS := Lib.hid (HS.out.below hb1); have HL := Lib.hid (HL.out.below hb1); have q0 := (cell_of_row _ _ 0 _ _ _ HR.out).trans HD.out.1; have q2 := (cell_of_row _ _ 2 _ _ _ HR.out).trans HD.out.2.2.1; have q3 := (cell_of_row _ _ 3 _ _ _ HR.out).trans HD.out.2.2.2.1; clear hb1))
    go_ret
    exact ⟨by rw [HC.out]; rfl, HB.out⟩
  by_cases p1 : 64 < c.flows
  · have HC := Lib.hid (isC0_not (c := c) (fun h => by have := h.f1; omega))
    go_enter Tryz.func19, Tryz.ntmps19
    go_wp2_with (first
      | ((with_reducible refine Mem.load_row W.heap.size ?_ HR.out Tryz.underlying27 HN.out ?_ ?_); rfl; rfl)
      | (go_at_call 38; (with_reducible refine (K8.out _ HS.out).mono ?_); rintro e w1 ⟨rfl, hb1⟩; have HB := Lib.hid (bstep HB.out hb1 HB.out.size); have HR := row_step HR hb1; have HS := Lib.hid (HS.out.below hb1); have HL := Lib.hid (HL.out.below hb1); have q0 := (cell_of_row _ _ 0 _ _ _ HR.out).trans HD.out.1; have q2 := (cell_of_row _ _ 2 _ _ _ HR.out).trans HD.out.2.2.1; have q3 := (cell_of_row _ _ 3 _ _ _ HR.out).trans HD.out.2.2.2.1; clear hb1)
      | (go_at_call 39; (with_reducible refine (K9.out _ HS.out).mono ?_); rintro e w1 ⟨rfl, hb1⟩; have HB := Lib.hid (bstep HB.out hb1 HB.out.size); have HR := row_step HR hb1; have HS := Lib.hid (HS.out.below hb1); have HL := Lib.hid (HL.out.below hb1); have q0 := (cell_of_row _ _ 0 _ _ _ HR.out).trans HD.out.1; have q2 := (cell_of_row _ _ 2 _ _ _ HR.out).trans HD.out.2.2.1; have q3 := (cell_of_row _ _ 3 _ _ _ HR.out).trans HD.out.2.2.2.1; clear hb1)
      | (go_at_call 42; (with_reducible refine (K10.out _ HS.out).mono ?_); rintro e w1 ⟨rfl, hb1⟩; have HB := Lib.hid (bstep HB.out hb1 HB.out.size); have HR := row_step HR hb1; have HS := Lib.hid (HS.out.below hb1); have HL := Lib.hid (HL.out.below hb1); have q0 := (cell_of_row _ _ 0 _ _ _ HR.out).trans HD.out.1; have q2 := (cell_of_row _ _ 2 _ _ _ HR.out).trans HD.out.2.2.1; have q3 := (cell_of_row _ _ 3 _ _ _ HR.out).trans HD.out.2.2.2.1; clear hb1)
      | (go_at_call 45; (with_reducible refine (K11.out _ HS.out).mono ?_); rintro e w1 ⟨rfl, hb1⟩; have HB := Lib.hid (bstep HB.out hb1 HB.out.size); have HR := row_step HR hb1; have HS := Lib.hid (HS.out.below hb1); have HL := Lib.hid (HL.out.below hb1); have q0 := (cell_of_row _ _ 0 _ _ _ HR.out).trans HD.out.1; have q2 := (cell_of_row _ _ 2 _ _ _ HR.out).trans HD.out.2.2.1; have q3 := (cell_of_row _ _ 3 _ _ _ HR.out).trans HD.out.2.2.2.1; clear hb1)
      | (go_at_call 34; (with_reducible refine (K12.out _ HS.out HL.out HC.out).mono ?_); rintro e w1 ⟨rfl, hb1⟩; have HB := Lib.hid (bstep HB.out hb1 HB.out.size); have HR := row_step HR hb1; have HS := Lib.hid (HS.out.below hb1); have HL := Lib.hid (HL.out.below hb1); have q0 := (cell_of_row _ _ 0 _ _ _ HR.out).trans HD.out.1; have q2 := (cell_of_row _ _ 2 _ _ _ HR.out).trans HD.out.2.2.1; have q3 := (cell_of_row _ _ 3 _ _ _ HR.out).trans HD.out.2.2.2.1; clear hb1))
    go_ret
    exact ⟨by rw [HC.out]; rfl, HB.out⟩
  by_cases p2 : c.errors < 0
  · have HC := Lib.hid (isC0_not (c := c) (fun h => by have := h.e0; omega))
    go_enter Tryz.func19, Tryz.ntmps19
    go_wp2_with (first
      | ((with_reducible refine Mem.load_row W.heap.size ?_ HR.out Tryz.underlying27 HN.out ?_ ?_); rfl; rfl)
      | (go_at_call 38; (with_reducible refine (K8.out _ HS.out).mono ?_); rintro e w1 ⟨rfl, hb1⟩; have HB := Lib.hid (bstep HB.out hb1 HB.out.size); have HR := row_step HR hb1; have HS := Lib.hid (HS.out.below hb1); have HL := Lib.hid (HL.out.below hb1); have q0 := (cell_of_row _ _ 0 _ _ _ HR.out).trans HD.out.1; have q2 := (cell_of_row _ _ 2 _ _ _ HR.out).trans HD.out.2.2.1; have q3 := (cell_of_row _ _ 3 _ _ _ HR.out).trans HD.out.2.2.2.1; clear hb1)
      | (go_at_call 39; (with_reducible refine (K9.out _ HS.out).mono ?_); rintro e w1 ⟨rfl, hb1⟩; have HB := Lib.hid (bstep HB.out hb1 HB.out.size); have HR := row_step HR hb1; have HS := Lib.hid (HS.out.below hb1); have HL := Lib.hid (HL.out.below hb1); have q0 := (cell_of_row _ _ 0 _ _ _ HR.out).trans HD.out.1; have q2 := (cell_of_row _ _ 2 _ _ _ HR.out).trans HD.out.2.2.1; have q3 := (cell_of_row _ _ 3 _ _ _ HR.out).trans HD.out.2.2.2.1; clear hb1)
      | (go_at_call 42; (with_reducible refine (K10.out _ HS.out).mono ?_); rintro e w1 ⟨rfl, hb1⟩; have HB := Lib.hid (bstep HB.out hb1 HB.out.size); have HR := row_step HR hb1; have HS := Lib.hid (HS.out.below hb1); have HL := Lib.hid (HL.out.below hb1); have q0 := (cell_of_row _ _ 0 _ _ _ HR.out).trans HD.out.1; have q2 := (cell_of_row _ _ 2 _ _ _ HR.out).trans HD.out.2.2.1; have q3 := (cell_of_row _ _ 3 _ _ _ HR.out).trans HD.out.2.2.2.1; clear hb1)
      | (go_at_call 45; (with_reducible refine (K11.out _ HS.out).mono ?_); rintro e w1 ⟨rfl, hb1⟩; have HB := Lib.hid (bstep HB.out hb1 HB.out.size); have HR := row_step HR hb1; have HS := Lib.hid (HS.out.below hb1); have HL := Lib.hid (HL.out.below hb1); have q0 := (cell_of_row _ _ 0 _ _ _ HR.out).trans HD.out.1; have q2 := (cell_of_row _ _ 2 _ _ _ HR.out).trans HD.out.2.2.1; have q3 := (cell_of_row _ _ 3 _ _ _ HR.out).trans HD.out.2.2.2.1; clear hb1)
      | (go_at_call 34; (with_reducible refine (K12.out _ HS.out HL.out HC.out).mono ?_); rintro e w1 ⟨rfl, hb1⟩; have HB := Lib.hid (bstep HB.out hb1 HB.out.size); have HR := row_step HR hb1; have HS := Lib.hid (HS.out.below hb1); have HL := Lib.hid (HL.out.below hb1); have q0 := (cell_of_row _ _ 0 _ _ _ HR.out).trans HD.out.1; have q2 := (cell_of_row _ _ 2 _ _ _ HR.out).trans HD.out.2.2.1; have q3 := (cell_of_row _ _ 3 _ _ _ HR.out).trans HD.out.2.2.2.1; clear hb1))
    go_ret
    exact ⟨by rw [HC.out]; rfl, HB.out⟩
  by_cases p3 : 100 < c.errors
  · have HC := Lib.hid (isC0_not (c := c) (fun h => by have := h.e1; omega))
    go_enter Tryz.func19, Tryz.ntmps19
    go_wp2_with (first
      | ((with_reducible refine Mem.load_row W.heap.size ?_ HR.out Tryz.underlying27 HN.out ?_ ?_); rfl; rfl)
      | (go_at_call 38; (with_reducible refine (K8.out _ HS.out).mono ?_); rintro e w1 ⟨rfl, hb1⟩; have HB := Lib.hid (bstep HB.out hb1 HB.out.size); have HR := row_step HR hb1; have HS := Lib.hid (HS.out.below hb1); have HL := Lib.hid (HL.out.below hb1); have q0 := (cell_of_row _ _ 0 _ _ _ HR.out).trans HD.out.1; have q2 := (cell_of_row _ _ 2 _ _ _ HR.out).trans HD.out.2.2.1; have q3 := (cell_of_row _ _ 3 _ _ _ HR.out).trans HD.out.2.2.2.1; clear hb1)
      | (go_at_call 39; (with_reducible refine (K9.out _ HS.out).mono ?_); rintro e w1 ⟨rfl, hb1⟩; have HB := Lib.hid (bstep HB.out hb1 HB.out.size); have HR := row_step HR hb1; have HS := Lib.hid (HS.out.below hb1); have HL := Lib.hid (HL.out.below hb1); have q0 := (cell_of_row _ _ 0 _ _ _ HR.out).trans HD.out.1; have q2 := (cell_of_row _ _ 2 _ _ _ HR.out).trans HD.out.2.2.1; have q3 := (cell_of_row _ _ 3 _ _ _ HR.out).trans HD.out.2.2.2.1; clear hb1)
      | (go_at_call 42; (with_reducible refine (K10.out _ HS.out).mono ?_); rintro e w1 ⟨rfl, hb1⟩; have HB := Lib.hid (bstep HB.out hb1 HB.out.size); have HR := row_step HR hb1; have HS := Lib.hid (HS.out.below hb1); have HL := Lib.hid (HL.out.below hb1); have q0 := (cell_of_row _ _ 0 _ _ _ HR.out).trans HD.out.1; have q2 := (cell_of_row _ _ 2 _ _ _ HR.out).trans HD.out.2.2.1; have q3 := (cell_of_row _ _ 3 _ _ _ HR.out).trans HD.out.2.2.2.1; clear hb1)
      | (go_at_call 45; (with_reducible refine (K11.out _ HS.out).mono ?_); rintro e w1 ⟨rfl, hb1⟩; have HB := Lib.hid (bstep HB.out hb1 HB.out.size); have HR := row_step HR hb1; have HS := Lib.hid (HS.out.below hb1); have HL := Lib.hid (HL.out.below hb1); have q0 := (cell_of_row _ _ 0 _ _ _ HR.out).trans HD.out.1; have q2 := (cell_of_row _ _ 2 _ _ _ HR.out).trans HD.out.2.2.1; have q3 := (cell_of_row _ _ 3 _ _ _ HR.out).trans HD.out.2.2.2.1; clear hb1)
      | (go_at_call 34; (with_reducible refine (K12.out _ HS.out HL.out HC.out).mono ?_); rintro e w1 ⟨rfl, hb1⟩; have HB := Lib.hid (bstep HB.out hb1 HB.out.size); have HR := row_step HR hb1; have HS := Lib.hid (HS.out.below hb1); have HL := Lib.hid (HL.out.below hb1); have q0 := (cell_of_row _ _ 0 _ _ _ HR.out).trans HD.out.1; have q2 := (cell_of_row _ _ 2 _ _ _ HR.out).trans HD.out.2.2.1; have q3 := (cell_of_row _ _ 3 _ _ _ HR.out).trans HD.out.2.2.2.1; clear hb1))
    go_ret
    exact ⟨by rw [HC.out]; rfl, HB.out⟩
  by_cases p4 : (c.ifaces.length : Int) < 1
  · have HC := Lib.hid (isC0_not (c := c) (fun h => by have := h.i0; omega))
    go_enter Tryz.func19, Tryz.ntmps19
    go_wp2_with (first
      | ((with_reducible refine Mem.load_row W.heap.size ?_ HR.out Tryz.underlying27 HN.out ?_ ?_); rfl; rfl)
      | (go_at_call 38; (with_reducible refine (K8.out _ HS.out).mono ?_); rintro e w1 ⟨rfl, hb1⟩; have HB := Lib.hid (bstep HB.out hb1 HB.out.size); have HR := row_step HR hb1; have HS := Lib.hid (HS.out.below hb1); have HL := Lib.hid (HL.out.below hb1); have q0 := (cell_of_row _ _ 0 _ _ _ HR.out).trans HD.out.1; have q2 := (cell_of_row _ _ 2 _ _ _ HR.out).trans HD.out.2.2.1; have q3 := (cell_of_row _ _ 3 _ _ _ HR.out).trans HD.out.2.2.2.1; clear hb1)
      | (go_at_call 39; (with_reducible refine (K9.out _ HS.out).mono ?_); rintro e w1 ⟨rfl, hb1⟩; have HB := Lib.hid (bstep HB.out hb1 HB.out.size); have HR := row_step HR hb1; have HS := Lib.hid (HS.out.below hb1); have HL := Lib.hid (HL.out.below hb1); have q0 := (cell_of_row _ _ 0 _ _ _ HR.out).trans HD.out.1; have q2 := (cell_of_row _ _ 2 _ _ _ HR.out).trans HD.out.2.2.1; have q3 := (cell_of_row _ _ 3 _ _ _ HR.out).trans HD.out.2.2.2.1; clear hb1)
      | (go_at_call 42; (with_reducible refine (K10.out _ HS.out).mono ?_); rintro e w1 ⟨rfl, hb1⟩; have HB := Lib.hid (bstep HB.out hb1 HB.out.size); have HR := row_step HR hb1; have HS := Lib.hid (HS.out.below hb1); have HL := Lib.hid (HL.out.below hb1); have q0 := (cell_of_row _ _ 0 _ _ _ HR.out).trans HD.out.1; have q2 := (cell_of_row _ _ 2 _ _ _ HR.out).trans HD.out.2.2.1; have q3 := (cell_of_row _ _ 3 _ _ _ HR.out).trans HD.out.2.2.2.1; clear hb1)
      | (go_at_call 45; (with_reducible refine (K11.out _ HS.out).mono ?_); rintro e w1 ⟨rfl, hb1⟩; have HB := Lib.hid (bstep HB.out hb1 HB.out.size); have HR := row_step HR hb1; have HS := Lib.hid (HS.out.below hb1); have HL := Lib.hid (HL.out.below hb1); have q0 := (cell_of_row _ _ 0 _ _ _ HR.out).trans HD.out.1; have q2 := (cell_of_row _ _ 2 _ _ _ HR.out).trans HD.out.2.2.1; have q3 := (cell_of_row _ _ 3 _ _ _ HR.out).trans HD.out.2.2.2.1; clear hb1)
      | (go_at_call 34; (with_reducible refine (K12.out _ HS.out HL.out HC.out).mono ?_); rintro e w1 ⟨rfl, hb1⟩; have HB := Lib.hid (bstep HB.out hb1 HB.out.size); have HR := row_step HR hb1; have HS := Lib.hid (HS.out.below hb1); have HL := Lib.hid (HL.out.below hb1); have q0 := (cell_of_row _ _ 0 _ _ _ HR.out).trans HD.out.1; have q2 := (cell_of_row _ _ 2 _ _ _ HR.out).trans HD.out.2.2.1; have q3 := (cell_of_row _ _ 3 _ _ _ HR.out).trans HD.out.2.2.2.1; clear hb1))
    go_ret
    exact ⟨by rw [HC.out]; rfl, HB.out⟩
  by_cases p5 : 8 < (c.ifaces.length : Int)
  · have HC := Lib.hid (isC0_not (c := c) (fun h => by have := h.i1; omega))
    go_enter Tryz.func19, Tryz.ntmps19
    go_wp2_with (first
      | ((with_reducible refine Mem.load_row W.heap.size ?_ HR.out Tryz.underlying27 HN.out ?_ ?_); rfl; rfl)
      | (go_at_call 38; (with_reducible refine (K8.out _ HS.out).mono ?_); rintro e w1 ⟨rfl, hb1⟩; have HB := Lib.hid (bstep HB.out hb1 HB.out.size); have HR := row_step HR hb1; have HS := Lib.hid (HS.out.below hb1); have HL := Lib.hid (HL.out.below hb1); have q0 := (cell_of_row _ _ 0 _ _ _ HR.out).trans HD.out.1; have q2 := (cell_of_row _ _ 2 _ _ _ HR.out).trans HD.out.2.2.1; have q3 := (cell_of_row _ _ 3 _ _ _ HR.out).trans HD.out.2.2.2.1; clear hb1)
      | (go_at_call 39; (with_reducible refine (K9.out _ HS.out).mono ?_); rintro e w1 ⟨rfl, hb1⟩; have HB := Lib.hid (bstep HB.out hb1 HB.out.size); have HR := row_step HR hb1; have HS := Lib.hid (HS.out.below hb1); have HL := Lib.hid (HL.out.below hb1); have q0 := (cell_of_row _ _ 0 _ _ _ HR.out).trans HD.out.1; have q2 := (cell_of_row _ _ 2 _ _ _ HR.out).trans HD.out.2.2.1; have q3 := (cell_of_row _ _ 3 _ _ _ HR.out).trans HD.out.2.2.2.1; clear hb1)
      | (go_at_call 42; (with_reducible refine (K10.out _ HS.out).mono ?_); rintro e w1 ⟨rfl, hb1⟩; have HB := Lib.hid (bstep HB.out hb1 HB.out.size); have HR := row_step HR hb1; have HS := Lib.hid (HS.out.below hb1); have HL := Lib.hid (HL.out.below hb1); have q0 := (cell_of_row _ _ 0 _ _ _ HR.out).trans HD.out.1; have q2 := (cell_of_row _ _ 2 _ _ _ HR.out).trans HD.out.2.2.1; have q3 := (cell_of_row _ _ 3 _ _ _ HR.out).trans HD.out.2.2.2.1; clear hb1)
      | (go_at_call 45; (with_reducible refine (K11.out _ HS.out).mono ?_); rintro e w1 ⟨rfl, hb1⟩; have HB := Lib.hid (bstep HB.out hb1 HB.out.size); have HR := row_step HR hb1; have HS := Lib.hid (HS.out.below hb1); have HL := Lib.hid (HL.out.below hb1); have q0 := (cell_of_row _ _ 0 _ _ _ HR.out).trans HD.out.1; have q2 := (cell_of_row _ _ 2 _ _ _ HR.out).trans HD.out.2.2.1; have q3 := (cell_of_row _ _ 3 _ _ _ HR.out).trans HD.out.2.2.2.1; clear hb1)
      | (go_at_call 34; (with_reducible refine (K12.out _ HS.out HL.out HC.out).mono ?_); rintro e w1 ⟨rfl, hb1⟩; have HB := Lib.hid (bstep HB.out hb1 HB.out.size); have HR := row_step HR hb1; have HS := Lib.hid (HS.out.below hb1); have HL := Lib.hid (HL.out.below hb1); have q0 := (cell_of_row _ _ 0 _ _ _ HR.out).trans HD.out.1; have q2 := (cell_of_row _ _ 2 _ _ _ HR.out).trans HD.out.2.2.1; have q3 := (cell_of_row _ _ 3 _ _ _ HR.out).trans HD.out.2.2.2.1; clear hb1))
    go_ret
    exact ⟨by rw [HC.out]; rfl, HB.out⟩
  by_cases p6 : 64 < (c.rules.length : Int)
  · have HC := Lib.hid (isC0_not (c := c) (fun h => by have := h.nr; omega))
    go_enter Tryz.func19, Tryz.ntmps19
    go_wp2_with (first
      | ((with_reducible refine Mem.load_row W.heap.size ?_ HR.out Tryz.underlying27 HN.out ?_ ?_); rfl; rfl)
      | (go_at_call 38; (with_reducible refine (K8.out _ HS.out).mono ?_); rintro e w1 ⟨rfl, hb1⟩; have HB := Lib.hid (bstep HB.out hb1 HB.out.size); have HR := row_step HR hb1; have HS := Lib.hid (HS.out.below hb1); have HL := Lib.hid (HL.out.below hb1); have q0 := (cell_of_row _ _ 0 _ _ _ HR.out).trans HD.out.1; have q2 := (cell_of_row _ _ 2 _ _ _ HR.out).trans HD.out.2.2.1; have q3 := (cell_of_row _ _ 3 _ _ _ HR.out).trans HD.out.2.2.2.1; clear hb1)
      | (go_at_call 39; (with_reducible refine (K9.out _ HS.out).mono ?_); rintro e w1 ⟨rfl, hb1⟩; have HB := Lib.hid (bstep HB.out hb1 HB.out.size); have HR := row_step HR hb1; have HS := Lib.hid (HS.out.below hb1); have HL := Lib.hid (HL.out.below hb1); have q0 := (cell_of_row _ _ 0 _ _ _ HR.out).trans HD.out.1; have q2 := (cell_of_row _ _ 2 _ _ _ HR.out).trans HD.out.2.2.1; have q3 := (cell_of_row _ _ 3 _ _ _ HR.out).trans HD.out.2.2.2.1; clear hb1)
      | (go_at_call 42; (with_reducible refine (K10.out _ HS.out).mono ?_); rintro e w1 ⟨rfl, hb1⟩; have HB := Lib.hid (bstep HB.out hb1 HB.out.size); have HR := row_step HR hb1; have HS := Lib.hid (HS.out.below hb1); have HL := Lib.hid (HL.out.below hb1); have q0 := (cell_of_row _ _ 0 _ _ _ HR.out).trans HD.out.1; have q2 := (cell_of_row _ _ 2 _ _ _ HR.out).trans HD.out.2.2.1; have q3 := (cell_of_row _ _ 3 _ _ _ HR.out).trans HD.out.2.2.2.1; clear hb1)
      | (go_at_call 45; (with_reducible refine (K11.out _ HS.out).mono ?_); rintro e w1 ⟨rfl, hb1⟩; have HB := Lib.hid (bstep HB.out hb1 HB.out.size); have HR := row_step HR hb1; have HS := Lib.hid (HS.out.below hb1); have HL := Lib.hid (HL.out.below hb1); have q0 := (cell_of_row _ _ 0 _ _ _ HR.out).trans HD.out.1; have q2 := (cell_of_row _ _ 2 _ _ _ HR.out).trans HD.out.2.2.1; have q3 := (cell_of_row _ _ 3 _ _ _ HR.out).trans HD.out.2.2.2.1; clear hb1)
      | (go_at_call 34; (with_reducible refine (K12.out _ HS.out HL.out HC.out).mono ?_); rintro e w1 ⟨rfl, hb1⟩; have HB := Lib.hid (bstep HB.out hb1 HB.out.size); have HR := row_step HR hb1; have HS := Lib.hid (HS.out.below hb1); have HL := Lib.hid (HL.out.below hb1); have q0 := (cell_of_row _ _ 0 _ _ _ HR.out).trans HD.out.1; have q2 := (cell_of_row _ _ 2 _ _ _ HR.out).trans HD.out.2.2.1; have q3 := (cell_of_row _ _ 3 _ _ _ HR.out).trans HD.out.2.2.2.1; clear hb1))
    go_ret
    exact ⟨by rw [HC.out]; rfl, HB.out⟩
  cases b8 with
  | false =>
    have HC := Lib.hid (isC0_not (c := c) (fun h => by have := h.bogons; rw [hb8] at this; cases this))
    go_enter Tryz.func19, Tryz.ntmps19
    go_wp2_with (first
      | ((with_reducible refine Mem.load_row W.heap.size ?_ HR.out Tryz.underlying27 HN.out ?_ ?_); rfl; rfl)
      | (go_at_call 38; (with_reducible refine (K8.out _ HS.out).mono ?_); rintro e w1 ⟨rfl, hb1⟩; have HB := Lib.hid (bstep HB.out hb1 HB.out.size); have HR := row_step HR hb1; have HS := Lib.hid (HS.out.below hb1); have HL := Lib.hid (HL.out.below hb1); have q0 := (cell_of_row _ _ 0 _ _ _ HR.out).trans HD.out.1; have q2 := (cell_of_row _ _ 2 _ _ _ HR.out).trans HD.out.2.2.1; have q3 := (cell_of_row _ _ 3 _ _ _ HR.out).trans HD.out.2.2.2.1; clear hb1)
      | (go_at_call 39; (with_reducible refine (K9.out _ HS.out).mono ?_); rintro e w1 ⟨rfl, hb1⟩; have HB := Lib.hid (bstep HB.out hb1 HB.out.size); have HR := row_step HR hb1; have HS := Lib.hid (HS.out.below hb1); have HL := Lib.hid (HL.out.below hb1); have q0 := (cell_of_row _ _ 0 _ _ _ HR.out).trans HD.out.1; have q2 := (cell_of_row _ _ 2 _ _ _ HR.out).trans HD.out.2.2.1; have q3 := (cell_of_row _ _ 3 _ _ _ HR.out).trans HD.out.2.2.2.1; clear hb1)
      | (go_at_call 42; (with_reducible refine (K10.out _ HS.out).mono ?_); rintro e w1 ⟨rfl, hb1⟩; have HB := Lib.hid (bstep HB.out hb1 HB.out.size); have HR := row_step HR hb1; have HS := Lib.hid (HS.out.below hb1); have HL := Lib.hid (HL.out.below hb1); have q0 := (cell_of_row _ _ 0 _ _ _ HR.out).trans HD.out.1; have q2 := (cell_of_row _ _ 2 _ _ _ HR.out).trans HD.out.2.2.1; have q3 := (cell_of_row _ _ 3 _ _ _ HR.out).trans HD.out.2.2.2.1; clear hb1)
      | (go_at_call 45; (with_reducible refine (K11.out _ HS.out).mono ?_); rintro e w1 ⟨rfl, hb1⟩; have HB := Lib.hid (bstep HB.out hb1 HB.out.size); have HR := row_step HR hb1; have HS := Lib.hid (HS.out.below hb1); have HL := Lib.hid (HL.out.below hb1); have q0 := (cell_of_row _ _ 0 _ _ _ HR.out).trans HD.out.1; have q2 := (cell_of_row _ _ 2 _ _ _ HR.out).trans HD.out.2.2.1; have q3 := (cell_of_row _ _ 3 _ _ _ HR.out).trans HD.out.2.2.2.1; clear hb1)
      | (go_at_call 34; (with_reducible refine (K12.out _ HS.out HL.out HC.out).mono ?_); rintro e w1 ⟨rfl, hb1⟩; have HB := Lib.hid (bstep HB.out hb1 HB.out.size); have HR := row_step HR hb1; have HS := Lib.hid (HS.out.below hb1); have HL := Lib.hid (HL.out.below hb1); have q0 := (cell_of_row _ _ 0 _ _ _ HR.out).trans HD.out.1; have q2 := (cell_of_row _ _ 2 _ _ _ HR.out).trans HD.out.2.2.1; have q3 := (cell_of_row _ _ 3 _ _ _ HR.out).trans HD.out.2.2.2.1; clear hb1))
    go_ret
    exact ⟨by rw [HC.out]; rfl, HB.out⟩
  | true =>
  cases b9 with
  | false =>
    have HC := Lib.hid (isC0_not (c := c) (fun h => by have := h.ifaces; rw [hb9] at this; cases this))
    go_enter Tryz.func19, Tryz.ntmps19
    go_wp2_with (first
      | ((with_reducible refine Mem.load_row W.heap.size ?_ HR.out Tryz.underlying27 HN.out ?_ ?_); rfl; rfl)
      | (go_at_call 38; (with_reducible refine (K8.out _ HS.out).mono ?_); rintro e w1 ⟨rfl, hb1⟩; have HB := Lib.hid (bstep HB.out hb1 HB.out.size); have HR := row_step HR hb1; have HS := Lib.hid (HS.out.below hb1); have HL := Lib.hid (HL.out.below hb1); have q0 := (cell_of_row _ _ 0 _ _ _ HR.out).trans HD.out.1; have q2 := (cell_of_row _ _ 2 _ _ _ HR.out).trans HD.out.2.2.1; have q3 := (cell_of_row _ _ 3 _ _ _ HR.out).trans HD.out.2.2.2.1; clear hb1)
      | (go_at_call 39; (with_reducible refine (K9.out _ HS.out).mono ?_); rintro e w1 ⟨rfl, hb1⟩; have HB := Lib.hid (bstep HB.out hb1 HB.out.size); have HR := row_step HR hb1; have HS := Lib.hid (HS.out.below hb1); have HL := Lib.hid (HL.out.below hb1); have q0 := (cell_of_row _ _ 0 _ _ _ HR.out).trans HD.out.1; have q2 := (cell_of_row _ _ 2 _ _ _ HR.out).trans HD.out.2.2.1; have q3 := (cell_of_row _ _ 3 _ _ _ HR.out).trans HD.out.2.2.2.1; clear hb1)
      | (go_at_call 42; (with_reducible refine (K10.out _ HS.out).mono ?_); rintro e w1 ⟨rfl, hb1⟩; have HB := Lib.hid (bstep HB.out hb1 HB.out.size); have HR := row_step HR hb1; have HS := Lib.hid (HS.out.below hb1); have HL := Lib.hid (HL.out.below hb1); have q0 := (cell_of_row _ _ 0 _ _ _ HR.out).trans HD.out.1; have q2 := (cell_of_row _ _ 2 _ _ _ HR.out).trans HD.out.2.2.1; have q3 := (cell_of_row _ _ 3 _ _ _ HR.out).trans HD.out.2.2.2.1; clear hb1)
      | (go_at_call 45; (with_reducible refine (K11.out _ HS.out).mono ?_); rintro e w1 ⟨rfl, hb1⟩; have HB := Lib.hid (bstep HB.out hb1 HB.out.size); have HR := row_step HR hb1; have HS := Lib.hid (HS.out.below hb1); have HL := Lib.hid (HL.out.below hb1); have q0 := (cell_of_row _ _ 0 _ _ _ HR.out).trans HD.out.1; have q2 := (cell_of_row _ _ 2 _ _ _ HR.out).trans HD.out.2.2.1; have q3 := (cell_of_row _ _ 3 _ _ _ HR.out).trans HD.out.2.2.2.1; clear hb1)
      | (go_at_call 34; (with_reducible refine (K12.out _ HS.out HL.out HC.out).mono ?_); rintro e w1 ⟨rfl, hb1⟩; have HB := Lib.hid (bstep HB.out hb1 HB.out.size); have HR := row_step HR hb1; have HS := Lib.hid (HS.out.below hb1); have HL := Lib.hid (HL.out.below hb1); have q0 := (cell_of_row _ _ 0 _ _ _ HR.out).trans HD.out.1; have q2 := (cell_of_row _ _ 2 _ _ _ HR.out).trans HD.out.2.2.1; have q3 := (cell_of_row _ _ 3 _ _ _ HR.out).trans HD.out.2.2.2.1; clear hb1))
    go_ret
    exact ⟨by rw [HC.out]; rfl, HB.out⟩
  | true =>
  cases b10 with
  | false =>
    have HC := Lib.hid (isC0_not (c := c) (fun h => by have := h.tables; rw [hb10] at this; cases this))
    go_enter Tryz.func19, Tryz.ntmps19
    go_wp2_with (first
      | ((with_reducible refine Mem.load_row W.heap.size ?_ HR.out Tryz.underlying27 HN.out ?_ ?_); rfl; rfl)
      | (go_at_call 38; (with_reducible refine (K8.out _ HS.out).mono ?_); rintro e w1 ⟨rfl, hb1⟩; have HB := Lib.hid (bstep HB.out hb1 HB.out.size); have HR := row_step HR hb1; have HS := Lib.hid (HS.out.below hb1); have HL := Lib.hid (HL.out.below hb1); have q0 := (cell_of_row _ _ 0 _ _ _ HR.out).trans HD.out.1; have q2 := (cell_of_row _ _ 2 _ _ _ HR.out).trans HD.out.2.2.1; have q3 := (cell_of_row _ _ 3 _ _ _ HR.out).trans HD.out.2.2.2.1; clear hb1)
      | (go_at_call 39; (with_reducible refine (K9.out _ HS.out).mono ?_); rintro e w1 ⟨rfl, hb1⟩; have HB := Lib.hid (bstep HB.out hb1 HB.out.size); have HR := row_step HR hb1; have HS := Lib.hid (HS.out.below hb1); have HL := Lib.hid (HL.out.below hb1); have q0 := (cell_of_row _ _ 0 _ _ _ HR.out).trans HD.out.1; have q2 := (cell_of_row _ _ 2 _ _ _ HR.out).trans HD.out.2.2.1; have q3 := (cell_of_row _ _ 3 _ _ _ HR.out).trans HD.out.2.2.2.1; clear hb1)
      | (go_at_call 42; (with_reducible refine (K10.out _ HS.out).mono ?_); rintro e w1 ⟨rfl, hb1⟩; have HB := Lib.hid (bstep HB.out hb1 HB.out.size); have HR := row_step HR hb1; have HS := Lib.hid (HS.out.below hb1); have HL := Lib.hid (HL.out.below hb1); have q0 := (cell_of_row _ _ 0 _ _ _ HR.out).trans HD.out.1; have q2 := (cell_of_row _ _ 2 _ _ _ HR.out).trans HD.out.2.2.1; have q3 := (cell_of_row _ _ 3 _ _ _ HR.out).trans HD.out.2.2.2.1; clear hb1)
      | (go_at_call 45; (with_reducible refine (K11.out _ HS.out).mono ?_); rintro e w1 ⟨rfl, hb1⟩; have HB := Lib.hid (bstep HB.out hb1 HB.out.size); have HR := row_step HR hb1; have HS := Lib.hid (HS.out.below hb1); have HL := Lib.hid (HL.out.below hb1); have q0 := (cell_of_row _ _ 0 _ _ _ HR.out).trans HD.out.1; have q2 := (cell_of_row _ _ 2 _ _ _ HR.out).trans HD.out.2.2.1; have q3 := (cell_of_row _ _ 3 _ _ _ HR.out).trans HD.out.2.2.2.1; clear hb1)
      | (go_at_call 34; (with_reducible refine (K12.out _ HS.out HL.out HC.out).mono ?_); rintro e w1 ⟨rfl, hb1⟩; have HB := Lib.hid (bstep HB.out hb1 HB.out.size); have HR := row_step HR hb1; have HS := Lib.hid (HS.out.below hb1); have HL := Lib.hid (HL.out.below hb1); have q0 := (cell_of_row _ _ 0 _ _ _ HR.out).trans HD.out.1; have q2 := (cell_of_row _ _ 2 _ _ _ HR.out).trans HD.out.2.2.1; have q3 := (cell_of_row _ _ 3 _ _ _ HR.out).trans HD.out.2.2.2.1; clear hb1))
    go_ret
    exact ⟨by rw [HC.out]; rfl, HB.out⟩
  | true =>
  cases b11 with
  | false =>
    have HC := Lib.hid (isC0_not (c := c) (fun h => by have := h.rules; rw [hb11] at this; cases this))
    go_enter Tryz.func19, Tryz.ntmps19
    go_wp2_with (first
      | ((with_reducible refine Mem.load_row W.heap.size ?_ HR.out Tryz.underlying27 HN.out ?_ ?_); rfl; rfl)
      | (go_at_call 38; (with_reducible refine (K8.out _ HS.out).mono ?_); rintro e w1 ⟨rfl, hb1⟩; have HB := Lib.hid (bstep HB.out hb1 HB.out.size); have HR := row_step HR hb1; have HS := Lib.hid (HS.out.below hb1); have HL := Lib.hid (HL.out.below hb1); have q0 := (cell_of_row _ _ 0 _ _ _ HR.out).trans HD.out.1; have q2 := (cell_of_row _ _ 2 _ _ _ HR.out).trans HD.out.2.2.1; have q3 := (cell_of_row _ _ 3 _ _ _ HR.out).trans HD.out.2.2.2.1; clear hb1)
      | (go_at_call 39; (with_reducible refine (K9.out _ HS.out).mono ?_); rintro e w1 ⟨rfl, hb1⟩; have HB := Lib.hid (bstep HB.out hb1 HB.out.size); have HR := row_step HR hb1; have HS := Lib.hid (HS.out.below hb1); have HL := Lib.hid (HL.out.below hb1); have q0 := (cell_of_row _ _ 0 _ _ _ HR.out).trans HD.out.1; have q2 := (cell_of_row _ _ 2 _ _ _ HR.out).trans HD.out.2.2.1; have q3 := (cell_of_row _ _ 3 _ _ _ HR.out).trans HD.out.2.2.2.1; clear hb1)
      | (go_at_call 42; (with_reducible refine (K10.out _ HS.out).mono ?_); rintro e w1 ⟨rfl, hb1⟩; have HB := Lib.hid (bstep HB.out hb1 HB.out.size); have HR := row_step HR hb1; have HS := Lib.hid (HS.out.below hb1); have HL := Lib.hid (HL.out.below hb1); have q0 := (cell_of_row _ _ 0 _ _ _ HR.out).trans HD.out.1; have q2 := (cell_of_row _ _ 2 _ _ _ HR.out).trans HD.out.2.2.1; have q3 := (cell_of_row _ _ 3 _ _ _ HR.out).trans HD.out.2.2.2.1; clear hb1)
      | (go_at_call 45; (with_reducible refine (K11.out _ HS.out).mono ?_); rintro e w1 ⟨rfl, hb1⟩; have HB := Lib.hid (bstep HB.out hb1 HB.out.size); have HR := row_step HR hb1; have HS := Lib.hid (HS.out.below hb1); have HL := Lib.hid (HL.out.below hb1); have q0 := (cell_of_row _ _ 0 _ _ _ HR.out).trans HD.out.1; have q2 := (cell_of_row _ _ 2 _ _ _ HR.out).trans HD.out.2.2.1; have q3 := (cell_of_row _ _ 3 _ _ _ HR.out).trans HD.out.2.2.2.1; clear hb1)
      | (go_at_call 34; (with_reducible refine (K12.out _ HS.out HL.out HC.out).mono ?_); rintro e w1 ⟨rfl, hb1⟩; have HB := Lib.hid (bstep HB.out hb1 HB.out.size); have HR := row_step HR hb1; have HS := Lib.hid (HS.out.below hb1); have HL := Lib.hid (HL.out.below hb1); have q0 := (cell_of_row _ _ 0 _ _ _ HR.out).trans HD.out.1; have q2 := (cell_of_row _ _ 2 _ _ _ HR.out).trans HD.out.2.2.1; have q3 := (cell_of_row _ _ 3 _ _ _ HR.out).trans HD.out.2.2.2.1; clear hb1))
    go_ret
    exact ⟨by rw [HC.out]; rfl, HB.out⟩
  | true =>
  have HC := Lib.hid (isC0_of c ⟨by omega, by omega, by omega, by omega, by omega, by omega, by omega, hb8, hb9, hb10, hb11⟩)
  have HT := Lib.hid (show decide (((textC c).toArray.size : Int) ≤ 8192) = (isC0 c && decide ((textC c).length ≤ 8192)) by rw [HC.out, Bool.true_and, List.size_toArray, decide_eq_decide]; omega)
  go_enter Tryz.func19, Tryz.ntmps19
  go_wp2_with (first
    | ((with_reducible refine Mem.load_row W.heap.size ?_ HR.out Tryz.underlying27 HN.out ?_ ?_); rfl; rfl)
    | (go_at_call 38; (with_reducible refine (K8.out _ HS.out).mono ?_); rintro e w1 ⟨rfl, hb1⟩; have HB := Lib.hid (bstep HB.out hb1 HB.out.size); have HR := row_step HR hb1; have HS := Lib.hid (HS.out.below hb1); have HL := Lib.hid (HL.out.below hb1); have q0 := (cell_of_row _ _ 0 _ _ _ HR.out).trans HD.out.1; have q2 := (cell_of_row _ _ 2 _ _ _ HR.out).trans HD.out.2.2.1; have q3 := (cell_of_row _ _ 3 _ _ _ HR.out).trans HD.out.2.2.2.1; clear hb1)
    | (go_at_call 39; (with_reducible refine (K9.out _ HS.out).mono ?_); rintro e w1 ⟨rfl, hb1⟩; have HB := Lib.hid (bstep HB.out hb1 HB.out.size); have HR := row_step HR hb1; have HS := Lib.hid (HS.out.below hb1); have HL := Lib.hid (HL.out.below hb1); have q0 := (cell_of_row _ _ 0 _ _ _ HR.out).trans HD.out.1; have q2 := (cell_of_row _ _ 2 _ _ _ HR.out).trans HD.out.2.2.1; have q3 := (cell_of_row _ _ 3 _ _ _ HR.out).trans HD.out.2.2.2.1; clear hb1)
    | (go_at_call 42; (with_reducible refine (K10.out _ HS.out).mono ?_); rintro e w1 ⟨rfl, hb1⟩; have HB := Lib.hid (bstep HB.out hb1 HB.out.size); have HR := row_step HR hb1; have HS := Lib.hid (HS.out.below hb1); have HL := Lib.hid (HL.out.below hb1); have q0 := (cell_of_row _ _ 0 _ _ _ HR.out).trans HD.out.1; have q2 := (cell_of_row _ _ 2 _ _ _ HR.out).trans HD.out.2.2.1; have q3 := (cell_of_row _ _ 3 _ _ _ HR.out).trans HD.out.2.2.2.1; clear hb1)
    | (go_at_call 45; (with_reducible refine (K11.out _ HS.out).mono ?_); rintro e w1 ⟨rfl, hb1⟩; have HB := Lib.hid (bstep HB.out hb1 HB.out.size); have HR := row_step HR hb1; have HS := Lib.hid (HS.out.below hb1); have HL := Lib.hid (HL.out.below hb1); have q0 := (cell_of_row _ _ 0 _ _ _ HR.out).trans HD.out.1; have q2 := (cell_of_row _ _ 2 _ _ _ HR.out).trans HD.out.2.2.1; have q3 := (cell_of_row _ _ 3 _ _ _ HR.out).trans HD.out.2.2.2.1; clear hb1)
    | (go_at_call 34; (with_reducible refine (K12.out _ HS.out HL.out HC.out).mono ?_); rintro e w1 ⟨rfl, hb1⟩; have HB := Lib.hid (bstep HB.out hb1 HB.out.size); have HR := row_step HR hb1; have HS := Lib.hid (HS.out.below hb1); have HL := Lib.hid (HL.out.below hb1); have q0 := (cell_of_row _ _ 0 _ _ _ HR.out).trans HD.out.1; have q2 := (cell_of_row _ _ 2 _ _ _ HR.out).trans HD.out.2.2.1; have q3 := (cell_of_row _ _ 3 _ _ _ HR.out).trans HD.out.2.2.2.1; clear hb1))
  go_ret
  exact ⟨by rw [← HT.out]; rfl, HB.out⟩
set_option maxRecDepth 20000 in
theorem print_conf (HI : IsIfaceSaid) (HP : PrintedSaid) (c : ConfM) (v0 v1 v2 v3 : Value) (ts : List (NamedM × Value)) (W : World) (h : ConfIn W v0 v1 v2 v3 ts c) (hf : FitC c) (hl : LibOK W) :
    Calls Tryz.prog 15 #[.agg (confC v0 v1 v2 v3 c)] W fun e w' => e = .returned (.string ⟨(if isC c then textC c else []).toArray⟩) ∧ Below W.heap.size W w' := by
  have HB := Lib.hid (bnew W (.cells (confC v0 v1 v2 v3 c) 27))
  have HR := Lib.hid (heap_alloc_new W (.cells (confC v0 v1 v2 v3 c) 27))
  have HL := Lib.hid (hl.below HB.out)
  have HS := Lib.hid (h.below HB.out)
  have HN := Lib.hid (info6 v0 v1 v2 v3 c)
  have K1 := Lib.hid (fun W' (h' : ConfIn W' v0 v1 v2 v3 ts c) (hl' : LibOK W') => is_conf HI HP c v0 v1 v2 v3 ts W' h' hf hl')
  have K2 := Lib.hid (fun W' (h' : ConfIn W' v0 v1 v2 v3 ts c) (hl' : LibOK W') (hc : isC0 c = true) => HP c v0 v1 v2 v3 ts W' h' hf hc hl')
  have HC : isC c = true → isC0 c = true := fun h => by rw [isC_split] at h; simp only [Bool.and_eq_true] at h; exact h.1
  generalize confC v0 v1 v2 v3 c = cs at *
  clear h hl
  cases hq : isC c
  all_goals
    rw [hq] at K1 HC
    have HC := Lib.hid HC
    go_enter Tryz.func15, Tryz.ntmps15
    go_wp2_with (first
      | ((with_reducible refine Mem.load_row W.heap.size ?_ HR.out Tryz.underlying27 HN.out ?_ ?_); rfl; rfl)
      | (go_at_call 19; (with_reducible refine (K1.out _ HS.out HL.out).mono ?_); rintro e w1 ⟨rfl, hb1⟩; have HB := Lib.hid (bstep HB.out hb1 HB.out.size); have HR := row_step HR hb1; have HS := Lib.hid (HS.out.below hb1); have HL := Lib.hid (HL.out.below hb1); clear hb1)
      | (go_at_call 34; (with_reducible refine (K2.out _ HS.out HL.out (HC.out (by trivial))).mono ?_); rintro e w1 ⟨rfl, hb1⟩; have HB := Lib.hid (bstep HB.out hb1 HB.out.size); clear hb1))
    go_ret
    exact ⟨rfl, HB.out⟩
end Go.Proofs.YtnmbbnhgoedjgaaGreatDoor.Cg2

namespace Go.Proofs.YtnmbbnhgoedjgaaGreatDoor.Cg8
open Go Go.RowKit Go.Proofs.YtnmbbnhgoedjgaaGreatDoor.Ru0 Go.Proofs.YtnmbbnhgoedjgaaGreatDoor.Ru6 Go.Proofs.YtnmbbnhgoedjgaaGreatDoor.Cf0 Go.Proofs.YtnmbbnhgoedjgaaGreatDoor.Cf4
set_option linter.unusedVariables false
set_option linter.unusedSimpArgs false
theorem find_hit {α : Type} (p : α → Bool) (l : List α) (k : Nat) (x : α) (hx : l[k]? = some x) (hp : p x = true) (hn : ∀ j y, j < k → l[j]? = some y → p y = false) : l.find? p = some x := by
  rw [List.find?_eq_some_iff_getElem]
  have hk := (List.getElem?_eq_some_iff.1 hx)
  refine ⟨hp, k, hk.1, hk.2, fun j hj => ?_⟩
  have hjl : j < l.length := by have := hk.1; omega
  have := hn j (l[j]'hjl) hj (List.getElem?_eq_getElem hjl)
  simp [this]
theorem find_miss {α : Type} (p : α → Bool) (l : List α) (hn : ∀ j y, j < l.length → l[j]? = some y → p y = false) : l.find? p = none := by
  rw [List.find?_eq_none]
  intro x hx
  obtain ⟨j, hj, rfl⟩ := List.mem_iff_getElem.1 hx
  rw [hn j _ hj (List.getElem?_eq_getElem hj)]
  decide
theorem twice_step : ∀ (pre l : List Wd) (x : Wd) (t : List Wd), l = x :: t → twiceL pre l = if pre.contains x then some x else twiceL (pre ++ [x]) t := by
  rintro pre l x t rfl
  rfl
theorem twice_at (l : List Wd) (k : Nat) (x : Wd) (hx : l[k]? = some x) : twiceL (l.take k) (l.drop k) = if (l.take k).contains x then some x else twiceL (l.take (k + 1)) (l.drop (k + 1)) := by
  have hk := (List.getElem?_eq_some_iff.1 hx)
  have e : l.drop k = x :: l.drop (k + 1) := by rw [← hk.2, ← List.drop_eq_getElem_cons]
  rw [twice_step (l.take k) (l.drop k) x (l.drop (k + 1)) e, List.take_add_one, hx]
  rfl
theorem strs_inj {a b : Wd} (h : (⟨a.toArray⟩ : ByteArray) = ⟨b.toArray⟩) : a = b := by
  have := congrArg (fun x => x.data.toList) h
  simpa using this
theorem contains_strs (l : List Wd) (x : Wd) : Lib.containsS (l.map fun w => ⟨w.toArray⟩) ⟨x.toArray⟩ = l.contains x := by
  rw [Bool.eq_iff_iff, Lib.containsS_iff, List.contains_iff_mem, List.mem_map]
  constructor
  · rintro ⟨a, ha, e⟩
    rw [← strs_inj e]
    exact ha
  · intro h
    exact ⟨x, h, rfl⟩
/-- What a search for a name answers. -/
def foundV (x : Option Wd) : Value := .tuple #[.string ⟨(x.getD []).toArray⟩, .bool x.isSome]
set_option maxHeartbeats 1000000 in
theorem twice_any (l : List Wd) (hn : l.length ≤ 140737488355328) (v : Value) (W : World) (h : Sl W v l.length (l.map fun w => .string ⟨w.toArray⟩)) :
    Calls Tryz.prog 35 #[v] W fun e w' => e = .returned (foundV (twiceL [] l)) ∧ w' = W := by
  obtain ⟨A, cap, rfl, hcap, h⟩ := h
  have hn63 : (l.length : Int) ≤ 140737488355328 := by omega
  go_enter Tryz.func35, Tryz.ntmps35
  go_wp2_with fail
  go_loop [8] (fun s8 => ∃ k : Nat, k ≤ l.length ∧ s8 = .int .i64 k ∧ twiceL [] l = twiceL (l.take k) (l.drop k)) (fun s8 => l.length - (intOf s8).toNat)
  case atStart => exact ⟨0, by omega, rfl, rfl⟩
  case round =>
    obtain ⟨k, hkl, rfl, hq⟩ := hrel
    have HQ := Lib.hid hq
    clear hq
    by_cases hlt : k < l.length
    · have hlt' : (k : Int) < l.length := by omega
      obtain ⟨x, hx⟩ : ∃ x, l[k]? = some x := ⟨_, List.getElem?_eq_getElem hlt⟩
      rcases h with ⟨h0, _⟩ | ⟨b, o, rfl, hbk, hr⟩
      · omega
      have HT := Lib.hid (twice_at l k x hx)
      have c0 : W.cell? ⟨b, o + k, none⟩ = some (.string ⟨x.toArray⟩) := hr k _ (by rw [List.getElem?_map, hx]; rfl)
      have KC := Tryz.slices_Contains_string b o k cap (l.map fun w => ⟨w.toArray⟩) ⟨x.toArray⟩ W (by rw [List.length_map]; omega) (by omega) (fun j hj => by
        rw [List.length_map] at hj
        refine hr j _ ?_
        rw [List.getElem?_map, List.getElem?_eq_getElem hj, List.getD_eq_getElem?_getD, List.getElem?_map, List.getElem?_eq_getElem hj]
        rfl)
      rw [← List.map_take, contains_strs] at KC
      have KC := Lib.hid KC
      have hkc : (k : Int) ≤ cap := by omega
      cases hc : (l.take k).contains x with
      | true =>
        rw [hc] at KC
        have HF := Lib.hid (show twiceL [] l = some x by rw [HQ.out, HT.out, hc]; rfl)
        clear hr hc hx
        go_wp2_with (go_at_call 80; refine KC.out.mono ?_; rintro e w1 ⟨rfl, rfl⟩)
        go_ret2
        exact ⟨by rw [HF.out]; rfl, rfl⟩
      | false =>
        rw [hc] at KC
        have HF := Lib.hid (show twiceL [] l = twiceL (l.take (k + 1)) (l.drop (k + 1)) by rw [HQ.out, HT.out, hc]; rfl)
        clear hr hc hx
        go_wp2_with (go_at_call 80; refine KC.out.mono ?_; rintro e w1 ⟨rfl, rfl⟩)
        go_round
        case rel => exact ⟨k + 1, by omega, by go_num, HF.out⟩
        case measure => simp only [intOf]; go_num
    · obtain rfl : k = l.length := by omega
      have HF := Lib.hid (show twiceL [] l = none by rw [HQ.out, List.drop_length]; rfl)
      go_wp2_with fail
      go_ret2
      exact ⟨by rw [HF.out]; rfl, rfl⟩
end Go.Proofs.YtnmbbnhgoedjgaaGreatDoor.Cg8

