/- conf.Same. A configuration's lines in another order; names that stand twice: plain Lean. rule.Print: the words, one after another. -/
import Derived.Test.YtnmbbnhgoedjgaaGreatDoorQCgS
import Derived.Test.YtnmbbnhgoedjgaaGreatDoorQCf1
import Derived.Test.YtnmbbnhgoedjgaaGreatDoorQRuG
import Derived.Deep.MidRow
import Derived.BigFrame
import Derived.BigGuardPart
namespace Go.Proofs.YtnmbbnhgoedjgaaGreatDoor.CgT
open Go Go.RowKit Go.Proofs.YtnmbbnhgoedjgaaGreatDoor.Ad1 Go.Proofs.YtnmbbnhgoedjgaaGreatDoor.St2 Go.Proofs.YtnmbbnhgoedjgaaGreatDoor.Ru1 Go.Proofs.YtnmbbnhgoedjgaaGreatDoor.Ru6 Go.Proofs.YtnmbbnhgoedjgaaGreatDoor.RuB Go.Proofs.YtnmbbnhgoedjgaaGreatDoor.RuC Go.Proofs.YtnmbbnhgoedjgaaGreatDoor.RuE Go.Proofs.YtnmbbnhgoedjgaaGreatDoor.RuS Go.Proofs.YtnmbbnhgoedjgaaGreatDoor.RuY Go.Proofs.YtnmbbnhgoedjgaaGreatDoor.Cf0 Go.Proofs.YtnmbbnhgoedjgaaGreatDoor.Cf4 Go.Proofs.YtnmbbnhgoedjgaaGreatDoor.Cf6 Go.Proofs.YtnmbbnhgoedjgaaGreatDoor.Cg0 Go.Proofs.YtnmbbnhgoedjgaaGreatDoor.Cg4 Go.Proofs.YtnmbbnhgoedjgaaGreatDoor.CgS
set_option linter.unusedVariables false
set_option linter.unusedSimpArgs false
theorem conf_dec (p q : ConfM) : decide (p = q) = (decide (p.flows = q.flows) && (decide (p.errors = q.errors) && (decide (p.ifaces = q.ifaces) && (decide (p.bogons = q.bogons) && (decide (p.rules = q.rules) && decide (p.tables = q.tables)))))) := by
  obtain ⟨a, b, c, d, e, f⟩ := p
  obtain ⟨a', b', c', d', e', f'⟩ := q
  rw [Bool.eq_iff_iff]
  simp only [decide_eq_true_eq, ConfM.mk.injEq, Bool.and_eq_true]
  constructor
  · rintro ⟨h1, h2, h3, h4, h5, h6⟩; exact ⟨h5, h6, h1, h2, h4, h3⟩
  · rintro ⟨h5, h6, h1, h2, h4, h3⟩; exact ⟨h1, h2, h3, h4, h5, h6⟩
/-- Two boxes. -/
structure PrD (W : World) (cs ds : Array Value) (w : World) : Prop where
  one : w.heap[W.heap.size]? = some (.cells cs 27 (0, 0))
  two : w.heap[W.heap.size + 1]? = some (.cells ds 27 (0, 0))
  low : Below W.heap.size W w
  lt : W.heap.size + 1 < w.heap.size
section
variable {W : World} {cs ds : Array Value}
theorem PrD.below {w w' : World} (h : PrD W cs ds w) (hb : Below w.heap.size w w') : PrD W cs ds w' :=
  ⟨(hb.block _ (by have := h.lt; omega)).trans h.one, (hb.block _ h.lt).trans h.two, bstep h.low hb h.low.size, Nat.lt_of_lt_of_le h.lt hb.size⟩
theorem PrD.new (W : World) (cs ds : Array Value) : PrD W cs ds ((W.alloc (.cells cs 27)).alloc (.cells ds 27)) :=
  ⟨heap_alloc2_old W _ _, heap_alloc2_new W _ _, bnew2 W _ _, by simp⟩
theorem PrD.c {w : World} (h : PrD W cs ds w) {k : Nat} {v : Value} (hk : cs[k]? = some v) : w.cell? ⟨W.heap.size, k, none⟩ = some v := (cell_of_row _ _ k _ _ _ h.one).trans hk
theorem PrD.d {w : World} (h : PrD W cs ds w) {k : Nat} {v : Value} (hk : ds[k]? = some v) : w.cell? ⟨W.heap.size + 1, k, none⟩ = some v := (cell_of_row _ _ k _ _ _ h.two).trans hk
end
theorem sl_one {W : World} {ts : List (NamedM × Value)} (h : ∀ t ∈ ts, Sl W t.2 t.1.l.length (t.1.l.flatMap pfxL)) : ∀ t ∈ ts, t.2.oneCell' = true := fun t ht => by
  obtain ⟨A, c, e, -⟩ := h t ht
  rw [e]
  rfl
set_option maxRecDepth 20000 in
set_option maxHeartbeats 4000000 in
theorem same_conf (c d : ConfM) (v0 v1 v2 v3 u0 u1 u2 u3 : Value) (ts us : List (NamedM × Value)) (W : World) (h : ConfIn W v0 v1 v2 v3 ts c) (h' : ConfIn W u0 u1 u2 u3 us d) (hf : FitC c) (hf' : FitC d) :
    Calls Tryz.prog 21 #[.agg (confC v0 v1 v2 v3 c), .agg (confC u0 u1 u2 u3 d)] W fun e w' => e = .returned (.bool (decide (c = d))) ∧ Below W.heap.size W w' := by
  have K0 := Lib.hid (fun W' (hb : Below W.heap.size W W') => eql_iface ifL ifL_len ne_iface c.ifaces d.ifaces (by have := hf.ni; omega) (by have := hf'.ni; omega) v0 u0 W' (h.below hb).ifaces (h'.below hb).ifaces)
  have K1 := Lib.hid (fun W' (hb : Below W.heap.size W W') => eql_pfx pfxL pfxL_len ne_pfx c.bogons d.bogons (by have := hf.nb; omega) (by have := hf'.nb; omega) v1 u1 W' (h.below hb).bogons (h'.below hb).bogons)
  have K3 := Lib.hid (fun W' (hb : Below W.heap.size W W') => eql_rule rlL rlL_len ne_rule c.rules d.rules (by have := hf.nr; omega) (by have := hf'.nr; omega) v3 u3 W' (h.below hb).rules (h'.below hb).rules)
  have K2 := Lib.hid (fun W' (hb : Below W.heap.size W W') => eqfunc_any ts us (by have := hf.nt; have := h.tlen; omega) (by have := hf'.nt; have := h'.tlen; omega) v2 u2 W' (h.below hb).tables (h'.below hb).tables (fun t ht s hs W2 hb2 => by
    have m1 : t.1 ∈ c.tables := by rw [← h.tab]; exact List.mem_map_of_mem ht
    have m2 : s.1 ∈ d.tables := by rw [← h'.tab]; exact List.mem_map_of_mem hs
    exact same1_any t s (by have := (hf.tl _ m1).2; omega) (by have := (hf'.tl _ m2).2; omega) W2 (((h.below hb).tin t ht).below hb2) (((h'.below hb).tin s hs).below hb2)) (fun t ht => by
    rcases List.mem_append.1 ht with ht | ht
    · exact sl_one h.tin t ht
    · exact sl_one h'.tin t ht))
  rw [h.tab, h'.tab] at K2
  rw [conf_dec]
  have c0 : (confC v0 v1 v2 v3 c)[0]? = some v0 := rfl
  have c1 : (confC v0 v1 v2 v3 c)[1]? = some v1 := rfl
  have c2 : (confC v0 v1 v2 v3 c)[2]? = some v2 := rfl
  have c3 : (confC v0 v1 v2 v3 c)[3]? = some v3 := rfl
  have c4 : (confC v0 v1 v2 v3 c)[4]? = some (.int .i64 c.flows) := rfl
  have c5 : (confC v0 v1 v2 v3 c)[5]? = some (.int .i64 c.errors) := rfl
  have d0 : (confC u0 u1 u2 u3 d)[0]? = some u0 := rfl
  have d1 : (confC u0 u1 u2 u3 d)[1]? = some u1 := rfl
  have d2 : (confC u0 u1 u2 u3 d)[2]? = some u2 := rfl
  have d3 : (confC u0 u1 u2 u3 d)[3]? = some u3 := rfl
  have d4 : (confC u0 u1 u2 u3 d)[4]? = some (.int .i64 d.flows) := rfl
  have d5 : (confC u0 u1 u2 u3 d)[5]? = some (.int .i64 d.errors) := rfl
  have HP := Lib.hid (PrD.new W (confC v0 v1 v2 v3 c) (confC u0 u1 u2 u3 d))
  generalize confC v0 v1 v2 v3 c = cs at *
  generalize confC u0 u1 u2 u3 d = ds at *
  have HC : Hid (_ ∧ _ ∧ _ ∧ _) := ⟨c0, c1, c2, c3⟩
  have HD : Hid (_ ∧ _ ∧ _ ∧ _) := ⟨d0, d1, d2, d3⟩
  have q4 := HP.out.c c4
  have q5 := HP.out.c c5
  have q0 := HP.out.c c0
  have r4 := HP.out.d d4
  have r5 := HP.out.d d5
  have r0 := HP.out.d d0
  clear h h' hf hf' c0 c1 c2 c3 c4 c5 d0 d1 d2 d3 d4 d5
  generalize decide (c.ifaces = d.ifaces) = b0 at *
  generalize decide (c.bogons = d.bogons) = b1 at *
  generalize decide (c.rules = d.rules) = b3 at *
  generalize decide (c.tables = d.tables) = b2 at *
  by_cases p0 : c.flows = d.flows
  rotate_left
  · rw [decide_eq_false p0]
    go_enter Tryz.func21, Tryz.ntmps21
    go_wp2_with (first
      | (go_at_call 52; (with_reducible refine (K0.out _ HP.out.low).mono ?_); rintro e w1 ⟨rfl, hb1⟩; have HP := Lib.hid (HP.out.below hb1); have q1 := HP.out.c HC.out.2.1; have q2 := HP.out.c HC.out.2.2.1; have q3 := HP.out.c HC.out.2.2.2; have r1 := HP.out.d HD.out.2.1; have r2 := HP.out.d HD.out.2.2.1; have r3 := HP.out.d HD.out.2.2.2; clear hb1)
      | (go_at_call 53; (with_reducible refine (K1.out _ HP.out.low).mono ?_); rintro e w1 ⟨rfl, hb1⟩; have HP := Lib.hid (HP.out.below hb1); have q1 := HP.out.c HC.out.2.1; have q2 := HP.out.c HC.out.2.2.1; have q3 := HP.out.c HC.out.2.2.2; have r1 := HP.out.d HD.out.2.1; have r2 := HP.out.d HD.out.2.2.1; have r3 := HP.out.d HD.out.2.2.2; clear hb1)
      | (go_at_call 54; (with_reducible refine (K3.out _ HP.out.low).mono ?_); rintro e w1 ⟨rfl, hb1⟩; have HP := Lib.hid (HP.out.below hb1); have q1 := HP.out.c HC.out.2.1; have q2 := HP.out.c HC.out.2.2.1; have q3 := HP.out.c HC.out.2.2.2; have r1 := HP.out.d HD.out.2.1; have r2 := HP.out.d HD.out.2.2.1; have r3 := HP.out.d HD.out.2.2.2; clear hb1)
      | (go_at_call 55; (with_reducible refine (K2.out _ HP.out.low).mono ?_); rintro e w1 ⟨rfl, hb1⟩; have HP := Lib.hid (HP.out.below hb1); have q1 := HP.out.c HC.out.2.1; have q2 := HP.out.c HC.out.2.2.1; have q3 := HP.out.c HC.out.2.2.2; have r1 := HP.out.d HD.out.2.1; have r2 := HP.out.d HD.out.2.2.1; have r3 := HP.out.d HD.out.2.2.2; clear hb1))
    go_ret
    exact ⟨rfl, HP.out.low⟩
  rw [decide_eq_true p0]
  by_cases p1 : c.errors = d.errors
  rotate_left
  · rw [decide_eq_false p1]
    go_enter Tryz.func21, Tryz.ntmps21
    go_wp2_with (first
      | (go_at_call 52; (with_reducible refine (K0.out _ HP.out.low).mono ?_); rintro e w1 ⟨rfl, hb1⟩; have HP := Lib.hid (HP.out.below hb1); have q1 := HP.out.c HC.out.2.1; have q2 := HP.out.c HC.out.2.2.1; have q3 := HP.out.c HC.out.2.2.2; have r1 := HP.out.d HD.out.2.1; have r2 := HP.out.d HD.out.2.2.1; have r3 := HP.out.d HD.out.2.2.2; clear hb1)
      | (go_at_call 53; (with_reducible refine (K1.out _ HP.out.low).mono ?_); rintro e w1 ⟨rfl, hb1⟩; have HP := Lib.hid (HP.out.below hb1); have q1 := HP.out.c HC.out.2.1; have q2 := HP.out.c HC.out.2.2.1; have q3 := HP.out.c HC.out.2.2.2; have r1 := HP.out.d HD.out.2.1; have r2 := HP.out.d HD.out.2.2.1; have r3 := HP.out.d HD.out.2.2.2; clear hb1)
      | (go_at_call 54; (with_reducible refine (K3.out _ HP.out.low).mono ?_); rintro e w1 ⟨rfl, hb1⟩; have HP := Lib.hid (HP.out.below hb1); have q1 := HP.out.c HC.out.2.1; have q2 := HP.out.c HC.out.2.2.1; have q3 := HP.out.c HC.out.2.2.2; have r1 := HP.out.d HD.out.2.1; have r2 := HP.out.d HD.out.2.2.1; have r3 := HP.out.d HD.out.2.2.2; clear hb1)
      | (go_at_call 55; (with_reducible refine (K2.out _ HP.out.low).mono ?_); rintro e w1 ⟨rfl, hb1⟩; have HP := Lib.hid (HP.out.below hb1); have q1 := HP.out.c HC.out.2.1; have q2 := HP.out.c HC.out.2.2.1; have q3 := HP.out.c HC.out.2.2.2; have r1 := HP.out.d HD.out.2.1; have r2 := HP.out.d HD.out.2.2.1; have r3 := HP.out.d HD.out.2.2.2; clear hb1))
    go_ret
    exact ⟨rfl, HP.out.low⟩
  rw [decide_eq_true p1]
  cases b0 with
  | false =>
    go_enter Tryz.func21, Tryz.ntmps21
    go_wp2_with (first
      | (go_at_call 52; (with_reducible refine (K0.out _ HP.out.low).mono ?_); rintro e w1 ⟨rfl, hb1⟩; have HP := Lib.hid (HP.out.below hb1); have q1 := HP.out.c HC.out.2.1; have q2 := HP.out.c HC.out.2.2.1; have q3 := HP.out.c HC.out.2.2.2; have r1 := HP.out.d HD.out.2.1; have r2 := HP.out.d HD.out.2.2.1; have r3 := HP.out.d HD.out.2.2.2; clear hb1)
      | (go_at_call 53; (with_reducible refine (K1.out _ HP.out.low).mono ?_); rintro e w1 ⟨rfl, hb1⟩; have HP := Lib.hid (HP.out.below hb1); have q1 := HP.out.c HC.out.2.1; have q2 := HP.out.c HC.out.2.2.1; have q3 := HP.out.c HC.out.2.2.2; have r1 := HP.out.d HD.out.2.1; have r2 := HP.out.d HD.out.2.2.1; have r3 := HP.out.d HD.out.2.2.2; clear hb1)
      | (go_at_call 54; (with_reducible refine (K3.out _ HP.out.low).mono ?_); rintro e w1 ⟨rfl, hb1⟩; have HP := Lib.hid (HP.out.below hb1); have q1 := HP.out.c HC.out.2.1; have q2 := HP.out.c HC.out.2.2.1; have q3 := HP.out.c HC.out.2.2.2; have r1 := HP.out.d HD.out.2.1; have r2 := HP.out.d HD.out.2.2.1; have r3 := HP.out.d HD.out.2.2.2; clear hb1)
      | (go_at_call 55; (with_reducible refine (K2.out _ HP.out.low).mono ?_); rintro e w1 ⟨rfl, hb1⟩; have HP := Lib.hid (HP.out.below hb1); have q1 := HP.out.c HC.out.2.1; have q2 := HP.out.c HC.out.2.2.1; have q3 := HP.out.c HC.out.2.2.2; have r1 := HP.out.d HD.out.2.1; have r2 := HP.out.d HD.out.2.2.1; have r3 := HP.out.d HD.out.2.2.2; clear hb1))
    go_ret
    exact ⟨rfl, HP.out.low⟩
  | true =>
  cases b1 with
  | false =>
    go_enter Tryz.func21, Tryz.ntmps21
    go_wp2_with (first
      | (go_at_call 52; (with_reducible refine (K0.out _ HP.out.low).mono ?_); rintro e w1 ⟨rfl, hb1⟩; have HP := Lib.hid (HP.out.below hb1); have q1 := HP.out.c HC.out.2.1; have q2 := HP.out.c HC.out.2.2.1; have q3 := HP.out.c HC.out.2.2.2; have r1 := HP.out.d HD.out.2.1; have r2 := HP.out.d HD.out.2.2.1; have r3 := HP.out.d HD.out.2.2.2; clear hb1)
      | (go_at_call 53; (with_reducible refine (K1.out _ HP.out.low).mono ?_); rintro e w1 ⟨rfl, hb1⟩; have HP := Lib.hid (HP.out.below hb1); have q1 := HP.out.c HC.out.2.1; have q2 := HP.out.c HC.out.2.2.1; have q3 := HP.out.c HC.out.2.2.2; have r1 := HP.out.d HD.out.2.1; have r2 := HP.out.d HD.out.2.2.1; have r3 := HP.out.d HD.out.2.2.2; clear hb1)
      | (go_at_call 54; (with_reducible refine (K3.out _ HP.out.low).mono ?_); rintro e w1 ⟨rfl, hb1⟩; have HP := Lib.hid (HP.out.below hb1); have q1 := HP.out.c HC.out.2.1; have q2 := HP.out.c HC.out.2.2.1; have q3 := HP.out.c HC.out.2.2.2; have r1 := HP.out.d HD.out.2.1; have r2 := HP.out.d HD.out.2.2.1; have r3 := HP.out.d HD.out.2.2.2; clear hb1)
      | (go_at_call 55; (with_reducible refine (K2.out _ HP.out.low).mono ?_); rintro e w1 ⟨rfl, hb1⟩; have HP := Lib.hid (HP.out.below hb1); have q1 := HP.out.c HC.out.2.1; have q2 := HP.out.c HC.out.2.2.1; have q3 := HP.out.c HC.out.2.2.2; have r1 := HP.out.d HD.out.2.1; have r2 := HP.out.d HD.out.2.2.1; have r3 := HP.out.d HD.out.2.2.2; clear hb1))
    go_ret
    exact ⟨rfl, HP.out.low⟩
  | true =>
  cases b3 with
  | false =>
    go_enter Tryz.func21, Tryz.ntmps21
    go_wp2_with (first
      | (go_at_call 52; (with_reducible refine (K0.out _ HP.out.low).mono ?_); rintro e w1 ⟨rfl, hb1⟩; have HP := Lib.hid (HP.out.below hb1); have q1 := HP.out.c HC.out.2.1; have q2 := HP.out.c HC.out.2.2.1; have q3 := HP.out.c HC.out.2.2.2; have r1 := HP.out.d HD.out.2.1; have r2 := HP.out.d HD.out.2.2.1; have r3 := HP.out.d HD.out.2.2.2; clear hb1)
      | (go_at_call 53; (with_reducible refine (K1.out _ HP.out.low).mono ?_); rintro e w1 ⟨rfl, hb1⟩; have HP := Lib.hid (HP.out.below hb1); have q1 := HP.out.c HC.out.2.1; have q2 := HP.out.c HC.out.2.2.1; have q3 := HP.out.c HC.out.2.2.2; have r1 := HP.out.d HD.out.2.1; have r2 := HP.out.d HD.out.2.2.1; have r3 := HP.out.d HD.out.2.2.2; clear hb1)
      | (go_at_call 54; (with_reducible refine (K3.out _ HP.out.low).mono ?_); rintro e w1 ⟨rfl, hb1⟩; have HP := Lib.hid (HP.out.below hb1); have q1 := HP.out.c HC.out.2.1; have q2 := HP.out.c HC.out.2.2.1; have q3 := HP.out.c HC.out.2.2.2; have r1 := HP.out.d HD.out.2.1; have r2 := HP.out.d HD.out.2.2.1; have r3 := HP.out.d HD.out.2.2.2; clear hb1)
      | (go_at_call 55; (with_reducible refine (K2.out _ HP.out.low).mono ?_); rintro e w1 ⟨rfl, hb1⟩; have HP := Lib.hid (HP.out.below hb1); have q1 := HP.out.c HC.out.2.1; have q2 := HP.out.c HC.out.2.2.1; have q3 := HP.out.c HC.out.2.2.2; have r1 := HP.out.d HD.out.2.1; have r2 := HP.out.d HD.out.2.2.1; have r3 := HP.out.d HD.out.2.2.2; clear hb1))
    go_ret
    exact ⟨rfl, HP.out.low⟩
  | true =>
  go_enter Tryz.func21, Tryz.ntmps21
  go_wp2_with (first
    | (go_at_call 52; (with_reducible refine (K0.out _ HP.out.low).mono ?_); rintro e w1 ⟨rfl, hb1⟩; have HP := Lib.hid (HP.out.below hb1); have q1 := HP.out.c HC.out.2.1; have q2 := HP.out.c HC.out.2.2.1; have q3 := HP.out.c HC.out.2.2.2; have r1 := HP.out.d HD.out.2.1; have r2 := HP.out.d HD.out.2.2.1; have r3 := HP.out.d HD.out.2.2.2; clear hb1)
    | (go_at_call 53; (with_reducible refine (K1.out _ HP.out.low).mono ?_); rintro e w1 ⟨rfl, hb1⟩; have HP := Lib.hid (HP.out.below hb1); have q1 := HP.out.c HC.out.2.1; have q2 := HP.out.c HC.out.2.2.1; have q3 := HP.out.c HC.out.2.2.2; have r1 := HP.out.d HD.out.2.1; have r2 := HP.out.d HD.out.2.2.1; have r3 := HP.out.d HD.out.2.2.2; clear hb1)
    | (go_at_call 54; (with_reducible refine (K3.out _ HP.out.low).mono ?_); rintro e w1 ⟨rfl, hb1⟩; have HP := Lib.hid (HP.out.below hb1); have q1 := HP.out.c HC.out.2.1; have q2 := HP.out.c HC.out.2.2.1; have q3 := HP.out.c HC.out.2.2.2; have r1 := HP.out.d HD.out.2.1; have r2 := HP.out.d HD.out.2.2.1; have r3 := HP.out.d HD.out.2.2.2; clear hb1)
    | (go_at_call 55; (with_reducible refine (K2.out _ HP.out.low).mono ?_); rintro e w1 ⟨rfl, hb1⟩; have HP := Lib.hid (HP.out.below hb1); have q1 := HP.out.c HC.out.2.1; have q2 := HP.out.c HC.out.2.2.1; have q3 := HP.out.c HC.out.2.2.2; have r1 := HP.out.d HD.out.2.1; have r2 := HP.out.d HD.out.2.2.1; have r3 := HP.out.d HD.out.2.2.2; clear hb1))
  go_ret
  exact ⟨rfl, HP.out.low⟩
end Go.Proofs.YtnmbbnhgoedjgaaGreatDoor.CgT

namespace Go.Proofs.YtnmbbnhgoedjgaaGreatDoor.Cf2
open Go Go.RowKit Go.Proofs.YtnmbbnhgoedjgaaGreatDoor.Ad0 Go.Proofs.YtnmbbnhgoedjgaaGreatDoor.St0 Go.Proofs.YtnmbbnhgoedjgaaGreatDoor.St4 Go.Proofs.YtnmbbnhgoedjgaaGreatDoor.Ru0 Go.Proofs.YtnmbbnhgoedjgaaGreatDoor.Ru1 Go.Proofs.YtnmbbnhgoedjgaaGreatDoor.Ru3 Go.Proofs.YtnmbbnhgoedjgaaGreatDoor.Ru4 Go.Proofs.YtnmbbnhgoedjgaaGreatDoor.Ru6 Go.Proofs.YtnmbbnhgoedjgaaGreatDoor.Rw0 Go.Proofs.YtnmbbnhgoedjgaaGreatDoor.RuY Go.Proofs.YtnmbbnhgoedjgaaGreatDoor.Cf0 Go.Proofs.YtnmbbnhgoedjgaaGreatDoor.Cf1
set_option linter.unusedVariables false
set_option linter.unusedSimpArgs false
def wBogonS : Wd := [98, 111, 103, 111, 110, 32]
def isB (l : Wd) : Bool := decide (6 < l.length) && l.take 6 == wBogonS
/-- A text whose bogons' lines stand ahead of all others. -/
def turnedL (s : Wd) : Wd := unlines ((parts 10 s).dropLast.filter isB) ++ unlines ((parts 10 s).dropLast.filter fun l => !isB l)
theorem unlines_app (a b : List Wd) : unlines (a ++ b) = unlines a ++ unlines b := by simp [unlines]
theorem unlines_len : ∀ (l : List Wd) (p : Wd → Bool), (unlines (l.filter p)).length + (unlines (l.filter fun x => !p x)).length = (unlines l).length
  | [], _ => rfl
  | x :: t, p => by
    have ih := unlines_len t p
    cases h : p x <;> simp [List.filter_cons, h, unlines] at ih ⊢ <;> omega
theorem isB_bogon (p : Pfx) (h : isF p = true) : isB (spaced [wBogon, printP p]) = true := by
  have hw := (isW_pfx p h).1
  have e : spaced [wBogon, printP p] = wBogonS ++ printP p := by simp [spaced, wBogon, wBogonS]
  rw [e]
  unfold isB
  have h1 : 0 < (printP p).length := List.length_pos_iff.2 hw
  have h2 : (wBogonS ++ printP p).take 6 = wBogonS := by
    rw [List.take_append_of_le_length (by decide)]
    rfl
  rw [h2]
  simp [wBogonS]
  omega
theorem isB_head (a : UInt8) (t : Wd) (h : a ≠ 98) : isB (a :: t) = false := by
  unfold isB
  have : ((a :: t).take 6 == wBogonS) = false := by
    rw [beq_eq_false_iff_ne]
    intro e
    rw [List.take_succ_cons] at e
    injection e with e1
    exact h e1
  rw [this, Bool.and_false]
theorem isB_second (b : UInt8) (t : Wd) (h : b ≠ 111) : isB (98 :: b :: t) = false := by
  unfold isB
  have : ((98 :: b :: t).take 6 == wBogonS) = false := by
    rw [beq_eq_false_iff_ne]
    intro e
    rw [List.take_succ_cons, List.take_succ_cons] at e
    injection e with _ e1
    injection e1 with e2
    exact h e2
  rw [this, Bool.and_false]
theorem isB_rule (r : RuleM) (h : ruleR r = true) : isB (printed r) = false := by
  unfold printed
  rw [if_pos h]
  have hw : (tokens r) = (if r.pass then wPass else wBlock) :: tk1 r := rfl
  rw [hw]
  unfold spaced
  cases r.pass
  · exact isB_second 108 _ (by decide)
  · exact isB_head 112 _ (by decide)
def restT (c : ConfM) : List Wd := spaced [wFlows, Lib.itoa c.flows] :: spaced [wErrors, Lib.itoa c.errors] :: (c.ifaces.map (fun x => spaced (ifaceW x)) ++ (c.tables.map (fun t => spaced (tableW t)) ++ c.rules.map printed))
theorem filter_none {α : Type} (l : List α) (p : α → Bool) (h : ∀ x ∈ l, p x = false) : l.filter p = [] := List.filter_eq_nil_iff.2 fun x hx => by rw [h x hx]; decide
theorem filter_all {α : Type} (l : List α) (p : α → Bool) (h : ∀ x ∈ l, p x = true) : l.filter p = l := List.filter_eq_self.2 h
theorem lines_parts (c : ConfM) (h : IsC c) : (linesT c).filter isB = c.bogons.map (fun p => spaced [wBogon, printP p]) ∧ (linesT c).filter (fun l => !isB l) = restT c := by
  have f1 : isB (spaced [wFlows, Lib.itoa c.flows]) = false := isB_head 102 _ (by decide)
  have f2 : isB (spaced [wErrors, Lib.itoa c.errors]) = false := isB_head 101 _ (by decide)
  have f3 : ∀ x ∈ c.ifaces.map (fun x => spaced (ifaceW x)), isB x = false := by
    intro w hw
    obtain ⟨x, hx, rfl⟩ := List.mem_map.1 hw
    exact isB_head 105 _ (by decide)
  have f4 : ∀ x ∈ c.bogons.map (fun p => spaced [wBogon, printP p]), isB x = true := by
    intro w hw
    obtain ⟨x, hx, rfl⟩ := List.mem_map.1 hw
    exact isB_bogon x (List.all_eq_true.1 h.bogons.2 x hx)
  have f5 : ∀ x ∈ c.tables.map (fun t => spaced (tableW t)), isB x = false := by
    intro w hw
    obtain ⟨x, hx, rfl⟩ := List.mem_map.1 hw
    exact isB_head 116 _ (by decide)
  have f6 : ∀ x ∈ c.rules.map printed, isB x = false := by
    intro w hw
    obtain ⟨x, hx, rfl⟩ := List.mem_map.1 hw
    exact isB_rule x (List.all_eq_true.1 h.rules x hx)
  unfold linesT restT
  constructor
  · rw [List.filter_cons_of_neg (by rw [f1]; decide), List.filter_cons_of_neg (by rw [f2]; decide), List.filter_append, List.filter_append, List.filter_append, filter_none _ _ f3, filter_all _ _ f4, filter_none _ _ f5, filter_none _ _ f6]
    simp
  · have g : ∀ {l : List Wd}, (∀ x ∈ l, isB x = false) → l.filter (fun x => !isB x) = l := fun hl => filter_all _ _ (fun x hx => by rw [hl x hx]; rfl)
    have g' : ∀ {l : List Wd}, (∀ x ∈ l, isB x = true) → l.filter (fun x => !isB x) = [] := fun hl => filter_none _ _ (fun x hx => by rw [hl x hx]; rfl)
    rw [List.filter_cons_of_pos (by rw [f1]; rfl), List.filter_cons_of_pos (by rw [f2]; rfl), List.filter_append, List.filter_append, List.filter_append, g f3, g' f4, g f5, g f6]
    simp
theorem run_rest (c c0 : ConfM) (h : IsC c) (ho : OkC c) (h0 : c0.flows = 0) (h1 : c0.errors < 0) : runL c0 (restT c) = some { c0 with flows := c.flows, errors := c.errors, ifaces := c0.ifaces ++ c.ifaces, tables := c0.tables ++ c.tables, rules := c0.rules ++ c.rules } := by
  unfold restT
  have e1 : stepL c0 (spaced [wFlows, Lib.itoa c.flows]) = some { c0 with flows := c.flows } := by
    rw [step_words c0 _ (all_cons ⟨by decide, by decide⟩ (all_cons (isW_itoa _ (by have := h.flows; omega)) all_nil)) (by simp) rfl]
    show (if c0.flows ≠ 0 then none else (numIn (Lib.itoa c.flows) 1 64).map _) = _
    rw [if_neg (by simp [h0]), num_in c.flows 1 64 (by have := h.flows; omega) (by have := h.flows; omega) (by decide)]
    have : ((c.flows.toNat : Nat) : Int) = c.flows := by have := h.flows; omega
    simp [this]
  have e2 : stepL { c0 with flows := c.flows } (spaced [wErrors, Lib.itoa c.errors]) = some { c0 with flows := c.flows, errors := c.errors } := by
    rw [step_words _ _ (all_cons ⟨by decide, by decide⟩ (all_cons (isW_itoa _ h.errors.1) all_nil)) (by simp) rfl]
    show (if 0 ≤ c0.errors then none else (numIn (Lib.itoa c.errors) 0 100).map _) = _
    rw [if_neg (by omega), num_in c.errors 0 100 (by have := h.errors; omega) (by have := h.errors; omega) (by decide)]
    have : ((c.errors.toNat : Nat) : Int) = c.errors := by have := h.errors; omega
    simp [this]
  show (stepL c0 _).bind _ = _
  rw [e1]
  show (stepL { c0 with flows := c.flows } _).bind _ = _
  rw [e2]
  show runL { c0 with flows := c.flows, errors := c.errors } _ = _
  rw [runL_append, run_ifaces _ _ h.ifaces ho.ifaces]
  show runL _ _ = _
  rw [runL_append, run_tables _ _ h.tables ho.tables]
  show runL _ _ = _
  rw [run_rules _ _ h.rules ho.rules]
theorem turned_back (c : ConfM) (h : isC c = true) (ho : OkC c) (hc : (checkC c).1 = 0) : parseC (turnedL (textC c)) = (c, 0, 0) := by
  have hi := isC_facts c h
  have hp := parts_unlines (linesT c) [] (ones_lines c hi ho)
  rw [List.append_nil] at hp
  have hd : (parts 10 (textC c)).dropLast = linesT c := by
    show (parts 10 (unlines (linesT c))).dropLast = _
    rw [hp]
    show (linesT c ++ [[]]).dropLast = _
    exact List.dropLast_concat
  have hone := ones_lines c hi ho
  obtain ⟨q1, q2⟩ := lines_parts c hi
  have hlen := unlines_len (linesT c) isB
  unfold turnedL
  rw [hd, q1, q2]
  rw [q1, q2] at hlen
  have o1 : Ones (c.bogons.map fun p => spaced [wBogon, printP p]) := by rw [← q1]; exact fun w hw => hone w (List.mem_filter.1 hw).1
  have o2 : Ones (restT c) := by rw [← q2]; exact fun w hw => hone w (List.mem_filter.1 hw).1
  unfold parseC
  rw [if_neg (by rw [List.length_append]; have := hi.text; unfold textC at this; omega)]
  have hp2 := parts_unlines (restT c) [] o2
  rw [List.append_nil] at hp2
  rw [parts_unlines _ _ o1, hp2]
  have hr : runL startC ((c.bogons.map fun p => spaced [wBogon, printP p]) ++ (restT c ++ parts 10 [])) = some c := by
    rw [runL_append, run_bogons _ _ hi.bogons.2 ho.bogons]
    show runL _ (restT c ++ _) = _
    rw [runL_append, run_rest c _ hi ho rfl (by show (-1 : Int) < 0; decide)]
    show runL _ [[]] = _
    simp [startC, runL, stepL, wordsL, parts, skipW]
  rw [goL_run _ _ _ 0 hr]
  unfold endC
  rw [hc]
  rfl
/-! ## Names -/
theorem twice_none : ∀ (l pre : List Wd), twiceL pre l = none → l.Nodup ∧ ∀ x ∈ l, x ∉ pre
  | [], _, _ => ⟨List.nodup_nil, fun _ h => by cases h⟩
  | x :: t, pre, h => by
    unfold twiceL at h
    split at h
    · cases h
    · rename_i hc
      obtain ⟨h1, h2⟩ := twice_none t (pre ++ [x]) h
      have hx : x ∉ pre := by simpa using hc
      refine ⟨List.nodup_cons.2 ⟨fun hm => h2 x hm (by simp), h1⟩, fun y hy => ?_⟩
      rcases List.mem_cons.1 hy with rfl | hy
      · exact hx
      · exact fun hm => h2 y hy (by simp [hm])
theorem check_none (c : ConfM) (h : (checkC c).1 = 0) : checkC c = (0, []) ∧ isC c = true := by
  unfold checkC at h ⊢
  cases hi : isC c with
  | false => rw [hi] at h; exact absurd (show (2 : Int) = 0 from h) (by decide)
  | true =>
    rw [hi] at h
    simp only [Bool.not_true, Bool.false_eq_true, if_false] at h ⊢
    cases e1 : twiceL [] (c.ifaces.map (·.name)) with
    | some n => rw [e1] at h; exact absurd (show (8 : Int) = 0 from h) (by decide)
    | none =>
      rw [e1] at h
      cases e2 : twiceL [] (c.tables.map (·.name)) with
      | some n => rw [e2] at h; exact absurd (show (8 : Int) = 0 from h) (by decide)
      | none =>
        rw [e2] at h
        cases e3 : c.rules.findSome? (wrongOf c) with
        | some n => rw [e3] at h; exact absurd (show (8 : Int) = 0 from h) (by decide)
        | none => exact ⟨rfl, trivial⟩
/-- Two interfaces of one name are told. -/
theorem names_told (d : ConfM) (a b : Nat) (hab : a ≠ b) (x y : IfaceM) (ha : d.ifaces[a]? = some x) (hb : d.ifaces[b]? = some y) (hxy : x.name = y.name) : (checkC d).1 = 2 ∨ (checkC d).1 = 8 := by
  unfold checkC
  split
  · exact .inl rfl
  · cases ht : twiceL [] (d.ifaces.map (·.name)) with
    | some n => exact .inr rfl
    | none =>
      exfalso
      obtain ⟨hn, -⟩ := twice_none _ _ ht
      have h1 : (d.ifaces.map (·.name))[a]? = some x.name := by rw [List.getElem?_map, ha]; rfl
      have h2 : (d.ifaces.map (·.name))[b]? = some x.name := by rw [List.getElem?_map, hb, hxy]; rfl
      obtain ⟨l1, g1⟩ := List.getElem?_eq_some_iff.1 h1
      obtain ⟨l2, g2⟩ := List.getElem?_eq_some_iff.1 h2
      rcases Nat.lt_or_gt_of_ne hab with hlt | hlt
      · exact List.pairwise_iff_getElem.1 hn a b l1 l2 hlt (g1.trans g2.symm)
      · exact List.pairwise_iff_getElem.1 hn b a l2 l1 hlt (g2.trans g1.symm)
end Go.Proofs.YtnmbbnhgoedjgaaGreatDoor.Cf2

namespace Go.Proofs.YtnmbbnhgoedjgaaGreatDoor.RuU
open Go Go.RowKit Go.Proofs.YtnmbbnhgoedjgaaGreatDoor.Ad1 Go.Proofs.YtnmbbnhgoedjgaaGreatDoor.Ad3 Go.Proofs.YtnmbbnhgoedjgaaGreatDoor.St2 Go.Proofs.YtnmbbnhgoedjgaaGreatDoor.St3 Go.Proofs.YtnmbbnhgoedjgaaGreatDoor.Ru0 Go.Proofs.YtnmbbnhgoedjgaaGreatDoor.Ru6 Go.Proofs.YtnmbbnhgoedjgaaGreatDoor.RuB Go.Proofs.YtnmbbnhgoedjgaaGreatDoor.RuC
set_option linter.unusedVariables false
set_option linter.unusedSimpArgs false
def strs (xs : List Wd) : List Value := xs.map fun x => .string ⟨x.toArray⟩
/-- The words so far, while a rule is printed: a slice in a variable of a block of its own. -/
structure PW (w : World) (r : RuleM) (vb : Nat) (xs : List Wd) (W : World) : Prop where
  row : W.heap[w.heap.size]? = some (.cells (ruleC r) 75 (0, 0))
  own : ∃ v, W.heap[vb]? = some (.cells #[v] 55 (0, 0)) ∧ W.ownsRow (w.heap.size + 1) 9 1 v xs.length (strs xs) ∧ v.ownBlock ≠ some vb
  low : Below w.heap.size w W
  lib : LibOK W
  vlt : w.heap.size < vb
theorem strs_len (xs : List Wd) : (strs xs).length = xs.length := by simp [strs]
theorem strs_append (xs ys : List Wd) : strs (xs ++ ys) = strs xs ++ strs ys := by simp [strs]
theorem PW.below {w W W' : World} {r : RuleM} {vb : Nat} {xs : List Wd} (h : PW w r vb xs W) (hb : Below W.heap.size W W') : PW w r vb xs W' := by
  obtain ⟨v, hv, ho, hne⟩ := h.own
  have hr := Array.getElem?_eq_some_iff.1 h.row |>.1
  have hvl := Array.getElem?_eq_some_iff.1 hv |>.1
  exact ⟨(hb.block _ hr).trans h.row, ⟨v, (hb.block _ hvl).trans hv, B1.own_below ho hb, hne⟩, bstep h.low hb h.low.size, h.lib.below hb, h.vlt⟩
theorem pw_set {w W : World} {r : RuleM} {vb : Nat} {xs : List Wd} {u v : Value} (hrow : W.heap[w.heap.size]? = some (.cells (ruleC r) 75 (0, 0))) (hu : W.heap[vb]? = some (.cells #[u] 55 (0, 0))) (ho : W.ownsRow (w.heap.size + 1) 9 1 v xs.length (strs xs)) (hne : v.ownBlock ≠ some vb) (hlow : Below w.heap.size w W) (hlib : LibOK W) (hlib' : LibOK (W.setCell ⟨vb, 0, none⟩ v)) (hv : w.heap.size < vb) : PW w r vb xs (W.setCell ⟨vb, 0, none⟩ v) := by
  refine ⟨?_, ⟨v, ?_, ?_, hne⟩, ?_, hlib', hv⟩
  · rw [heap_setCell_other _ _ _ _ (by simp; omega)]; exact hrow
  · exact heap_setCell_same W vb 0 #[u] 55 v hu
  · refine ho.kept (row := some vb) ⟨rfl, rfl, rfl, by simp, fun k _ hk => heap_setCell_other W ⟨vb, 0, none⟩ k v (fun e => hk (by simp [e]))⟩ ?_
    cases hb : v.ownBlock with
    | none => exact .inl rfl
    | some k => rw [hb] at hne; exact .inr hne
  · exact set_b hlow (Nat.le_of_lt hv)
theorem row_slice {W : World} {base n vb : Nat} {v v' : Value} {xs : List Value} (ho : W.ownsRow base 9 1 v' n xs) (hn : 0 < n) (hv : W.heap[vb]? = some (.cells #[v] 55 (0, 0))) : ∃ g cap, v' = .slice (some ⟨g, 0, none⟩) n cap ∧ g ≠ vb := by
  rcases ho.2 with ⟨_, h0⟩ | ⟨g, cap, cur, rfl, _, hg, _⟩
  · omega
  · refine ⟨g, cap, rfl, ?_⟩
    rintro rfl
    rw [hv] at hg
    cases hg
set_option maxRecDepth 20000 in
set_option maxHeartbeats 2000000 in
theorem add_any {w W : World} {r : RuleM} {vb : Nat} {xs : List Wd} (h : PW w r vb xs W) (hlw : LibOK w) (yes : Bool) (ys : List Wd) (hy : ys ≠ []) (hn : xs.length + ys.length ≤ 1000) (cs : Array Value) (hcs : cs = (strs ys).toArray) (m : Nat) (hm : ys.length = m) :
    Calls Tryz.prog 128 #[.bool yes, .slice (some ⟨W.heap.size, 0, none⟩) m m, .pointer (some ⟨vb, 0, none⟩)] (W.alloc (.cells cs 9)) fun e w' => e = .returned (.tuple #[]) ∧ PW w r vb (if yes then xs ++ ys else xs) w' := by
  subst hcs hm
  cases yes with
  | false =>
    have HP := Lib.hid (h.below (bnew W (.cells (strs ys).toArray 9)))
    clear h
    go_enter Tryz.func128, Tryz.ntmps128
    go_wp2_with fail
    refine bodyPost_end (results_none rfl _ _ _) rfl ?_
    exact ⟨rfl, HP.out⟩
  | true =>
    obtain ⟨v, hv, ho, hne⟩ := h.own
    have hvl := Array.getElem?_eq_some_iff.1 hv |>.1
    have hrl := Array.getElem?_eq_some_iff.1 h.row |>.1
    have hva : (W.alloc (.cells (strs ys).toArray 9)).heap[vb]? = some (.cells #[v] 55 (0, 0)) := ((bnew W _).block _ hvl).trans hv
    have c0 : (W.alloc (.cells (strs ys).toArray 9)).cell? ⟨vb, 0, none⟩ = some v := cell_of_row _ _ _ _ _ _ hva
    have hyl : 0 < ys.length := List.length_pos_iff.2 hy
    have hb1 := bnew W (.cells (strs ys).toArray 9)
    have hcl : ∀ (j : Nat) (u : Value), (strs ys)[j]? = some u → (W.alloc (.cells (strs ys).toArray 9)).cell? ((⟨W.heap.size, 0, none⟩ : Addr).add j) = some u := by
      intro j u hj
      have hadd : (⟨W.heap.size, 0, none⟩ : Addr).add j = ⟨W.heap.size, j, none⟩ := by unfold Addr.add; split <;> simp_all
      rw [hadd, cell_of_row _ _ _ _ _ _ (heap_alloc_new W (.cells (strs ys).toArray 9))]
      simpa using hj
    have h1c : ∀ u ∈ strs ys, u.oneCell' = true := by
      intro u hu
      obtain ⟨x, _, rfl⟩ := List.mem_map.1 hu
      rfl
    have ho1 := ho.alloc (.cells (strs ys).toArray 9)
    have hp1 := h.below hb1
    have hsz : W.heap.size < (W.alloc (.cells (strs ys).toArray 9)).heap.size := by simp
    generalize (W.alloc (.cells (strs ys).toArray 9)) = W1 at *
    have hws := h.low.size
    have HO := Lib.hid ho1
    have HNE := Lib.hid hne
    have HVA := Lib.hid hva
    have HP := Lib.hid hp1
    have HCL := Lib.hid hcl
    have H1C := Lib.hid h1c
    obtain ⟨i0, hi, hz0, hz1, hz2⟩ := info_parts info9
    have HI := Lib.hid hi
    have HZ0 := Lib.hid hz0
    have HZ1 := Lib.hid hz1
    have HZ2 := Lib.hid hz2
    have HVLT := Lib.hid h.vlt
    have HLW := Lib.hid hlw
    have HF := Lib.hid (show xs.length + ys.length ≤ 1000 ∧ 0 < ys.length ∧ w.heap.size ≤ W.heap.size ∧ W.heap.size < W1.heap.size ∧ vb < W.heap.size ∧ w.heap.size < W.heap.size from ⟨hn, hyl, hws, hsz, hvl, hrl⟩)
    clear h ho hne hva hv hi hz0 hz1 hz2 hcl h1c ho1 hp1 hb1 hn hyl hws hsz hvl hrl hy hlw
    go_enter Tryz.func128, Tryz.ntmps128
    go_wp2_with (at_builtin; refine wpList_append_own _ rfl _ _ 55 rfl (w.heap.size + 1) 9 i0 (.string ByteArray.empty) 1 16 Tryz.underlying55 HI.out HZ0.out HZ1.out HZ2.out rfl (by decide) v xs.length (strs xs) rfl HO.out ⟨W.heap.size, 0, none⟩ ys.length ys.length (strs ys) rfl (by rw [strs_len, Nat.mul_one]) HCL.out H1C.out (by have := HF.out; simp [maxLen]; omega) (by have := HF.out; omega) (by have := HF.out; omega) ?_; intro v' w' ho' hg' hnil; have hvb : w'.heap[vb]? = some (.cells #[v] 55 (0, 0)) := (hg'.block vb (by have := HF.out; omega) (fun e => HNE.out e.symm)).trans HVA.out; have c0' : w'.cell? ⟨vb, 0, none⟩ = some v := cell_of_row _ _ _ _ _ _ hvb; have f0' : w'.frozen? ⟨vb, 0, none⟩ = false := frozen_of_row _ _ _ _ _ hvb; obtain ⟨g', cap', hvv, hgne⟩ := row_slice ho' (by have := HF.out; omega) hvb; subst hvv; have HO' := Lib.hid ho'; have HG' := Lib.hid hg'; have HVB := Lib.hid hvb; have HGN := Lib.hid hgne; clear ho' hg' hnil hvb hgne c0)
    refine bodyPost_end (results_none rfl _ _ _) rfl ?_
    have h1 := HP.out.low
    have hlow : Below w.heap.size w _ := Below.grown h1 HG'.out h1.size (fun k hk => by have := (HO.out.lt k hk).1; omega)
    refine ⟨rfl, ?_⟩
    try rw [if_pos rfl]
    refine pw_set ?_ HVB.out ?_ ?_ hlow (HLW.out.below hlow) (HLW.out.below (set_b hlow (Nat.le_of_lt HVLT.out))) HVLT.out
    · exact (HG'.out.block _ (by have := HF.out; omega) (fun e => by have := (HO.out.lt _ e.symm).1; omega)).trans HP.out.row
    · rw [strs_append, List.length_append]; exact HO'.out
    · intro e
      exact HGN.out (by simpa [Value.ownBlock] using e)
end Go.Proofs.YtnmbbnhgoedjgaaGreatDoor.RuU

