/- castellanref20.Same. -/
import Derived.Test.YtnmbbnhgoedjgaaGreatDoorQRuU
import Derived.Test.YtnmbbnhgoedjgaaGreatDoorQCgR
import Derived.Test.YtnmbbnhgoedjgaaGreatDoorQCg0
namespace Go.Proofs.YtnmbbnhgoedjgaaGreatDoor.CgU
open Go Go.RowKit Go.Proofs.YtnmbbnhgoedjgaaGreatDoor.St2 Go.Proofs.YtnmbbnhgoedjgaaGreatDoor.Ru1 Go.Proofs.YtnmbbnhgoedjgaaGreatDoor.Ru3 Go.Proofs.YtnmbbnhgoedjgaaGreatDoor.Ru6 Go.Proofs.YtnmbbnhgoedjgaaGreatDoor.RuB Go.Proofs.YtnmbbnhgoedjgaaGreatDoor.RuC Go.Proofs.YtnmbbnhgoedjgaaGreatDoor.RuS Go.Proofs.YtnmbbnhgoedjgaaGreatDoor.RuY Go.Proofs.YtnmbbnhgoedjgaaGreatDoor.Cf0 Go.Proofs.YtnmbbnhgoedjgaaGreatDoor.Cf4 Go.Proofs.YtnmbbnhgoedjgaaGreatDoor.Cf6 Go.Proofs.YtnmbbnhgoedjgaaGreatDoor.Cg0 Go.Proofs.YtnmbbnhgoedjgaaGreatDoor.CgQ Go.Proofs.YtnmbbnhgoedjgaaGreatDoor.Cg4 Go.Proofs.YtnmbbnhgoedjgaaGreatDoor.CgS Go.Proofs.YtnmbbnhgoedjgaaGreatDoor.CgT
set_option linter.unusedVariables false
set_option linter.unusedSimpArgs false
/-- Two boxes, and two places that are read. -/
structure PrE (W : World) (cs ds : Array Value) (b o : Nat) (l : List Value) (b' o' : Nat) (l' : List Value) (w : World) : Prop where
  pr : PrD W cs ds w
  r1 : w.rangeAt b o l
  h1 : b < w.heap.size
  r2 : w.rangeAt b' o' l'
  h2 : b' < w.heap.size
theorem PrE.below {W : World} {cs ds : Array Value} {b o b' o' : Nat} {l l' : List Value} {w w' : World} (h : PrE W cs ds b o l b' o' l' w) (hb : Below w.heap.size w w') : PrE W cs ds b o l b' o' l' w' :=
  ⟨h.pr.below hb, range_below h.r1 hb h.h1, Nat.lt_of_lt_of_le h.h1 hb.size, range_below h.r2 hb h.h2, Nat.lt_of_lt_of_le h.h2 hb.size⟩
theorem PrE.a0 {W : World} {cs ds : Array Value} {b o b' o' : Nat} {v : Value} {l l' : List Value} {w : World} (h : PrE W cs ds b o (v :: l) b' o' l' w) : w.cell? ⟨b, o, none⟩ = some v := h.r1 0 v rfl
theorem PrE.a1 {W : World} {cs ds : Array Value} {b o b' o' : Nat} {u v : Value} {l l' : List Value} {w : World} (h : PrE W cs ds b o (u :: v :: l) b' o' l' w) : w.cell? ⟨b, o + 1, none⟩ = some v := h.r1 1 v rfl
theorem PrE.b0 {W : World} {cs ds : Array Value} {b o b' o' : Nat} {v : Value} {l l' : List Value} {w : World} (h : PrE W cs ds b o l b' o' (v :: l') w) : w.cell? ⟨b', o', none⟩ = some v := h.r2 0 v rfl
theorem PrE.b1 {W : World} {cs ds : Array Value} {b o b' o' : Nat} {u v : Value} {l l' : List Value} {w : World} (h : PrE W cs ds b o l b' o' (u :: v :: l') w) : w.cell? ⟨b', o' + 1, none⟩ = some v := h.r2 1 v rfl
theorem not_same {α : Type} (f : ConfM → List α) (c d : ConfM) (k : Nat) (x y : α) (hx : (f c)[k]? = some x) (hy : (f d)[k]? = some y) (h : x ≠ y) : c ≠ d := by
  rintro rfl
  rw [hx] at hy
  exact h (Option.some.inj hy)
set_option maxRecDepth 20000 in
set_option maxHeartbeats 8000000 in
theorem rsame_conf (c d : ConfM) (v0 v1 v2 v3 u0 u1 u2 u3 : Value) (ts us : List (NamedM × Value)) (W : World) (h : ConfIn W v0 v1 v2 v3 ts c) (h' : ConfIn W u0 u1 u2 u3 us d) (hf : FitC c) (hf' : FitC d) :
    Calls Tryz.prog 11 #[.agg (confC v0 v1 v2 v3 c), .agg (confC u0 u1 u2 u3 d)] W fun e w' => e = .returned (.bool (decide (c = d))) ∧ Below W.heap.size W w' := by
  have K1 := Lib.hid (fun W' (hb : Below W.heap.size W W') => eql_rows pfxL pfxL_len ne_pfx c.bogons d.bogons (by have := hf.nb; omega) (by have := hf'.nb; omega) v1 u1 W' (h.below hb).bogons (h'.below hb).bogons)
  have HW := Lib.hid h
  have HX' := Lib.hid h'
  have hni := hf.ni
  have hnt : ts.length ≤ 140737488355328 := by have := hf.nt; have := h.tlen; omega
  have hnr := hf.nr
  have HFt := Lib.hid hf.tl
  have HFu := Lib.hid hf'.tl
  have htl := Lib.hid h.tlen
  have hul := Lib.hid h'.tlen
  obtain ⟨A0, cap0, e0, -, -⟩ := h.ifaces
  obtain ⟨A2, cap2, e2, -, -⟩ := h.tables
  obtain ⟨A3, cap3, e3, -, -⟩ := h.rules
  obtain ⟨B0, dap0, f0, -, -⟩ := h'.ifaces
  obtain ⟨B2, dap2, f2, -, -⟩ := h'.tables
  obtain ⟨B3, dap3, f3, -, -⟩ := h'.rules
  subst e0 e2 e3 f0 f2 f3
  have c0 : (confC (.slice A0 c.ifaces.length cap0) v1 (.slice A2 ts.length cap2) (.slice A3 c.rules.length cap3) c)[0]? = some (.slice A0 c.ifaces.length cap0) := rfl
  have c1 : (confC (.slice A0 c.ifaces.length cap0) v1 (.slice A2 ts.length cap2) (.slice A3 c.rules.length cap3) c)[1]? = some v1 := rfl
  have c2 : (confC (.slice A0 c.ifaces.length cap0) v1 (.slice A2 ts.length cap2) (.slice A3 c.rules.length cap3) c)[2]? = some (.slice A2 ts.length cap2) := rfl
  have c3 : (confC (.slice A0 c.ifaces.length cap0) v1 (.slice A2 ts.length cap2) (.slice A3 c.rules.length cap3) c)[3]? = some (.slice A3 c.rules.length cap3) := rfl
  have c4 : (confC (.slice A0 c.ifaces.length cap0) v1 (.slice A2 ts.length cap2) (.slice A3 c.rules.length cap3) c)[4]? = some (.int .i64 c.flows) := rfl
  have c5 : (confC (.slice A0 c.ifaces.length cap0) v1 (.slice A2 ts.length cap2) (.slice A3 c.rules.length cap3) c)[5]? = some (.int .i64 c.errors) := rfl
  have d0 : (confC (.slice B0 d.ifaces.length dap0) u1 (.slice B2 us.length dap2) (.slice B3 d.rules.length dap3) d)[0]? = some (.slice B0 d.ifaces.length dap0) := rfl
  have d1 : (confC (.slice B0 d.ifaces.length dap0) u1 (.slice B2 us.length dap2) (.slice B3 d.rules.length dap3) d)[1]? = some u1 := rfl
  have d2 : (confC (.slice B0 d.ifaces.length dap0) u1 (.slice B2 us.length dap2) (.slice B3 d.rules.length dap3) d)[2]? = some (.slice B2 us.length dap2) := rfl
  have d3 : (confC (.slice B0 d.ifaces.length dap0) u1 (.slice B2 us.length dap2) (.slice B3 d.rules.length dap3) d)[3]? = some (.slice B3 d.rules.length dap3) := rfl
  have d4 : (confC (.slice B0 d.ifaces.length dap0) u1 (.slice B2 us.length dap2) (.slice B3 d.rules.length dap3) d)[4]? = some (.int .i64 d.flows) := rfl
  have d5 : (confC (.slice B0 d.ifaces.length dap0) u1 (.slice B2 us.length dap2) (.slice B3 d.rules.length dap3) d)[5]? = some (.int .i64 d.errors) := rfl
  generalize confC (.slice A0 c.ifaces.length cap0) v1 (.slice A2 ts.length cap2) (.slice A3 c.rules.length cap3) c = cs at *
  generalize confC (.slice B0 d.ifaces.length dap0) u1 (.slice B2 us.length dap2) (.slice B3 d.rules.length dap3) d = ds at *
  have HP := Lib.hid (PrD.new W cs ds)
  have HC : Hid (_ ∧ _ ∧ _ ∧ _) := ⟨c0, c1, c2, c3⟩
  have HD : Hid (_ ∧ _ ∧ _ ∧ _) := ⟨d0, d1, d2, d3⟩
  have q4 := HP.out.c c4
  have q5 := HP.out.c c5
  have q0 := HP.out.c c0
  have q1 := HP.out.c c1
  have r4 := HP.out.d d4
  have r5 := HP.out.d d5
  have r0 := HP.out.d d0
  have r1 := HP.out.d d1
  clear h h' hf hf' c0 c1 c2 c3 c4 c5 d0 d1 d2 d3 d4 d5
  generalize hb1 : decide (c.bogons = d.bogons) = b1 at *
  cases p0 : (c.flows != d.flows) with
  | true =>
    have HF := Lib.hid (show decide (c = d) = false by simp only [decide_eq_false_iff_not]; rintro rfl; simp at p0)
    go_enter Tryz.func11, Tryz.ntmps11
    go_wp2_with (go_at_call 31; (with_reducible refine (K1.out _ HP.out.low).mono ?_); rintro e w1 ⟨rfl, hb1'⟩; have HP := Lib.hid (HP.out.below hb1'); have q2 := HP.out.c HC.out.2.2.1; have q3 := HP.out.c HC.out.2.2.2; have r2 := HP.out.d HD.out.2.2.1; have r3 := HP.out.d HD.out.2.2.2; clear hb1')
    go_ret
    exact ⟨by rw [HF.out]; rfl, HP.out.low⟩
  | false =>
  cases p1 : (c.errors != d.errors) with
  | true =>
    have HF := Lib.hid (show decide (c = d) = false by simp only [decide_eq_false_iff_not]; rintro rfl; simp at p1)
    go_enter Tryz.func11, Tryz.ntmps11
    go_wp2_with (go_at_call 31; (with_reducible refine (K1.out _ HP.out.low).mono ?_); rintro e w1 ⟨rfl, hb1'⟩; have HP := Lib.hid (HP.out.below hb1'); have q2 := HP.out.c HC.out.2.2.1; have q3 := HP.out.c HC.out.2.2.2; have r2 := HP.out.d HD.out.2.2.1; have r3 := HP.out.d HD.out.2.2.2; clear hb1')
    go_ret
    exact ⟨by rw [HF.out]; rfl, HP.out.low⟩
  | false =>
  cases p2 : ((c.ifaces.length : Int) != (d.ifaces.length : Int)) with
  | true =>
    have HF := Lib.hid (show decide (c = d) = false by simp only [decide_eq_false_iff_not]; rintro rfl; simp at p2)
    go_enter Tryz.func11, Tryz.ntmps11
    go_wp2_with (go_at_call 31; (with_reducible refine (K1.out _ HP.out.low).mono ?_); rintro e w1 ⟨rfl, hb1'⟩; have HP := Lib.hid (HP.out.below hb1'); have q2 := HP.out.c HC.out.2.2.1; have q3 := HP.out.c HC.out.2.2.2; have r2 := HP.out.d HD.out.2.2.1; have r3 := HP.out.d HD.out.2.2.2; clear hb1')
    go_ret
    exact ⟨by rw [HF.out]; rfl, HP.out.low⟩
  | false =>
  cases b1 with
  | false =>
    have HF := Lib.hid (show decide (c = d) = false by simp only [decide_eq_false_iff_not]; rintro rfl; simp at hb1)
    go_enter Tryz.func11, Tryz.ntmps11
    go_wp2_with (go_at_call 31; (with_reducible refine (K1.out _ HP.out.low).mono ?_); rintro e w1 ⟨rfl, hb1'⟩; have HP := Lib.hid (HP.out.below hb1'); have q2 := HP.out.c HC.out.2.2.1; have q3 := HP.out.c HC.out.2.2.2; have r2 := HP.out.d HD.out.2.2.1; have r3 := HP.out.d HD.out.2.2.2; clear hb1')
    go_ret
    exact ⟨by rw [HF.out]; rfl, HP.out.low⟩
  | true =>
  cases p4 : ((ts.length : Int) != (us.length : Int)) with
  | true =>
    have HF := Lib.hid (show decide (c = d) = false by simp only [decide_eq_false_iff_not]; rintro rfl; rw [htl.out, hul.out] at p4; simp at p4)
    go_enter Tryz.func11, Tryz.ntmps11
    go_wp2_with (go_at_call 31; (with_reducible refine (K1.out _ HP.out.low).mono ?_); rintro e w1 ⟨rfl, hb1'⟩; have HP := Lib.hid (HP.out.below hb1'); have q2 := HP.out.c HC.out.2.2.1; have q3 := HP.out.c HC.out.2.2.2; have r2 := HP.out.d HD.out.2.2.1; have r3 := HP.out.d HD.out.2.2.2; clear hb1')
    go_ret
    exact ⟨by rw [HF.out]; rfl, HP.out.low⟩
  | false =>
  cases p5 : ((c.rules.length : Int) != (d.rules.length : Int)) with
  | true =>
    have HF := Lib.hid (show decide (c = d) = false by simp only [decide_eq_false_iff_not]; rintro rfl; simp at p5)
    go_enter Tryz.func11, Tryz.ntmps11
    go_wp2_with (go_at_call 31; (with_reducible refine (K1.out _ HP.out.low).mono ?_); rintro e w1 ⟨rfl, hb1'⟩; have HP := Lib.hid (HP.out.below hb1'); have q2 := HP.out.c HC.out.2.2.1; have q3 := HP.out.c HC.out.2.2.2; have r2 := HP.out.d HD.out.2.2.1; have r3 := HP.out.d HD.out.2.2.2; clear hb1')
    go_ret
    exact ⟨by rw [HF.out]; rfl, HP.out.low⟩
  | false =>
  have P0 : Hid (c.flows = d.flows) := by simpa [Hid] using p0
  have P1 : Hid (c.errors = d.errors) := by simpa [Hid] using p1
  have P2 : Hid (c.ifaces.length = d.ifaces.length) := Lib.hid (by have h : (c.ifaces.length : Int) = d.ifaces.length := by simpa using p2
                                                                   omega)
  have P4 : Hid (ts.length = us.length) := Lib.hid (by have h : (ts.length : Int) = us.length := by simpa using p4
                                                       omega)
  have P5 : Hid (c.rules.length = d.rules.length) := Lib.hid (by have h : (c.rules.length : Int) = d.rules.length := by simpa using p5
                                                                 omega)
  have hb1 := of_decide_eq_true hb1
  have hb1 : decide (c.bogons = d.bogons) = true := by simpa using hb1
  go_enter Tryz.func11, Tryz.ntmps11
  go_wp2_with (go_at_call 31; (with_reducible refine (K1.out _ HP.out.low).mono ?_); rintro e w1 ⟨rfl, hb1'⟩; have HP := Lib.hid (HP.out.below hb1'); have q2 := HP.out.c HC.out.2.2.1; have q3 := HP.out.c HC.out.2.2.2; have r2 := HP.out.d HD.out.2.2.1; have r3 := HP.out.d HD.out.2.2.2; clear hb1')
  go_loopw [5] (fun s5 wr => ∃ k : Nat, k ≤ c.ifaces.length ∧ s5 = .int .i64 k ∧ (∀ j, j < k → c.ifaces[j]? = d.ifaces[j]?) ∧ PrD W cs ds wr) (fun s5 _ => c.ifaces.length - (intOf s5).toNat)
  case atStart => exact ⟨0, by omega, rfl, fun j hj => absurd hj (by omega), HP.out⟩
  case round =>
    obtain ⟨k, hkl, rfl, hno, hp⟩ := hrel
    have HG := Lib.hid hno
    have HP := Lib.hid hp
    clear hno
    by_cases hlt : k < c.ifaces.length
    · have hlt' : (k : Int) < c.ifaces.length := by omega
      have hlt2 : (k : Int) < d.ifaces.length := by have := P2.out; omega
      have hk63 : (k : Int) + 1 ≤ 9223372036854775807 := by omega
      obtain ⟨x, hx⟩ : ∃ x, c.ifaces[k]? = some x := ⟨_, List.getElem?_eq_getElem hlt⟩
      obtain ⟨y, hy⟩ : ∃ y, d.ifaces[k]? = some y := ⟨_, List.getElem?_eq_getElem (by have := P2.out; omega)⟩
      obtain ⟨b, o, c1, hv1, -, hbl, hr⟩ := HW.out.ifaces.at ifL_len k x hx
      obtain ⟨b', o', c2, hv2, -, hbl', hr'⟩ := HX'.out.ifaces.at ifL_len k y hy
      injection hv1 with e1 e2 e3
      subst e1 e3
      injection hv2 with e1 e2 e3
      subst e1 e3
      have q0 := hp.c HC.out.1
      have r0 := hp.d HD.out.1
      have HE := Lib.hid ((PrE.mk hp (range_below hr hp.low hbl) (Nat.lt_of_lt_of_le hbl hp.low.size) (range_below hr' hp.low hbl') (Nat.lt_of_lt_of_le hbl' hp.low.size)).below (Below.refl _ _).drew)
      have HI := Lib.hid (show (Tryz.prog.info? 45).map (·.size) = some (ifL x).length by kernel_rfl)
      have HJ := Lib.hid (show (Tryz.prog.info? 45).map (·.size) = some (ifL y).length by kernel_rfl)
      have hxy := ne_iface x y
      have HM : Hid (x = y → ∀ j, j < k + 1 → c.ifaces[j]? = d.ifaces[j]?) := fun e j hj => by
        by_cases ej : j = k
        · subst ej; rw [hx, hy, e]
        · exact HG.out j (by omega)
      have HF : Hid (x ≠ y → decide (c = d) = false) := fun e => by
        simp only [decide_eq_false_iff_not]
        exact not_same (·.ifaces) c d k x y hx hy e
      clear hr hr' hx hy
      generalize ifL x = fx at *
      generalize ifL y = fy at *
      cases hd : decide (x = y) with
      | true =>
        have hM := Lib.hid (HM.out (of_decide_eq_true hd))
        rw [hd] at hxy
        go_wp2_with fail
        refine region_in (PrE W cs ds b (o + k * 5) fx b' (o' + k * 5) fy) (by kernel_rfl) (by kernel_rfl) (HE.out) ?_
        repeat (first
          | go_big_quiet_skip
          | (go_big_quiet_want; first
            | ((with_reducible refine load_one W.heap.size 0 ?_ (fun p => p.property.pr.c HC.out.1) Tryz.isAgg22 ?_); rfl; simp only [Act.put, List.setIfInBounds_toArray, List.set_cons_zero, List.set_cons_succ]; go_big_quiet_on)
            | ((with_reducible refine load_one (W.heap.size + 1) 0 ?_ (fun p => p.property.pr.d HD.out.1) Tryz.isAgg22 ?_); rfl; simp only [Act.put, List.setIfInBounds_toArray, List.set_cons_zero, List.set_cons_succ]; go_big_quiet_on)
            | ((with_reducible refine load_in b (o + k * 5) ?_ (fun p => p.property.r1) Tryz.underlying45 HI.out ?_); rfl; simp only [Act.put, List.setIfInBounds_toArray, List.set_cons_zero, List.set_cons_succ]; go_big_quiet_on)
            | ((with_reducible refine load_in b' (o' + k * 5) ?_ (fun p => p.property.r2) Tryz.underlying45 HJ.out ?_); rfl; simp only [Act.put, List.setIfInBounds_toArray, List.set_cons_zero, List.set_cons_succ]; go_big_quiet_on)
            | (go_big_quiet_op; first
              | go_big_quiet_on
              | ((refine ⟨_, fun _ _ => rfl, ?_⟩); go_big_quiet_on))))
        refine wpQuiet_nil ?_
        rintro _ ⟨⟨w2, h2⟩, rfl⟩
        have HP := Lib.hid h2.pr
        clear h2
        go_wp2_with fail
        go_roundw
        case rel => exact ⟨k + 1, by omega, by go_num, hM.out, HP.out⟩
        case measure => simp only [intOf]; go_num
      | false =>
        have hF := Lib.hid (HF.out (of_decide_eq_false hd))
        rw [hd] at hxy
        go_wp2_with fail
        refine region_in (PrE W cs ds b (o + k * 5) fx b' (o' + k * 5) fy) (by kernel_rfl) (by kernel_rfl) (HE.out) ?_
        repeat (first
          | go_big_quiet_skip
          | (go_big_quiet_want; first
            | ((with_reducible refine load_one W.heap.size 0 ?_ (fun p => p.property.pr.c HC.out.1) Tryz.isAgg22 ?_); rfl; simp only [Act.put, List.setIfInBounds_toArray, List.set_cons_zero, List.set_cons_succ]; go_big_quiet_on)
            | ((with_reducible refine load_one (W.heap.size + 1) 0 ?_ (fun p => p.property.pr.d HD.out.1) Tryz.isAgg22 ?_); rfl; simp only [Act.put, List.setIfInBounds_toArray, List.set_cons_zero, List.set_cons_succ]; go_big_quiet_on)
            | ((with_reducible refine load_in b (o + k * 5) ?_ (fun p => p.property.r1) Tryz.underlying45 HI.out ?_); rfl; simp only [Act.put, List.setIfInBounds_toArray, List.set_cons_zero, List.set_cons_succ]; go_big_quiet_on)
            | ((with_reducible refine load_in b' (o' + k * 5) ?_ (fun p => p.property.r2) Tryz.underlying45 HJ.out ?_); rfl; simp only [Act.put, List.setIfInBounds_toArray, List.set_cons_zero, List.set_cons_succ]; go_big_quiet_on)
            | (go_big_quiet_op; first
              | go_big_quiet_on
              | ((refine ⟨_, fun _ _ => rfl, ?_⟩); go_big_quiet_on))))
        refine wpQuiet_nil ?_
        rintro _ ⟨⟨w2, h2⟩, rfl⟩
        have HP := Lib.hid h2.pr
        clear h2
        go_wp2_with fail
        go_ret
        exact ⟨by rw [hF.out]; rfl, HP.out.low⟩
    · have hge : ¬ (k : Int) < c.ifaces.length := by omega
      have hke : k = c.ifaces.length := by omega
      have HT1 := Lib.hid (show c.ifaces = d.ifaces from same_at _ _ P2.out (by rw [← hke]; exact HG.out))
      clear q0 r0
      have q0 := hp.c HC.out.1
      clear HG hkl
      go_wp2_with fail
      go_loopw [6] (fun s6 wr => ∃ k : Nat, k ≤ ts.length ∧ s6 = .int .i64 k ∧ (∀ j, j < k → c.tables[j]? = d.tables[j]?) ∧ PrD W cs ds wr) (fun s6 _ => ts.length - (intOf s6).toNat)
      case atStart => exact ⟨0, by omega, rfl, fun j hj => absurd hj (by omega), HP.out⟩
      case round =>
        obtain ⟨k, hkl, rfl, hno, hp⟩ := hrel
        have HG := Lib.hid hno
        have HP := Lib.hid hp
        clear hno
        by_cases hlt : k < ts.length
        · have hlt' : (k : Int) < ts.length := by omega
          have hlt2 : (k : Int) < us.length := by have := P4.out; omega
          have hk63 : (k : Int) + 1 ≤ 9223372036854775807 := by omega
          obtain ⟨x, hx⟩ : ∃ x, ts[k]? = some x := ⟨_, List.getElem?_eq_getElem hlt⟩
          obtain ⟨y, hy⟩ : ∃ y, us[k]? = some y := ⟨_, List.getElem?_eq_getElem (by have := P4.out; omega)⟩
          obtain ⟨b, o, c1, hv1, -, hbl, hr⟩ := HW.out.tables.at nmL_len k x hx
          obtain ⟨b', o', c2, hv2, -, hbl', hr'⟩ := HX'.out.tables.at nmL_len k y hy
          injection hv1 with e1 e2 e3
          subst e1 e3
          injection hv2 with e1 e2 e3
          subst e1 e3
          have q2 := hp.c HC.out.2.2.1
          have r2 := hp.d HD.out.2.2.1
          have hxt : c.tables[k]? = some x.1 := by rw [← HW.out.tab, List.getElem?_map, hx]; rfl
          have hyt : d.tables[k]? = some y.1 := by rw [← HX'.out.tab, List.getElem?_map, hy]; rfl
          have KR := Lib.hid (fun W' (hb : Below W.heap.size W W') => eql_rows pfxL pfxL_len ne_pfx x.1.l y.1.l (by have := (HFt.out _ (List.mem_of_getElem? hxt)).2; omega) (by have := (HFu.out _ (List.mem_of_getElem? hyt)).2; omega) x.2 y.2 W' ((HW.out.below hb).tin x (List.mem_of_getElem? hx)) ((HX'.out.below hb).tin y (List.mem_of_getElem? hy)))
          have HM : Hid (x.1 = y.1 → ∀ j, j < k + 1 → c.tables[j]? = d.tables[j]?) := fun e j hj => by
            by_cases ej : j = k
            · subst ej; rw [hxt, hyt, e]
            · exact HG.out j (by omega)
          have HF : Hid (x.1 ≠ y.1 → decide (c = d) = false) := fun e => by
            simp only [decide_eq_false_iff_not]
            exact not_same (·.tables) c d k x.1 y.1 hxt hyt e
          have hdec := named_dec x.1 y.1
          clear hx hy hxt hyt
          obtain ⟨⟨nx, lx⟩, ux⟩ := x
          obtain ⟨⟨ny, ly⟩, uy⟩ := y
          dsimp only at *
          have HE := Lib.hid ((PrE.mk hp (show wr.rangeAt b (o + k * 2) [Value.string ⟨nx.toArray⟩, ux] from range_below hr hp.low hbl) (Nat.lt_of_lt_of_le hbl hp.low.size) (show wr.rangeAt b' (o' + k * 2) [Value.string ⟨ny.toArray⟩, uy] from range_below hr' hp.low hbl') (Nat.lt_of_lt_of_le hbl' hp.low.size)).below (Below.refl _ _).drew)
          clear hr hr'
          cases hn : (nx == ny) with
          | false =>
            have hF := Lib.hid (HF.out (by intro e; rw [decide_eq_true e, hn] at hdec; simp at hdec))
            have hb := Lib.hid hn
            go_wp2_with fail
            refine region_in (PrE W cs ds b (o + k * 2) [Value.string ⟨nx.toArray⟩, ux] b' (o' + k * 2) [Value.string ⟨ny.toArray⟩, uy]) (by kernel_rfl) (by kernel_rfl) (HE.out) ?_
            repeat (first
              | go_big_quiet_skip
              | (go_big_quiet_want; first
                | ((with_reducible refine load_one W.heap.size 2 ?_ (fun p => p.property.pr.c HC.out.2.2.1) Tryz.isAgg24 ?_); rfl; simp only [Act.put, List.setIfInBounds_toArray, List.set_cons_zero, List.set_cons_succ]; go_big_quiet_on)
                | ((with_reducible refine load_one (W.heap.size + 1) 2 ?_ (fun p => p.property.pr.d HD.out.2.2.1) Tryz.isAgg24 ?_); rfl; simp only [Act.put, List.setIfInBounds_toArray, List.set_cons_zero, List.set_cons_succ]; go_big_quiet_on)
                | ((with_reducible refine load_one b (o + k * 2) ?_ (fun p => p.property.a0) Tryz.isAgg9 ?_); rfl; simp only [Act.put, List.setIfInBounds_toArray, List.set_cons_zero, List.set_cons_succ]; go_big_quiet_on)
                | ((with_reducible refine load_one b' (o' + k * 2) ?_ (fun p => p.property.b0) Tryz.isAgg9 ?_); rfl; simp only [Act.put, List.setIfInBounds_toArray, List.set_cons_zero, List.set_cons_succ]; go_big_quiet_on)
                | ((with_reducible refine load_one b (o + k * 2 + 1) ?_ (fun p => p.property.a1) Tryz.isAgg23 ?_); rfl; simp only [Act.put, List.setIfInBounds_toArray, List.set_cons_zero, List.set_cons_succ]; go_big_quiet_on)
                | ((with_reducible refine load_one b' (o' + k * 2 + 1) ?_ (fun p => p.property.b1) Tryz.isAgg23 ?_); rfl; simp only [Act.put, List.setIfInBounds_toArray, List.set_cons_zero, List.set_cons_succ]; go_big_quiet_on)
                | (go_big_quiet_op; first
                  | go_big_quiet_on
                  | ((refine ⟨_, fun _ _ => rfl, ?_⟩); go_big_quiet_on)
                  | (apply Exists.intro; (with_reducible refine ⟨fun W1 hW1 => (KR.out W1 hW1.pr.low).mono ?_, ?_⟩); (rintro e w1 ⟨rfl, hb1⟩; exact ⟨rfl, hW1.below hb1⟩); go_big_quiet_on))))
            refine wpQuiet_nil ?_
            rintro _ ⟨⟨w2, h2⟩, rfl⟩
            have HP := Lib.hid h2.pr
            clear h2
            go_wp2_with fail
            go_ret
            exact ⟨by rw [hF.out]; rfl, HP.out.low⟩
          | true =>
          cases hd : decide (lx = ly) with
          | true =>
            have hM := Lib.hid (HM.out (by rw [hn, hd] at hdec; exact of_decide_eq_true hdec))
            rw [hd] at KR
            go_wp2_with fail
            refine region_in (PrE W cs ds b (o + k * 2) [Value.string ⟨nx.toArray⟩, ux] b' (o' + k * 2) [Value.string ⟨ny.toArray⟩, uy]) (by kernel_rfl) (by kernel_rfl) (HE.out) ?_
            repeat (first
              | go_big_quiet_skip
              | (go_big_quiet_want; first
                | ((with_reducible refine load_one W.heap.size 2 ?_ (fun p => p.property.pr.c HC.out.2.2.1) Tryz.isAgg24 ?_); rfl; simp only [Act.put, List.setIfInBounds_toArray, List.set_cons_zero, List.set_cons_succ]; go_big_quiet_on)
                | ((with_reducible refine load_one (W.heap.size + 1) 2 ?_ (fun p => p.property.pr.d HD.out.2.2.1) Tryz.isAgg24 ?_); rfl; simp only [Act.put, List.setIfInBounds_toArray, List.set_cons_zero, List.set_cons_succ]; go_big_quiet_on)
                | ((with_reducible refine load_one b (o + k * 2) ?_ (fun p => p.property.a0) Tryz.isAgg9 ?_); rfl; simp only [Act.put, List.setIfInBounds_toArray, List.set_cons_zero, List.set_cons_succ]; go_big_quiet_on)
                | ((with_reducible refine load_one b' (o' + k * 2) ?_ (fun p => p.property.b0) Tryz.isAgg9 ?_); rfl; simp only [Act.put, List.setIfInBounds_toArray, List.set_cons_zero, List.set_cons_succ]; go_big_quiet_on)
                | ((with_reducible refine load_one b (o + k * 2 + 1) ?_ (fun p => p.property.a1) Tryz.isAgg23 ?_); rfl; simp only [Act.put, List.setIfInBounds_toArray, List.set_cons_zero, List.set_cons_succ]; go_big_quiet_on)
                | ((with_reducible refine load_one b' (o' + k * 2 + 1) ?_ (fun p => p.property.b1) Tryz.isAgg23 ?_); rfl; simp only [Act.put, List.setIfInBounds_toArray, List.set_cons_zero, List.set_cons_succ]; go_big_quiet_on)
                | (go_big_quiet_op; first
                  | go_big_quiet_on
                  | ((refine ⟨_, fun _ _ => rfl, ?_⟩); go_big_quiet_on)
                  | (apply Exists.intro; (with_reducible refine ⟨fun W1 hW1 => (KR.out W1 hW1.pr.low).mono ?_, ?_⟩); (rintro e w1 ⟨rfl, hb1⟩; exact ⟨rfl, hW1.below hb1⟩); go_big_quiet_on))))
            refine wpQuiet_nil ?_
            rintro _ ⟨⟨w2, h2⟩, rfl⟩
            have HP := Lib.hid h2.pr
            clear h2
            go_wp2_with fail
            go_roundw
            case rel => exact ⟨k + 1, by omega, by go_num, hM.out, HP.out⟩
            case measure => simp only [intOf]; go_num
          | false =>
            have hF := Lib.hid (HF.out (by intro e; rw [hn, hd] at hdec; exact absurd e (of_decide_eq_false hdec)))
            rw [hd] at KR
            go_wp2_with fail
            refine region_in (PrE W cs ds b (o + k * 2) [Value.string ⟨nx.toArray⟩, ux] b' (o' + k * 2) [Value.string ⟨ny.toArray⟩, uy]) (by kernel_rfl) (by kernel_rfl) (HE.out) ?_
            repeat (first
              | go_big_quiet_skip
              | (go_big_quiet_want; first
                | ((with_reducible refine load_one W.heap.size 2 ?_ (fun p => p.property.pr.c HC.out.2.2.1) Tryz.isAgg24 ?_); rfl; simp only [Act.put, List.setIfInBounds_toArray, List.set_cons_zero, List.set_cons_succ]; go_big_quiet_on)
                | ((with_reducible refine load_one (W.heap.size + 1) 2 ?_ (fun p => p.property.pr.d HD.out.2.2.1) Tryz.isAgg24 ?_); rfl; simp only [Act.put, List.setIfInBounds_toArray, List.set_cons_zero, List.set_cons_succ]; go_big_quiet_on)
                | ((with_reducible refine load_one b (o + k * 2) ?_ (fun p => p.property.a0) Tryz.isAgg9 ?_); rfl; simp only [Act.put, List.setIfInBounds_toArray, List.set_cons_zero, List.set_cons_succ]; go_big_quiet_on)
                | ((with_reducible refine load_one b' (o' + k * 2) ?_ (fun p => p.property.b0) Tryz.isAgg9 ?_); rfl; simp only [Act.put, List.setIfInBounds_toArray, List.set_cons_zero, List.set_cons_succ]; go_big_quiet_on)
                | ((with_reducible refine load_one b (o + k * 2 + 1) ?_ (fun p => p.property.a1) Tryz.isAgg23 ?_); rfl; simp only [Act.put, List.setIfInBounds_toArray, List.set_cons_zero, List.set_cons_succ]; go_big_quiet_on)
                | ((with_reducible refine load_one b' (o' + k * 2 + 1) ?_ (fun p => p.property.b1) Tryz.isAgg23 ?_); rfl; simp only [Act.put, List.setIfInBounds_toArray, List.set_cons_zero, List.set_cons_succ]; go_big_quiet_on)
                | (go_big_quiet_op; first
                  | go_big_quiet_on
                  | ((refine ⟨_, fun _ _ => rfl, ?_⟩); go_big_quiet_on)
                  | (apply Exists.intro; (with_reducible refine ⟨fun W1 hW1 => (KR.out W1 hW1.pr.low).mono ?_, ?_⟩); (rintro e w1 ⟨rfl, hb1⟩; exact ⟨rfl, hW1.below hb1⟩); go_big_quiet_on))))
            refine wpQuiet_nil ?_
            rintro _ ⟨⟨w2, h2⟩, rfl⟩
            have HP := Lib.hid h2.pr
            clear h2
            go_wp2_with fail
            go_ret
            exact ⟨by rw [hF.out]; rfl, HP.out.low⟩
        · have hge : ¬ (k : Int) < ts.length := by omega
          have hke : k = ts.length := by omega
          have HT2 := Lib.hid (show c.tables = d.tables from same_at _ _ (by rw [← htl.out, ← hul.out]; exact P4.out) (by rw [← htl.out, ← hke]; exact HG.out))
          have q2 := hp.c HC.out.2.2.1
          clear HG hkl
          go_wp2_with fail
          go_loopw [7] (fun s7 wr => ∃ k : Nat, k ≤ c.rules.length ∧ s7 = .int .i64 k ∧ (∀ j, j < k → c.rules[j]? = d.rules[j]?) ∧ PrD W cs ds wr) (fun s7 _ => c.rules.length - (intOf s7).toNat)
          case atStart => exact ⟨0, by omega, rfl, fun j hj => absurd hj (by omega), HP.out⟩
          case round =>
            obtain ⟨k, hkl, rfl, hno, hp⟩ := hrel
            have HG := Lib.hid hno
            have HP := Lib.hid hp
            clear hno
            by_cases hlt : k < c.rules.length
            · have hlt' : (k : Int) < c.rules.length := by omega
              have hlt2 : (k : Int) < d.rules.length := by have := P5.out; omega
              have hk63 : (k : Int) + 1 ≤ 9223372036854775807 := by omega
              obtain ⟨x, hx⟩ : ∃ x, c.rules[k]? = some x := ⟨_, List.getElem?_eq_getElem hlt⟩
              obtain ⟨y, hy⟩ : ∃ y, d.rules[k]? = some y := ⟨_, List.getElem?_eq_getElem (by have := P5.out; omega)⟩
              obtain ⟨b, o, c1, hv1, -, hbl, hr⟩ := HW.out.rules.at rlL_len k x hx
              obtain ⟨b', o', c2, hv2, -, hbl', hr'⟩ := HX'.out.rules.at rlL_len k y hy
              injection hv1 with e1 e2 e3
              subst e1 e3
              injection hv2 with e1 e2 e3
              subst e1 e3
              have q3 := hp.c HC.out.2.2.2
              have r3 := hp.d HD.out.2.2.2
              have HE := Lib.hid ((PrE.mk hp (range_below hr hp.low hbl) (Nat.lt_of_lt_of_le hbl hp.low.size) (range_below hr' hp.low hbl') (Nat.lt_of_lt_of_le hbl' hp.low.size)).below (Below.refl _ _).drew)
              have HI := Lib.hid (show (Tryz.prog.info? 75).map (·.size) = some (rlL x).length from info32 x)
              have HJ := Lib.hid (show (Tryz.prog.info? 75).map (·.size) = some (rlL y).length from info32 y)
              have KS := Lib.hid (fun W' => rsame_any x y W')
              have KS := Lib.hid (show ∀ W', Calls Tryz.prog 32 #[.agg (rlL x).toArray, .agg (rlL y).toArray] W' _ from by unfold rlL; rw [Array.toArray_toList, Array.toArray_toList]; exact KS.out)
              have HM : Hid (x = y → ∀ j, j < k + 1 → c.rules[j]? = d.rules[j]?) := fun e j hj => by
                by_cases ej : j = k
                · subst ej; rw [hx, hy, e]
                · exact HG.out j (by omega)
              have HF : Hid (x ≠ y → decide (c = d) = false) := fun e => by
                simp only [decide_eq_false_iff_not]
                exact not_same (·.rules) c d k x y hx hy e
              clear hr hr' hx hy
              generalize rlL x = fx at *
              generalize rlL y = fy at *
              cases hd : decide (x = y) with
              | true =>
                have hM := Lib.hid (HM.out (of_decide_eq_true hd))
                rw [hd] at KS
                go_wp2_with fail
                refine region_in (PrE W cs ds b (o + k * 28) fx b' (o' + k * 28) fy) (by kernel_rfl) (by kernel_rfl) (HE.out) ?_
                repeat (first
                  | go_big_quiet_skip
                  | (go_big_quiet_want; first
                    | ((with_reducible refine load_one W.heap.size 3 ?_ (fun p => p.property.pr.c HC.out.2.2.2) Tryz.isAgg25 ?_); rfl; simp only [Act.put, List.setIfInBounds_toArray, List.set_cons_zero, List.set_cons_succ]; go_big_quiet_on)
                    | ((with_reducible refine load_one (W.heap.size + 1) 3 ?_ (fun p => p.property.pr.d HD.out.2.2.2) Tryz.isAgg25 ?_); rfl; simp only [Act.put, List.setIfInBounds_toArray, List.set_cons_zero, List.set_cons_succ]; go_big_quiet_on)
                    | ((with_reducible refine load_in b (o + k * 28) ?_ (fun p => p.property.r1) Tryz.underlying75 HI.out ?_); rfl; simp only [Act.put, List.setIfInBounds_toArray, List.set_cons_zero, List.set_cons_succ]; go_big_quiet_on)
                    | ((with_reducible refine load_in b' (o' + k * 28) ?_ (fun p => p.property.r2) Tryz.underlying75 HJ.out ?_); rfl; simp only [Act.put, List.setIfInBounds_toArray, List.set_cons_zero, List.set_cons_succ]; go_big_quiet_on)
                    | (go_big_quiet_op; first
                      | go_big_quiet_on
                      | ((refine ⟨_, fun _ _ => rfl, ?_⟩); go_big_quiet_on)
                      | (apply Exists.intro; (with_reducible refine ⟨fun W1 hW1 => (KS.out W1).mono ?_, ?_⟩); (rintro e w1 ⟨rfl, hb1⟩; exact ⟨rfl, hW1.below hb1⟩); go_big_quiet_on))))
                refine wpQuiet_nil ?_
                rintro _ ⟨⟨w2, h2⟩, rfl⟩
                have HP := Lib.hid h2.pr
                clear h2
                go_wp2_with fail
                go_roundw
                case rel => exact ⟨k + 1, by omega, by go_num, hM.out, HP.out⟩
                case measure => simp only [intOf]; go_num
              | false =>
                have hF := Lib.hid (HF.out (of_decide_eq_false hd))
                rw [hd] at KS
                go_wp2_with fail
                refine region_in (PrE W cs ds b (o + k * 28) fx b' (o' + k * 28) fy) (by kernel_rfl) (by kernel_rfl) (HE.out) ?_
                repeat (first
                  | go_big_quiet_skip
                  | (go_big_quiet_want; first
                    | ((with_reducible refine load_one W.heap.size 3 ?_ (fun p => p.property.pr.c HC.out.2.2.2) Tryz.isAgg25 ?_); rfl; simp only [Act.put, List.setIfInBounds_toArray, List.set_cons_zero, List.set_cons_succ]; go_big_quiet_on)
                    | ((with_reducible refine load_one (W.heap.size + 1) 3 ?_ (fun p => p.property.pr.d HD.out.2.2.2) Tryz.isAgg25 ?_); rfl; simp only [Act.put, List.setIfInBounds_toArray, List.set_cons_zero, List.set_cons_succ]; go_big_quiet_on)
                    | ((with_reducible refine load_in b (o + k * 28) ?_ (fun p => p.property.r1) Tryz.underlying75 HI.out ?_); rfl; simp only [Act.put, List.setIfInBounds_toArray, List.set_cons_zero, List.set_cons_succ]; go_big_quiet_on)
                    | ((with_reducible refine load_in b' (o' + k * 28) ?_ (fun p => p.property.r2) Tryz.underlying75 HJ.out ?_); rfl; simp only [Act.put, List.setIfInBounds_toArray, List.set_cons_zero, List.set_cons_succ]; go_big_quiet_on)
                    | (go_big_quiet_op; first
                      | go_big_quiet_on
                      | ((refine ⟨_, fun _ _ => rfl, ?_⟩); go_big_quiet_on)
                      | (apply Exists.intro; (with_reducible refine ⟨fun W1 hW1 => (KS.out W1).mono ?_, ?_⟩); (rintro e w1 ⟨rfl, hb1⟩; exact ⟨rfl, hW1.below hb1⟩); go_big_quiet_on))))
                refine wpQuiet_nil ?_
                rintro _ ⟨⟨w2, h2⟩, rfl⟩
                have HP := Lib.hid h2.pr
                clear h2
                go_wp2_with fail
                go_ret
                exact ⟨by rw [hF.out]; rfl, HP.out.low⟩
            · have hge : ¬ (k : Int) < c.rules.length := by omega
              have hke : k = c.rules.length := by omega
              have HT3 := Lib.hid (show c.rules = d.rules from same_at _ _ P5.out (by rw [← hke]; exact HG.out))
              have q3 := hp.c HC.out.2.2.2
              have HF := Lib.hid (show decide (c = d) = true by rw [conf_dec, decide_eq_true P0.out, decide_eq_true P1.out, decide_eq_true HT1.out, hb1, decide_eq_true HT3.out, decide_eq_true HT2.out]; rfl)
              go_wp2_with fail
              go_ret
              exact ⟨by rw [HF.out]; rfl, hp.low⟩
end Go.Proofs.YtnmbbnhgoedjgaaGreatDoor.CgU

