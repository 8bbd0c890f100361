/- castellanref20.Check. -/
import Derived.Test.YtnmbbnhgoedjgaaGreatDoorQCg7
import Derived.Test.YtnmbbnhgoedjgaaGreatDoorQCgS
namespace Go.Proofs.YtnmbbnhgoedjgaaGreatDoor.CgV
open Go Go.RowKit Go.Proofs.YtnmbbnhgoedjgaaGreatDoor.Ad1 Go.Proofs.YtnmbbnhgoedjgaaGreatDoor.St2 Go.Proofs.YtnmbbnhgoedjgaaGreatDoor.Ru0 Go.Proofs.YtnmbbnhgoedjgaaGreatDoor.Ru1 Go.Proofs.YtnmbbnhgoedjgaaGreatDoor.Ru6 Go.Proofs.YtnmbbnhgoedjgaaGreatDoor.RuB Go.Proofs.YtnmbbnhgoedjgaaGreatDoor.RuC Go.Proofs.YtnmbbnhgoedjgaaGreatDoor.RuY Go.Proofs.YtnmbbnhgoedjgaaGreatDoor.Cf0 Go.Proofs.YtnmbbnhgoedjgaaGreatDoor.Cf4 Go.Proofs.YtnmbbnhgoedjgaaGreatDoor.Cf5 Go.Proofs.YtnmbbnhgoedjgaaGreatDoor.Cg0 Go.Proofs.YtnmbbnhgoedjgaaGreatDoor.CgQ Go.Proofs.YtnmbbnhgoedjgaaGreatDoor.RuX Go.Proofs.YtnmbbnhgoedjgaaGreatDoor.Cg5 Go.Proofs.YtnmbbnhgoedjgaaGreatDoor.Cg7 Go.Proofs.YtnmbbnhgoedjgaaGreatDoor.Cg2 Go.Proofs.YtnmbbnhgoedjgaaGreatDoor.Cg8 Go.Proofs.YtnmbbnhgoedjgaaGreatDoor.Cg9 Go.Proofs.YtnmbbnhgoedjgaaGreatDoor.CgC Go.Proofs.YtnmbbnhgoedjgaaGreatDoor.CgR Go.Proofs.YtnmbbnhgoedjgaaGreatDoor.Cf9 Go.Proofs.YtnmbbnhgoedjgaaGreatDoor.CgW
set_option linter.unusedVariables false
set_option linter.unusedSimpArgs false
/-- The argument's box, and two places that are read. -/
structure PrR (W : World) (cs : Array Value) (b o : Nat) (l : List Value) (b' o' : Nat) (l' : List Value) (w : World) : Prop where
  pr : PrT W cs w
  r1 : w.rangeAt b o l
  h1 : b < w.heap.size
  r2 : w.rangeAt b' o' l'
  h2 : b' < w.heap.size
theorem PrR.below {W : World} {cs : Array Value} {b o b' o' : Nat} {l l' : List Value} {w w' : World} (h : PrR W cs b o l b' o' l' w) (hb : Below w.heap.size w w') : PrR W cs b o l b' o' l' w' :=
  ⟨h.pr.below hb, range_below h.r1 hb h.h1, Nat.lt_of_lt_of_le h.h1 hb.size, range_below h.r2 hb h.h2, Nat.lt_of_lt_of_le h.h2 hb.size⟩
theorem PrR.c1 {W : World} {cs : Array Value} {b o b' o' : Nat} {v : Value} {l l' : List Value} {w : World} (h : PrR W cs b o (v :: l) b' o' l' w) : w.cell? ⟨b, o, none⟩ = some v := h.r1 0 v rfl
theorem PrR.c2 {W : World} {cs : Array Value} {b o b' o' : Nat} {v : Value} {l l' : List Value} {w : World} (h : PrR W cs b o l b' o' (v :: l') w) : w.cell? ⟨b', o', none⟩ = some v := h.r2 0 v rfl
theorem idx_first {α : Type} (f : α → Wd) (l : List α) (k : Nat) (x : α) (hx : l[k]? = some x) : decide (idxF (fun y => f y == f x) l < k) = ((l.map f).take k).contains (f x) := by
  rw [← List.map_take, Bool.eq_iff_iff, List.contains_iff_mem, List.mem_map, decide_eq_true_eq]
  constructor
  · intro h
    unfold idxF at h
    cases hi : l.findIdx? (fun y => f y == f x) with
    | none =>
      rw [List.findIdx?_eq_none_iff] at hi
      have := hi x (List.mem_of_getElem? hx)
      simp at this
    | some i =>
      rw [hi] at h
      rw [List.findIdx?_eq_some_iff_getElem] at hi
      obtain ⟨hil, hp, -⟩ := hi
      refine ⟨l[i], ?_, by simpa using hp⟩
      rw [List.mem_take_iff_getElem]
      exact ⟨i, by simp at h; omega, rfl⟩
  · rintro ⟨y, hy, e⟩
    rw [List.mem_take_iff_getElem] at hy
    obtain ⟨i, hi, rfl⟩ := hy
    cases hq : l.findIdx? (fun y => f y == f x) with
    | none =>
      rw [List.findIdx?_eq_none_iff] at hq
      have := hq l[i] (List.getElem_mem _)
      simp [e] at this
    | some j =>
      unfold idxF
      rw [hq]
      rw [List.findIdx?_eq_some_iff_getElem] at hq
      obtain ⟨hjl, hp, hn⟩ := hq
      show (j : Int) < k
      have : ¬ i < j := fun hij => by
        have := hn i hij
        simp [e] at this
      omega
theorem wrong_ne (c : ConfM) (r : RuleM) (n : Wd) (h : wrongOf c r = some n) : n.isEmpty = false := by
  rw [wrong_eq] at h
  cases h1 : (l1 r).find? (bad1 c) with
  | some y =>
    rw [h1] at h
    cases h
    have := List.find?_some h1
    simp only [bad1, Bool.and_eq_true, Bool.not_eq_true'] at this
    exact this.1
  | none =>
    rw [h1] at h
    have := List.find?_some (show (l2 r).find? (bad2 c) = some n from h)
    simp only [bad2, Bool.and_eq_true, Bool.not_eq_true'] at this
    exact this.1
set_option maxRecDepth 20000 in
set_option maxHeartbeats 8000000 in
theorem rcheck_conf (KPR : RPrintSaid) (c : ConfM) (v0 v1 v2 v3 : Value) (ts : List (NamedM × Value)) (W : World) (h : ConfIn W v0 v1 v2 v3 ts c) (hf : FitC c) (hl : LibOK W) :
    Calls Tryz.prog 14 #[.agg (confC v0 v1 v2 v3 c)] W fun e w' => e = .returned (checkV c) ∧ Below W.heap.size W w' := by
  have HN := Lib.hid (Cg7.info6 v0 v1 v2 v3 c)
  have HW := Lib.hid h
  have HO := Lib.hid hf
  have K1 := Lib.hid (fun W' (hb : Below W.heap.size W W') => ris_conf KPR c v0 v1 v2 v3 ts W' (h.below hb) hf (hl.below hb))
  have KU := Lib.hid (fun r W' (hb : Below W.heap.size W W') => wrong_any c v0 v1 v2 v3 ts r W' (h.below hb) hf)
  have KI0 := Lib.hid (fun (n : Wd) W' (hb : Below W.heap.size W W') => refIface_any ifL (·.name) (fun x => ⟨_, _, _, _, rfl⟩) c.ifaces (by have := hf.ni; omega) v0 v1 v2 v3 (.int .i64 c.flows) (.int .i64 c.errors) n W' (h.below hb).ifaces)
  have KI := Lib.hid (show ∀ (n : Wd) W', Below W.heap.size W W' → Calls Tryz.prog 23 #[.agg (confC v0 v1 v2 v3 c), .string ⟨n.toArray⟩] W' _ from KI0.out)
  clear KI0
  obtain ⟨A0, cap0, e0, -, -⟩ := h.ifaces
  obtain ⟨A2, cap2, e2, -, -⟩ := h.tables
  obtain ⟨A3, cap3, e3, -, -⟩ := h.rules
  subst e0 e2 e3
  have HSz : Hid (isC c = true → c.ifaces.length ≤ 1048576 ∧ ts.length ≤ 1048576 ∧ c.rules.length ≤ 1048576) := fun hq => by have := fit_small hf hq; have := h.tlen; omega
  clear hl h hf
  generalize hcs : confC (.slice A0 c.ifaces.length cap0) v1 (.slice A2 ts.length cap2) (.slice A3 c.rules.length cap3) c = cs at *
  have d0 : cs[0]? = some (.slice A0 c.ifaces.length cap0) := by rw [← hcs]; rfl
  have d2 : cs[2]? = some (.slice A2 ts.length cap2) := by rw [← hcs]; rfl
  have d3 : cs[3]? = some (.slice A3 c.rules.length cap3) := by rw [← hcs]; rfl
  have HD : Hid (_ ∧ _ ∧ _) := ⟨d0, d2, d3⟩
  clear hcs d0 d2 d3
  have HP : Hid (PrT W cs (W.alloc (.cells cs 27))) := ⟨heap_alloc_new W _, bnew W _, by simp⟩
  cases hq : isC c with
  | false =>
    clear HSz
    rw [hq] at K1
    have HV := Lib.hid (show checkV c = .tuple #[.int .i64 2, .string ⟨#[]⟩] by unfold checkV; rw [check_bad c hq])
    go_enter Tryz.func14, Tryz.ntmps14
    go_wp2_with (first
      | ((with_reducible refine Mem.load_row W.heap.size ?_ HP.out.box Tryz.underlying27 HN.out ?_ ?_); rfl; rfl)
      | (go_at_call 20; (with_reducible refine (K1.out _ HP.out.low).mono ?_); rintro e w1 ⟨rfl, hb1⟩; have HP := Lib.hid (HP.out.below hb1); clear hb1))
    go_ret2
    exact ⟨by rw [HV.out]; rfl, HP.out.low⟩
  | true =>
  rw [hq] at K1
  have HQ := Lib.hid hq
  obtain ⟨hni, hnt, hnr⟩ := HSz.out hq
  clear hq HSz
  go_enter Tryz.func14, Tryz.ntmps14
  go_wp2_with (first
    | ((with_reducible refine Mem.load_row W.heap.size ?_ HP.out.box Tryz.underlying27 HN.out ?_ ?_); rfl; rfl)
    | (go_at_call 20; (with_reducible refine (K1.out _ HP.out.low).mono ?_); rintro e w1 ⟨rfl, hb1⟩; have HP := Lib.hid (HP.out.below hb1); clear hb1))
  obtain ⟨LI, HLI⟩ : ∃ LI, Hid (c.ifaces.map (·.name) = LI) := ⟨_, rfl⟩
  go_loopw [4] (fun s4 wr => ∃ k : Nat, k ≤ c.ifaces.length ∧ s4 = .int .i64 k ∧ twiceL [] LI = twiceL (LI.take k) (LI.drop k) ∧ PrT W cs wr) (fun s4 _ => c.ifaces.length - (intOf s4).toNat)
  case atStart => exact ⟨0, by omega, rfl, rfl, HP.out⟩
  case round =>
    obtain ⟨k, hkl, rfl, htw, hp⟩ := hrel
    have HTw := Lib.hid htw
    have HP := Lib.hid hp
    have q0 := hp.cell HD.out.1
    clear htw
    by_cases hlt : k < c.ifaces.length
    · have hlt' : (k : Int) < c.ifaces.length := by omega
      have hk63 : (k : Int) + 1 ≤ 9223372036854775807 := by omega
      obtain ⟨x, hx⟩ : ∃ x, c.ifaces[k]? = some x := ⟨_, List.getElem?_eq_getElem hlt⟩
      obtain ⟨b, o, c1, hv1, -, hbl, hr⟩ := HW.out.ifaces.at ifL_len k x hx
      injection hv1 with e1 e2 e3
      subst e1 e3
      have hr' := range_below hr hp.low hbl
      have HX : Hid (wr.rangeAt b (o + k * 5) [Value.string ⟨x.name.toArray⟩]) := fun j v hj => by
        match j, hj with
        | 0, hj => simp at hj; subst hj; exact hr' 0 _ rfl
      have hbl' : b < wr.heap.size := Nat.lt_of_lt_of_le hbl hp.low.size
      have HA := Lib.hid (twice_at LI k x.name (by rw [← HLI.out, List.getElem?_map, hx]; rfl))
      have hi := idx_first (·.name) c.ifaces k x hx
      rw [HLI.out] at hi
      have KX := Lib.hid (KI.out x.name)
      have c0 := HX.out 0 _ rfl
      clear hr hr' hx
      generalize idxF (fun y => y.name == x.name) c.ifaces = i at KX hi
      cases hh : (LI.take k).contains x.name with
      | false =>
        have hb := Lib.hid (hi.trans hh)
        have HM := Lib.hid (show twiceL [] LI = twiceL (LI.take (k + 1)) (LI.drop (k + 1)) by rw [HTw.out, HA.out, hh]; rfl)
        clear hi hh
        go_wp2_with fail
        refine region_in (PrR W cs b (o + k * 5) [Value.string ⟨x.name.toArray⟩] b (o + k * 5) [Value.string ⟨x.name.toArray⟩]) (by kernel_rfl) (by kernel_rfl) ((PrR.mk hp HX.out hbl' HX.out hbl').below (Below.refl _ _).drew) ?_
        repeat (first
          | go_big_quiet_skip
          | (go_big_quiet_want; first
            | ((with_reducible refine load_whole W.heap.size ?_ (fun p => p.property.pr.box) Tryz.underlying27 HN.out ?_); rfl; simp only [Act.put, List.setIfInBounds_toArray, List.set_cons_zero, List.set_cons_succ]; go_big_quiet_on)
            | ((with_reducible refine load_one W.heap.size 0 ?_ (fun p => p.property.pr.cell HD.out.1) Tryz.isAgg22 ?_); rfl; simp only [Act.put, List.setIfInBounds_toArray, List.set_cons_zero, List.set_cons_succ]; go_big_quiet_on)
            | ((with_reducible refine load_one b (o + k * 5) ?_ (fun p => p.property.c1) Tryz.isAgg9 ?_); rfl; simp only [Act.put, List.setIfInBounds_toArray, List.set_cons_zero, List.set_cons_succ]; go_big_quiet_on)
            | (go_big_quiet_op; first
              | go_big_quiet_on
              | ((refine ⟨_, fun _ _ => rfl, ?_⟩); go_big_quiet_on)
              | (apply Exists.intro; (with_reducible refine ⟨fun W1 hW1 => (KX.out W1 hW1.pr.low).mono ?_, ?_⟩); (rintro e w1 ⟨rfl, hb1⟩; exact ⟨rfl, hW1.below hb1⟩); go_big_quiet_on))))
        refine wpQuiet_nil ?_
        rintro _ ⟨⟨w2, h2⟩, rfl⟩
        have HP := Lib.hid h2.pr
        clear h2
        rw [hb.out]
        go_wp2_with fail
        go_roundw
        case rel => exact ⟨k + 1, by omega, by go_num, HM.out, HP.out⟩
        case measure => simp only [intOf]; go_num
      | true =>
        have hb := Lib.hid (hi.trans hh)
        have HV := Lib.hid (show checkV c = .tuple #[.int .i64 8, .string ⟨x.name.toArray⟩] by unfold checkV; rw [check_if c HQ.out x.name (by rw [HLI.out, HTw.out, HA.out, hh]; rfl)])
        clear hi hh
        go_wp2_with fail
        refine region_in (PrR W cs b (o + k * 5) [Value.string ⟨x.name.toArray⟩] b (o + k * 5) [Value.string ⟨x.name.toArray⟩]) (by kernel_rfl) (by kernel_rfl) ((PrR.mk hp HX.out hbl' HX.out hbl').below (Below.refl _ _).drew) ?_
        repeat (first
          | go_big_quiet_skip
          | (go_big_quiet_want; first
            | ((with_reducible refine load_whole W.heap.size ?_ (fun p => p.property.pr.box) Tryz.underlying27 HN.out ?_); rfl; simp only [Act.put, List.setIfInBounds_toArray, List.set_cons_zero, List.set_cons_succ]; go_big_quiet_on)
            | ((with_reducible refine load_one W.heap.size 0 ?_ (fun p => p.property.pr.cell HD.out.1) Tryz.isAgg22 ?_); rfl; simp only [Act.put, List.setIfInBounds_toArray, List.set_cons_zero, List.set_cons_succ]; go_big_quiet_on)
            | ((with_reducible refine load_one b (o + k * 5) ?_ (fun p => p.property.c1) Tryz.isAgg9 ?_); rfl; simp only [Act.put, List.setIfInBounds_toArray, List.set_cons_zero, List.set_cons_succ]; go_big_quiet_on)
            | (go_big_quiet_op; first
              | go_big_quiet_on
              | ((refine ⟨_, fun _ _ => rfl, ?_⟩); go_big_quiet_on)
              | (apply Exists.intro; (with_reducible refine ⟨fun W1 hW1 => (KX.out W1 hW1.pr.low).mono ?_, ?_⟩); (rintro e w1 ⟨rfl, hb1⟩; exact ⟨rfl, hW1.below hb1⟩); go_big_quiet_on))))
        refine wpQuiet_nil ?_
        rintro _ ⟨⟨w2, h2⟩, rfl⟩
        have HP := Lib.hid h2.pr
        have HR := Lib.hid h2
        clear h2
        rw [hb.out]
        go_wp2_with fail
        refine region_in (PrR W cs b (o + k * 5) [Value.string ⟨x.name.toArray⟩] b (o + k * 5) [Value.string ⟨x.name.toArray⟩]) (by kernel_rfl) (by kernel_rfl) (HR.out.below (Below.refl _ _).drew) ?_
        repeat (first
          | go_big_quiet_skip
          | (go_big_quiet_want; first
            | ((with_reducible refine load_one W.heap.size 0 ?_ (fun p => p.property.pr.cell HD.out.1) Tryz.isAgg22 ?_); rfl; simp only [Act.put, List.setIfInBounds_toArray, List.set_cons_zero, List.set_cons_succ]; go_big_quiet_on)
            | ((with_reducible refine load_one b (o + k * 5) ?_ (fun p => p.property.c1) Tryz.isAgg9 ?_); rfl; simp only [Act.put, List.setIfInBounds_toArray, List.set_cons_zero, List.set_cons_succ]; go_big_quiet_on)
            | (go_big_quiet_op; first
              | go_big_quiet_on
              | ((refine ⟨_, fun _ _ => rfl, ?_⟩); go_big_quiet_on))))
        refine wpQuiet_nil ?_
        rintro _ ⟨⟨w2, h2⟩, rfl⟩
        have HP := Lib.hid h2.pr
        go_wp2_with fail
        go_ret2
        exact ⟨by rw [HV.out]; rfl, HP.out.low⟩
    · have hge : ¬ (k : Int) < c.ifaces.length := by omega
      have hke : k = LI.length := by rw [← HLI.out, List.length_map]; omega
      have HT1 := Lib.hid (show twiceL [] (c.ifaces.map (·.name)) = none by rw [HLI.out, HTw.out, hke, List.drop_length]; rfl)
      clear HTw hke
      obtain ⟨LT, HLT⟩ : ∃ LT, Hid (c.tables.map (·.name) = LT) := ⟨_, rfl⟩
      go_wp2_with fail
      go_loopw [5] (fun s5 wr => ∃ k : Nat, k ≤ ts.length ∧ s5 = .int .i64 k ∧ twiceL [] LT = twiceL (LT.take k) (LT.drop k) ∧ PrT W cs wr) (fun s5 _ => ts.length - (intOf s5).toNat)
      case atStart => exact ⟨0, by omega, rfl, rfl, HP.out⟩
      case round =>
        obtain ⟨k, hkl, rfl, htw, hp⟩ := hrel
        have HTw := Lib.hid htw
        have HP := Lib.hid hp
        clear q0 htw
        have q2 := hp.cell HD.out.2.1
        by_cases hlt : k < ts.length
        · have hlt' : (k : Int) < ts.length := by omega
          have hk63 : (k : Int) + 1 ≤ 9223372036854775807 := by omega
          have HAt : Hid (∀ (j : Nat) (t : NamedM × Value), ts[j]? = some t → LT[j]? = some t.1.name) := fun j t ht => by rw [← HLT.out, ← HW.out.tab, List.getElem?_map, List.getElem?_map, ht]; rfl
          obtain ⟨t, hx⟩ : ∃ t, ts[k]? = some t := ⟨_, List.getElem?_eq_getElem hlt⟩
          obtain ⟨b, o, c1, hv1, -, hbl, hr⟩ := HW.out.tables.at nmL_len k t hx
          have HTs := Lib.hid HW.out.tables
          injection hv1 with e1 e2 e3
          subst e1 e3
          have HKr : Hid (∀ w : World, PrT W cs w → w.rangeAt b (o + k * 2) [Value.string ⟨t.1.name.toArray⟩]) := fun w hw j v hj => by
            match j, hj with
            | 0, hj => simp at hj; subst hj; exact range_below hr hw.low hbl 0 _ rfl
          have hxt := HAt.out k t hx
          have HA := Lib.hid (twice_at LT k t.1.name hxt)
          clear hr hx
          generalize t.1.name = x at *
          go_wp2_with fail
          go_loopw [6] (fun s6 wq => ∃ j : Nat, j ≤ k ∧ s6 = .int .i64 j ∧ (∀ i y, i < j → LT[i]? = some y → (y == x) = false) ∧ PrT W cs wq) (fun s6 _ => k - (intOf s6).toNat)
          case atStart => exact ⟨0, by omega, rfl, fun i y hi => absurd hi (by omega), HP.out⟩
          case round =>
            obtain ⟨j, hjl, rfl, hno, hq⟩ := hrel
            have HG := Lib.hid hno
            have HP := Lib.hid hq
            clear hno q2
            have q2 := hq.cell HD.out.2.1
            by_cases hjk : j < k
            · have hjk' : (j : Int) < k := by omega
              have hjt : (j : Int) < ts.length := by omega
              have hj63 : (j : Int) + 1 ≤ 9223372036854775807 := by omega
              obtain ⟨t2, hx2⟩ : ∃ t2, ts[j]? = some t2 := ⟨_, List.getElem?_eq_getElem (by omega)⟩
              obtain ⟨b2, o2, c2, hv2, -, hbl2, hr2⟩ := HTs.out.at nmL_len j t2 hx2
              injection hv2 with e1 e2 e3
              injection e1 with e1
              injection e1 with e4 e5
              subst e4 e5
              subst e3
              have hyt := HAt.out j t2 hx2
              have HY : Hid (wr.rangeAt b (o + j * 2) [Value.string ⟨t2.1.name.toArray⟩]) := fun i v hi => by
                match i, hi with
                | 0, hi => simp at hi; subst hi; exact range_below hr2 hq.low hbl2 0 _ rfl
              have HX := Lib.hid (HKr.out wr hq)
              have hbl' : b < wr.heap.size := Nat.lt_of_lt_of_le hbl hq.low.size
              clear hr2 hx2
              generalize t2.1.name = y at *
              cases hh : y == x with
              | false =>
                have hb := Lib.hid hh
                have HM := Lib.hid (show ∀ i z, i < j + 1 → LT[i]? = some z → (z == x) = false from fun i z hi hz => by
                  by_cases e : i = j
                  · subst e; rw [hyt] at hz; cases hz; exact hh
                  · exact HG.out i z (by omega) hz)
                go_wp2_with fail
                refine region_in (PrR W cs b (o + k * 2) [Value.string ⟨x.toArray⟩] b (o + j * 2) [Value.string ⟨y.toArray⟩]) (by kernel_rfl) (by kernel_rfl) ((PrR.mk hq HX.out hbl' HY.out hbl').below (Below.refl _ _).drew) ?_
                repeat (first
                  | go_big_quiet_skip
                  | (go_big_quiet_want; first
                    | ((with_reducible refine load_one W.heap.size 2 ?_ (fun p => p.property.pr.cell HD.out.2.1) Tryz.isAgg24 ?_); rfl; simp only [Act.put, List.setIfInBounds_toArray, List.set_cons_zero, List.set_cons_succ]; go_big_quiet_on)
                    | ((with_reducible refine load_one b (o + k * 2) ?_ (fun p => p.property.c1) Tryz.isAgg9 ?_); rfl; simp only [Act.put, List.setIfInBounds_toArray, List.set_cons_zero, List.set_cons_succ]; go_big_quiet_on)
                    | ((with_reducible refine load_one b (o + j * 2) ?_ (fun p => p.property.c2) Tryz.isAgg9 ?_); rfl; simp only [Act.put, List.setIfInBounds_toArray, List.set_cons_zero, List.set_cons_succ]; go_big_quiet_on)
                    | (go_big_quiet_op; first
                      | go_big_quiet_on
                      | ((refine ⟨_, fun _ _ => rfl, ?_⟩); go_big_quiet_on))))
                refine wpQuiet_nil ?_
                rintro _ ⟨⟨w2, h2⟩, rfl⟩
                have HP := Lib.hid h2.pr
                clear h2
                try rw [hb.out]
                go_wp2_with fail
                go_roundw
                case rel => exact ⟨j + 1, by omega, by go_num, HM.out, HP.out⟩
                case measure => simp only [intOf]; go_num
              | true =>
                have hb := Lib.hid hh
                have hin : (LT.take k).contains x = true := by
                  rw [List.contains_iff_mem, List.mem_iff_getElem?]
                  refine ⟨j, ?_⟩
                  rw [List.getElem?_take, if_pos hjk, hyt, eq_of_beq hh]
                have HV := Lib.hid (show checkV c = .tuple #[.int .i64 8, .string ⟨x.toArray⟩] by unfold checkV; rw [check_tb c HQ.out x HT1.out (by rw [HLT.out, HTw.out, HA.out, hin]; rfl)])
                go_wp2_with fail
                refine region_in (PrR W cs b (o + k * 2) [Value.string ⟨x.toArray⟩] b (o + j * 2) [Value.string ⟨y.toArray⟩]) (by kernel_rfl) (by kernel_rfl) ((PrR.mk hq HX.out hbl' HY.out hbl').below (Below.refl _ _).drew) ?_
                repeat (first
                  | go_big_quiet_skip
                  | (go_big_quiet_want; first
                    | ((with_reducible refine load_one W.heap.size 2 ?_ (fun p => p.property.pr.cell HD.out.2.1) Tryz.isAgg24 ?_); rfl; simp only [Act.put, List.setIfInBounds_toArray, List.set_cons_zero, List.set_cons_succ]; go_big_quiet_on)
                    | ((with_reducible refine load_one b (o + k * 2) ?_ (fun p => p.property.c1) Tryz.isAgg9 ?_); rfl; simp only [Act.put, List.setIfInBounds_toArray, List.set_cons_zero, List.set_cons_succ]; go_big_quiet_on)
                    | ((with_reducible refine load_one b (o + j * 2) ?_ (fun p => p.property.c2) Tryz.isAgg9 ?_); rfl; simp only [Act.put, List.setIfInBounds_toArray, List.set_cons_zero, List.set_cons_succ]; go_big_quiet_on)
                    | (go_big_quiet_op; first
                      | go_big_quiet_on
                      | ((refine ⟨_, fun _ _ => rfl, ?_⟩); go_big_quiet_on))))
                refine wpQuiet_nil ?_
                rintro _ ⟨⟨w2, h2⟩, rfl⟩
                have HP := Lib.hid h2.pr
                have HR := Lib.hid h2
                clear h2
                try rw [hb.out]
                go_wp2_with fail
                refine region_in (PrR W cs b (o + k * 2) [Value.string ⟨x.toArray⟩] b (o + j * 2) [Value.string ⟨y.toArray⟩]) (by kernel_rfl) (by kernel_rfl) (HR.out.below (Below.refl _ _).drew) ?_
                repeat (first
                  | go_big_quiet_skip
                  | (go_big_quiet_want; first
                    | ((with_reducible refine load_one W.heap.size 2 ?_ (fun p => p.property.pr.cell HD.out.2.1) Tryz.isAgg24 ?_); rfl; simp only [Act.put, List.setIfInBounds_toArray, List.set_cons_zero, List.set_cons_succ]; go_big_quiet_on)
                    | ((with_reducible refine load_one b (o + k * 2) ?_ (fun p => p.property.c1) Tryz.isAgg9 ?_); rfl; simp only [Act.put, List.setIfInBounds_toArray, List.set_cons_zero, List.set_cons_succ]; go_big_quiet_on)
                    | (go_big_quiet_op; first
                      | go_big_quiet_on
                      | ((refine ⟨_, fun _ _ => rfl, ?_⟩); go_big_quiet_on))))
                refine wpQuiet_nil ?_
                rintro _ ⟨⟨w2, h2⟩, rfl⟩
                have HP := Lib.hid h2.pr
                go_wp2_with fail
                go_ret2
                exact ⟨by rw [HV.out]; rfl, HP.out.low⟩
            · have hgj : ¬ (j : Int) < k := by omega
              have hje : j = k := by omega
              have hout : (LT.take k).contains x = false := by
                rw [← Bool.not_eq_true, List.contains_iff_mem, List.mem_iff_getElem?]
                rintro ⟨i, hi⟩
                rw [List.getElem?_take] at hi
                split at hi
                · have := HG.out i x (by omega) hi
                  simp at this
                · cases hi
              have HM := Lib.hid (show twiceL [] LT = twiceL (LT.take (k + 1)) (LT.drop (k + 1)) by rw [HTw.out, HA.out, hout]; rfl)
              go_wp2_with fail
              go_roundw
              case rel => exact ⟨k + 1, by omega, by go_num, HM.out, HP.out⟩
              case measure => simp only [intOf]; go_num
        · have hge : ¬ (k : Int) < ts.length := by omega
          have hke : k = LT.length := by rw [← HLT.out, List.length_map, ← HW.out.tlen]; omega
          have HT2 := Lib.hid (show twiceL [] (c.tables.map (·.name)) = none by rw [HLT.out, HTw.out, hke, List.drop_length]; rfl)
          clear HTw hke
          go_wp2_with fail
          go_loopw [7] (fun s7 wr => ∃ k : Nat, k ≤ c.rules.length ∧ s7 = .int .i64 k ∧ (∀ j z, j < k → c.rules[j]? = some z → wrongOf c z = none) ∧ PrT W cs wr) (fun s7 _ => c.rules.length - (intOf s7).toNat)
          case atStart => exact ⟨0, by omega, rfl, fun j x hj => absurd hj (by omega), HP.out⟩
          case round =>
            obtain ⟨k, hkl, rfl, hno, hp⟩ := hrel
            have HG := Lib.hid hno
            have HP := Lib.hid hp
            clear hno q2
            have q3 := hp.cell HD.out.2.2
            by_cases hlt : k < c.rules.length
            · have hlt' : (k : Int) < c.rules.length := by omega
              have hk63 : (k : Int) + 1 ≤ 9223372036854775807 := by omega
              obtain ⟨x, hx⟩ : ∃ x, c.rules[k]? = some x := ⟨_, List.getElem?_eq_getElem hlt⟩
              obtain ⟨b, o, c1, hv1, -, hbl, hr⟩ := HW.out.rules.at rlL_len k x hx
              injection hv1 with e1 e2 e3
              subst e1 e3
              have HX := Lib.hid (range_below hr hp.low hbl)
              have hbl' : b < wr.heap.size := Nat.lt_of_lt_of_le hbl hp.low.size
              have HNl := Lib.hid (show (Tryz.prog.info? 75).map (·.size) = some (rlL x).length from info32 x)
              have KX := Lib.hid (KU.out x)
              have KX := Lib.hid (show ∀ W', Below W.heap.size W W' → Calls Tryz.prog 33 #[.agg cs, .agg (rlL x).toArray] W' _ from by unfold rlL; rw [Array.toArray_toList]; exact KX.out)
              clear hr
              generalize rlL x = fx at *
              cases hw : wrongOf c x with
              | none =>
                have HM := Lib.hid (show ∀ j z, j < k + 1 → c.rules[j]? = some z → wrongOf c z = none from fun j y hj hy => by
                  by_cases e : j = k
                  · subst e; rw [hx] at hy; cases hy; exact hw
                  · exact HG.out j y (by omega) hy)
                rw [hw] at KX
                clear hx hw
                go_wp2_with fail
                refine region_in (PrR W cs b (o + k * 28) fx b (o + k * 28) fx) (by kernel_rfl) (by kernel_rfl) ((PrR.mk hp HX.out hbl' HX.out hbl').below (Below.refl _ _).drew) ?_
                repeat (first
                  | go_big_quiet_skip
                  | (go_big_quiet_want; first
                    | ((with_reducible refine load_whole W.heap.size ?_ (fun p => p.property.pr.box) Tryz.underlying27 HN.out ?_); rfl; simp only [Act.put, List.setIfInBounds_toArray, List.set_cons_zero, List.set_cons_succ]; go_big_quiet_on)
                    | ((with_reducible refine load_one W.heap.size 3 ?_ (fun p => p.property.pr.cell HD.out.2.2) Tryz.isAgg25 ?_); rfl; simp only [Act.put, List.setIfInBounds_toArray, List.set_cons_zero, List.set_cons_succ]; go_big_quiet_on)
                    | ((with_reducible refine load_in b (o + k * 28) ?_ (fun p => p.property.r1) Tryz.underlying75 HNl.out ?_); rfl; simp only [Act.put, List.setIfInBounds_toArray, List.set_cons_zero, List.set_cons_succ]; go_big_quiet_on)
                    | (go_big_quiet_op; first
                      | go_big_quiet_on
                      | ((refine ⟨_, fun _ _ => rfl, ?_⟩); go_big_quiet_on)
                      | (apply Exists.intro; (with_reducible refine ⟨fun W1 hW1 => (KX.out W1 hW1.pr.low).mono ?_, ?_⟩); (rintro e w1 ⟨rfl, hb1⟩; exact ⟨rfl, hW1.below hb1⟩); go_big_quiet_on))))
                refine wpQuiet_nil ?_
                rintro _ ⟨⟨w2, h2⟩, rfl⟩
                have HP := Lib.hid h2.pr
                clear h2
                go_wp2_with fail
                go_roundw
                case rel => exact ⟨k + 1, by omega, by go_num, HM.out, HP.out⟩
                case measure => simp only [intOf]; go_num
              | some n =>
                have HV := Lib.hid (show checkV c = .tuple #[.int .i64 8, .string ⟨n.toArray⟩] by unfold checkV; rw [check_rl c HQ.out n HT1.out HT2.out (some_hit (wrongOf c) c.rules k x n hx hw HG.out)])
                have hne := wrong_ne c x n hw
                rw [hw, Option.getD_some] at KX
                clear hx hw
                go_wp2_with fail
                refine region_in (PrR W cs b (o + k * 28) fx b (o + k * 28) fx) (by kernel_rfl) (by kernel_rfl) ((PrR.mk hp HX.out hbl' HX.out hbl').below (Below.refl _ _).drew) ?_
                repeat (first
                  | go_big_quiet_skip
                  | (go_big_quiet_want; first
                    | ((with_reducible refine load_whole W.heap.size ?_ (fun p => p.property.pr.box) Tryz.underlying27 HN.out ?_); rfl; simp only [Act.put, List.setIfInBounds_toArray, List.set_cons_zero, List.set_cons_succ]; go_big_quiet_on)
                    | ((with_reducible refine load_one W.heap.size 3 ?_ (fun p => p.property.pr.cell HD.out.2.2) Tryz.isAgg25 ?_); rfl; simp only [Act.put, List.setIfInBounds_toArray, List.set_cons_zero, List.set_cons_succ]; go_big_quiet_on)
                    | ((with_reducible refine load_in b (o + k * 28) ?_ (fun p => p.property.r1) Tryz.underlying75 HNl.out ?_); rfl; simp only [Act.put, List.setIfInBounds_toArray, List.set_cons_zero, List.set_cons_succ]; go_big_quiet_on)
                    | (go_big_quiet_op; first
                      | go_big_quiet_on
                      | ((refine ⟨_, fun _ _ => rfl, ?_⟩); go_big_quiet_on)
                      | (apply Exists.intro; (with_reducible refine ⟨fun W1 hW1 => (KX.out W1 hW1.pr.low).mono ?_, ?_⟩); (rintro e w1 ⟨rfl, hb1⟩; exact ⟨rfl, hW1.below hb1⟩); go_big_quiet_on))))
                refine wpQuiet_nil ?_
                rintro _ ⟨⟨w2, h2⟩, rfl⟩
                have HP := Lib.hid h2.pr
                clear h2
                go_wp2_with fail
                go_ret2
                exact ⟨by rw [HV.out]; rfl, HP.out.low⟩
            · have hge : ¬ (k : Int) < c.rules.length := by omega
              have hke : k = c.rules.length := by omega
              have HG2 : Hid (∀ j z, j < c.rules.length → c.rules[j]? = some z → wrongOf c z = none) := by rw [← hke]; exact HG.out
              have HV := Lib.hid (show checkV c = .tuple #[.int .i64 0, .string ⟨#[]⟩] by unfold checkV; rw [check_ok c HQ.out HT1.out HT2.out (some_miss (wrongOf c) c.rules HG2.out)])
              go_wp2_with fail
              go_ret2
              exact ⟨by rw [HV.out]; rfl, hp.low⟩
end Go.Proofs.YtnmbbnhgoedjgaaGreatDoor.CgV

