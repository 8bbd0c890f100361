/- rule.Parse: a text as a rule. -/
import Derived.Test.YtnmbbnhgoedjgaaGreatDoorQCf3
import Derived.Test.YtnmbbnhgoedjgaaGreatDoorQRuVa
namespace Go.Proofs.YtnmbbnhgoedjgaaGreatDoor.RuJ
open Go Go.RowKit Go.Proofs.YtnmbbnhgoedjgaaGreatDoor.Ad1 Go.Proofs.YtnmbbnhgoedjgaaGreatDoor.St2 Go.Proofs.YtnmbbnhgoedjgaaGreatDoor.St3 Go.Proofs.YtnmbbnhgoedjgaaGreatDoor.Ru0 Go.Proofs.YtnmbbnhgoedjgaaGreatDoor.Ru1 Go.Proofs.YtnmbbnhgoedjgaaGreatDoor.Ru4 Go.Proofs.YtnmbbnhgoedjgaaGreatDoor.Ru6 Go.Proofs.YtnmbbnhgoedjgaaGreatDoor.Ru7 Go.Proofs.YtnmbbnhgoedjgaaGreatDoor.Ru9 Go.Proofs.YtnmbbnhgoedjgaaGreatDoor.RuA Go.Proofs.YtnmbbnhgoedjgaaGreatDoor.RuB Go.Proofs.YtnmbbnhgoedjgaaGreatDoor.RuC Go.Proofs.YtnmbbnhgoedjgaaGreatDoor.RuD Go.Proofs.YtnmbbnhgoedjgaaGreatDoor.RuE Go.Proofs.YtnmbbnhgoedjgaaGreatDoor.RuH Go.Proofs.YtnmbbnhgoedjgaaGreatDoor.RuI
set_option linter.unusedVariables false
set_option linter.unusedSimpArgs false
theorem put6 {W0 W : World} {g gr : Nat} {r r' : RuleM} {ws : Ws} {k : Nat} {l : List Value} (h : PSt W0 g gr r ws W) (he : Mem.putL (ruleC r) k l = ruleC r') : PSt W0 g gr r' ws (W.setCells gr k l) :=
  ⟨h.rd.above (Mem.puts_below (Below.refl _ _) h.hg l k), by rw [← he]; exact Mem.puts_row l k h.row, Mem.puts_below h.low (Nat.le_of_lt h.hg) l k, lib_low h.lib (Mem.puts_below (Below.refl _ _) (Nat.le_of_lt h.hg) l k) h.G, h.hg, h.G⟩
theorem side_one (s : SideM) : (sideC s).all (·.oneCell') = true := by kernel_rfl
theorem pin_one (s : PinM) : (pinC s).all (·.oneCell') = true := by kernel_rfl
theorem takesP_keeps (w : Ws) (x : Wd) : (takesP w x).2.bad = w.bad := by
  unfold takesP; split <;> (try split) <;> rfl
theorem takesP_was (w : Ws) (x : Wd) (h : w.bad = true) : takesP w x = (false, w) := by
  unfold takesP; split <;> (try split) <;> simp_all
theorem ws_eta (w : Ws) (b : Bool) (h : w.bad = b) : (⟨w.l, b⟩ : Ws) = w := by subst h; rfl
theorem rule_one (r : RuleM) : (ruleC r).all (·.oneCell') = true := by kernel_rfl
theorem put_all (r r' : RuleM) : Mem.putL (ruleC r) 0 (ruleC r').toList = ruleC r' := Mem.putL_whole _ _ rfl
theorem below_le' {B B' : Nat} {w w' : World} (h : Below B w w') (k : B' ≤ B) : Below B' w w' := ⟨h.os, h.tape, h.output, h.size, fun i hi => h.block i (by omega)⟩
theorem headP_eq (w : Ws) : headP w = (if (takesP w wPass).1 then (true, (takesP w wPass).2) else (false, ⟨(takesP (takesP w wPass).2 wBlock).2.l, !(takesP (takesP w wPass).2 wBlock).1⟩)) := rfl
theorem onP_eq (w : Ws) : onP w = (if (takesP w wOn).1 then ((nextF (takesP w wOn).2).1, (nextF (takesP w wOn).2).2.orBad (nextF (takesP w wOn).2).1.isEmpty) else ([], (takesP w wOn).2)) := rfl
theorem prP_eq (w : Ws) : prP w = (if (takesP w wProto).1 then protoP (takesP w wProto).2 else (0, (takesP w wProto).2)) := rfl
theorem kwP_eq (w : Ws) (x : Wd) : kwP w x = (takesP w x).2.orBad (!(takesP w x).1) := rfl
theorem tableP_eq (w : Ws) : tableP w = (if (takesP w wTable).1 then ((numP (nextF (takesP w wTable).2).2 (nextF (takesP w wTable).2).1).1, (numP (nextF (takesP w wTable).2).2 (nextF (takesP w wTable).2).1).2.orBad ((numP (nextF (takesP w wTable).2).2 (nextF (takesP w wTable).2).1).1 == 0)) else (0, (takesP w wTable).2)) := rfl
/-- The start: the words, the reader, the rule. -/
theorem parse_start {w1 : World} {A : Nat} {l : List Wd} (hA : A < w1.heap.size) (hc : ∀ (j : Nat) (x : Wd), l[j]? = some x → w1.cell? ⟨A, j, none⟩ = some (.string ⟨x.toArray⟩)) (hs : ∀ x ∈ l, x.length < 4294967281) (hl : LibOK w1) :
    PSt w1 w1.heap.size (w1.heap.size + 1) {} ⟨l, false⟩ ((w1.alloc (.cells #[.slice (some ⟨A, 0, none⟩) l.length l.length, .bool false] 150)).alloc (.cells (ruleC {}) 75)) := by
  have hb := bnew2 w1 (.cells #[.slice (some ⟨A, 0, none⟩) l.length l.length, .bool false] 150) (.cells (ruleC {}) 75)
  refine ⟨⟨by simp; omega, hs, _, _, _, heap_alloc2_old _ _ _, rfl, Nat.le_refl _, ?_⟩, heap_alloc2_new _ _ _, hb, hl.below hb, Nat.lt_succ_self _, lib_lt hl⟩
  refine .inr ⟨A, 0, rfl, hA, by simp; omega, fun j x hj => ?_⟩
  have := hc j x hj
  rw [Nat.zero_add]
  exact (hb.cell (p := ⟨A, j, none⟩) hA).trans this
set_option maxRecDepth 100000 in
set_option maxHeartbeats 8000000 in
theorem parseR_any (s : ByteArray) (hs : s.size < 4294967281) (w : World) (hl : LibOK w) :
    Calls Tryz.prog 64 #[.string s] w fun e w' => e = .returned (ruleV (ruleOf (wordsL s.data.toList))) ∧ Below w.heap.size w w' := by
  have HB0 := Lib.hid (bnew w (.cells (ruleC {}) 75))
  have HR0 := Lib.hid (heap_alloc_new w (.cells (ruleC {}) 75))
  have HL0 := Lib.hid (hl.below HB0.out)
  have KF := Lib.hid (fun W => fields_any s hs W)
  generalize wordsL s.data.toList = l at KF ⊢
  obtain ⟨h, e1⟩ : ∃ x, headP ⟨l, false⟩ = x := ⟨_, rfl⟩
  obtain ⟨a, e2⟩ : ∃ x, takesP h.2 wReturn = x := ⟨_, rfl⟩
  obtain ⟨b, e3⟩ : ∃ x, takesP a.2 wQuick = x := ⟨_, rfl⟩
  obtain ⟨o, e4⟩ : ∃ x, onP b.2 = x := ⟨_, rfl⟩
  obtain ⟨pr, e5⟩ : ∃ x, prP o.2 = x := ⟨_, rfl⟩
  obtain ⟨fr, e6⟩ : ∃ x, sideF (kwP pr.2 wFrom) = x := ⟨_, rfl⟩
  obtain ⟨dt, e7⟩ : ∃ x, sideF (kwP fr.2 wTo) = x := ⟨_, rfl⟩
  obtain ⟨fl, e8⟩ : ∃ x, flagsP dt.2 = x := ⟨_, rfl⟩
  obtain ⟨ty, e9⟩ : ∃ x, typeP fl.2 = x := ⟨_, rfl⟩
  obtain ⟨k, e10⟩ : ∃ x, takesP ty.2 wKeep = x := ⟨_, rfl⟩
  obtain ⟨ro, e11⟩ : ∃ x, pinF k.2 wRoute = x := ⟨_, rfl⟩
  obtain ⟨re, e12⟩ : ∃ x, pinF ro.2 wReply = x := ⟨_, rfl⟩
  obtain ⟨tb, e13⟩ : ∃ x, tableP re.2 = x := ⟨_, rfl⟩
  have HC := Lib.hid (ruleOf_chain l h a b o pr fr dt fl ty k ro re tb e1 e2 e3 e4 e5 e6 e7 e8 e9 e10 e11 e12 e13)
  have Eh := Lib.hid e1
  have Ea := Lib.hid e2
  have Eb := Lib.hid e3
  have Eo := Lib.hid e4
  have Epr := Lib.hid e5
  have Efr := Lib.hid e6
  have Edt := Lib.hid e7
  have Efl := Lib.hid e8
  have Ety := Lib.hid e9
  have Ek := Lib.hid e10
  have Ero := Lib.hid e11
  have Ere := Lib.hid e12
  have Etb := Lib.hid e13
  clear hl hs e1 e2 e3 e4 e5 e6 e7 e8 e9 e10 e11 e12 e13
  go_enter Tryz.func64, Tryz.ntmps64
  go_upto_region 1 with fail
  go_wp2_with fail
  refine (KF.out _).mono ?_
  rintro e w1 ⟨A, rfl, hA0, hA1, hcs, hsh, hb1⟩
  have HB1 := Lib.hid (bstep HB0.out hb1 HB0.out.size)
  have HR1 := row_step HR0 hb1
  have HS := Lib.hid (parse_start hA1 hcs hsh (HL0.out.below hb1))
  have hlt : w.heap.size < w1.heap.size := by have := hb1.size; simp at this; omega
  clear hb1 hcs hsh hA0
  go_upto_region 3 with fail
  generalize hg : w1.heap.size = g at *
  -- STEPS
  have KT := Lib.hid (fun W' hr => takes_any g ⟨l, false⟩ #[112, 97, 115, 115] W' hr)
  have hw : (#[112, 97, 115, 115] : Array UInt8).toList = wPass := rfl
  rw [hw] at KT
  clear hw
  have hke := takesP_keeps ⟨l, false⟩ wPass
  have HD := Lib.hid (headP_eq ⟨l, false⟩)
  generalize takesP ⟨l, false⟩ wPass = tk at KT hke HD
  obtain ⟨t1, v1⟩ := tk
  dsimp only at KT hke HD
  have HKE := Lib.hid hke
  clear hke
  go_wp2_with fail
  refine (KT.out _ HS.out.rd).mono ?_; rintro e W1 ⟨rfl, hr1, hu1⟩; have HS := Lib.hid (HS.out.call hr1 hu1); clear hr1 hu1
  have c0 : W1.cell? ⟨g + 1, 0, none⟩ = some (.bool false) := HS.out.cell 0
  have f0 := HS.out.free 0
  go_upto_region 4 with fail
  have HS := Lib.hid (HS.out.put (k := 0) (r' := { pass := t1 }) rfl)
  clear c0 f0 KT
  go_cut [] (fun wc => PSt w1 g (g + 1) ({ pass := h.1 } : RuleM) h.2 wc)
  case first =>
    obtain ⟨c1, f1⟩ := HS.out.rd.cells
    have c0 := HS.out.cell 0
    cases t1 with
    | true =>
      have hh : h = (true, v1) := Eh.out.symm.trans HD.out
      have HH := Lib.hid hh
      clear hh
      have c0' : (W1.setCell ⟨g + 1, 0, none⟩ (.bool true)).cell? ⟨g + 1, 0, none⟩ = some (.bool true) := c0
      clear c0
      go_wp2_with fail
      go_meet
      case rel => rw [HH.out]; have := HS.out.bad false; rw [ws_eta v1 false HKE.out] at this; exact this
    | false =>
      have KB := Lib.hid (fun W' hr => takes_any g v1 #[98, 108, 111, 99, 107] W' hr)
      have hw : (#[98, 108, 111, 99, 107] : Array UInt8).toList = wBlock := rfl
      rw [hw] at KB
      clear hw
      generalize takesP v1 wBlock = tk at KB HD
      obtain ⟨t2, v2⟩ := tk
      dsimp only at KB HD
      have hh : h = (false, ⟨v2.l, !t2⟩) := Eh.out.symm.trans HD.out
      have HH := Lib.hid hh
      clear hh
      have c0' : (W1.setCell ⟨g + 1, 0, none⟩ (.bool false)).cell? ⟨g + 1, 0, none⟩ = some (.bool false) := c0
      clear c0
      go_wp2_with fail
      clear c0' c1 f1
      refine (KB.out _ HS.out.rd).mono ?_; rintro e W2 ⟨rfl, hr1, hu1⟩; have HS := Lib.hid (HS.out.call hr1 hu1); clear hr1 hu1; obtain ⟨c1, f1⟩ := HS.out.rd.cells
      go_wp2_with fail
      go_meet
      case rel => rw [HH.out]; exact HS.out.bad (!t2)
  case rest =>
  have HS := Lib.hid hcut
  clear hcut HD HKE Eh
  have KT := Lib.hid (fun W' hr => takes_any g h.2 #[114, 101, 116, 117, 114, 110] W' hr)
  have hw : (#[114, 101, 116, 117, 114, 110] : Array UInt8).toList = wReturn := rfl
  rw [hw] at KT
  clear hw
  rw [Ea.out] at KT
  go_wp2_with fail
  refine (KT.out _ HS.out.rd).mono ?_; rintro e W5 ⟨rfl, hr1, hu1⟩; have HS := Lib.hid (HS.out.call hr1 hu1); clear hr1 hu1
  have c0 := HS.out.cell 1
  have f0 := HS.out.free 1
  rw [rc1] at c0
  go_upto_region 6 with fail
  have HS := Lib.hid (HS.out.put (k := 1) (r' := ({ pass := h.1, ret := a.1 } : RuleM)) rfl)
  clear c0 f0 KT
  have KT := Lib.hid (fun W' hr => takes_any g a.2 #[113, 117, 105, 99, 107] W' hr)
  have hw : (#[113, 117, 105, 99, 107] : Array UInt8).toList = wQuick := rfl
  rw [hw] at KT
  clear hw
  rw [Eb.out] at KT
  go_wp2_with fail
  refine (KT.out _ HS.out.rd).mono ?_; rintro e W6 ⟨rfl, hr1, hu1⟩; have HS := Lib.hid (HS.out.call hr1 hu1); clear hr1 hu1
  have c0 := HS.out.cell 2
  have f0 := HS.out.free 2
  rw [rc2] at c0
  go_upto_region 7 with fail
  have HS := Lib.hid (HS.out.put (k := 2) (r' := ({ pass := h.1, ret := a.1, quick := b.1 } : RuleM)) rfl)
  clear c0 f0 KT
  have FO := Lib.hid (onP_fits (ws := b.2) HS.out.rd.short)
  rw [Eo.out] at FO
  have KT := Lib.hid (fun W' hr => takes_any g b.2 #[111, 110] W' hr)
  have hw : (#[111, 110] : Array UInt8).toList = wOn := rfl
  rw [hw] at KT
  clear hw
  have HD := Lib.hid (onP_eq b.2)
  generalize takesP b.2 wOn = tk at KT HD
  obtain ⟨t1, v1⟩ := tk
  dsimp only at KT HD
  go_wp2_with fail
  refine (KT.out _ HS.out.rd).mono ?_; rintro e W7 ⟨rfl, hr1, hu1⟩; have HS := Lib.hid (HS.out.call hr1 hu1); clear hr1 hu1
  clear KT
  go_upto_if 31 with fail
  go_cut [] (fun wc => PSt w1 g (g + 1) ({ pass := h.1, ret := a.1, quick := b.1, on := o.1 } : RuleM) o.2 wc)
  case first =>
    cases t1 with
    | false =>
      have hh : o = ([], v1) := Eo.out.symm.trans HD.out
      have HH := Lib.hid hh
      clear hh
      go_wp2_with fail
      go_meet
      case rel => rw [HH.out]; exact HS.out
    | true =>
      have KN := Lib.hid (fun W' hr => next_any g v1 W' hr)
      generalize nextF v1 = n at KN HD
      obtain ⟨x, v2⟩ := n
      dsimp only at KN HD
      have hh : o = (x, v2.orBad x.isEmpty) := Eo.out.symm.trans HD.out
      have HH := Lib.hid hh
      clear hh HD
      go_wp2_with fail
      refine (KN.out _ HS.out.rd).mono ?_; rintro e W8 ⟨rfl, hr1, hu1⟩; have HS := Lib.hid (HS.out.call hr1 hu1); clear hr1 hu1
      have c3 := HS.out.cell 3
      have f3 := HS.out.free 3
      rw [rc3] at c3
      obtain ⟨c1, f1⟩ := HS.out.rd.cells
      cases hbad : v2.bad <;> cases hem : x.isEmpty
      all_goals
        have HBAD := Lib.hid hbad
        have HEM := Lib.hid hem
        rw [hbad] at c1
        clear hbad
        go_wp2_with fail
        go_meet
        case rel => rw [HH.out, orBad_eq, HBAD.out, HEM.out]; exact (HS.out.put (k := 3) (r' := ({ pass := h.1, ret := a.1, quick := b.1, on := x } : RuleM)) rfl).bad _
  case rest =>
  have HS := Lib.hid hcut
  clear hcut HD
  have KT := Lib.hid (fun W' hr => takes_any g o.2 #[112, 114, 111, 116, 111] W' hr)
  have hw : (#[112, 114, 111, 116, 111] : Array UInt8).toList = wProto := rfl
  rw [hw] at KT
  clear hw
  have HD := Lib.hid (prP_eq o.2)
  generalize takesP o.2 wProto = tk at KT HD
  obtain ⟨t1, v1⟩ := tk
  dsimp only at KT HD
  go_wp2_with fail
  refine (KT.out _ HS.out.rd).mono ?_; rintro e W9 ⟨rfl, hr1, hu1⟩; have HS := Lib.hid (HS.out.call hr1 hu1); clear hr1 hu1
  clear KT
  go_upto_if 48 with fail
  go_cut [] (fun wc => PSt w1 g (g + 1) ({ pass := h.1, ret := a.1, quick := b.1, on := o.1, proto := pr.1 } : RuleM) pr.2 wc)
  case first =>
    cases t1 with
    | false =>
      have hh : pr = (0, v1) := Epr.out.symm.trans HD.out
      have HH := Lib.hid hh
      clear hh
      go_wp2_with fail
      go_meet
      case rel => rw [HH.out]; exact HS.out
    | true =>
      have hh : pr = protoP v1 := Epr.out.symm.trans HD.out
      have KN := Lib.hid (fun W' hr hl => wproto_any g v1 W' hr hl HS.out.G)
      rw [← hh] at KN
      clear hh
      go_wp2_with fail
      refine (KN.out _ HS.out.rd HS.out.lib).mono ?_; rintro e W10 ⟨rfl, hr1, hu1⟩; have HS := Lib.hid (HS.out.call hr1 hu1); clear hr1 hu1
      have c3 := HS.out.cell 4
      have f3 := HS.out.free 4
      rw [rc4] at c3
      go_wp2_with fail
      go_meet
      case rel => exact HS.out.put (k := 4) (r' := ({ pass := h.1, ret := a.1, quick := b.1, on := o.1, proto := pr.1 } : RuleM)) rfl
  case rest =>
  have HS := Lib.hid hcut
  clear hcut HD
  have KT := Lib.hid (fun W' hr => takes_any g pr.2 #[102, 114, 111, 109] W' hr)
  have hw : (#[102, 114, 111, 109] : Array UInt8).toList = wFrom := rfl
  rw [hw] at KT
  clear hw
  have HD := Lib.hid (kwP_eq pr.2 wFrom)
  have hke := takesP_keeps pr.2 wFrom
  have hwas := takesP_was pr.2 wFrom
  generalize takesP pr.2 wFrom = tk at KT HD hke hwas
  obtain ⟨t1, v1⟩ := tk
  dsimp only at KT HD hke
  have HKE := Lib.hid hke
  have HWAS := Lib.hid hwas
  clear hke hwas
  go_upto_region 12 with fail
  go_cut [] (fun wc => PSt w1 g (g + 1) ({ pass := h.1, ret := a.1, quick := b.1, on := o.1, proto := pr.1 } : RuleM) (kwP pr.2 wFrom) wc)
  case first =>
    obtain ⟨c1, f1⟩ := HS.out.rd.cells
    cases hbad : pr.2.bad with
    | true =>
      have HBAD := Lib.hid hbad
      rw [hbad] at c1
      have hv := HWAS.out hbad
      clear hbad
      injection hv with hv1 hv2
      have HV1 := Lib.hid hv1
      have HV2 := Lib.hid hv2
      clear hv1 hv2
      go_wp2_with fail
      go_meet
      case rel => rw [HD.out, orBad_eq, HV1.out, HV2.out, HBAD.out]; exact HS.out.bad _
    | false =>
      have HBAD := Lib.hid hbad
      rw [hbad] at c1
      clear hbad
      go_wp2_with fail
      clear c1 f1
      refine (KT.out _ HS.out.rd).mono ?_; rintro e W11 ⟨rfl, hr1, hu1⟩; have HS := Lib.hid (HS.out.call hr1 hu1); clear hr1 hu1; obtain ⟨c1, f1⟩ := HS.out.rd.cells
      go_wp2_with fail
      go_meet
      case rel => rw [HD.out, orBad_eq, HKE.out, HBAD.out]; exact HS.out.bad _
  case rest =>
  have HS := Lib.hid hcut
  clear hcut HD KT
  have Ffr := Lib.hid (sideF_fits (ws := kwP pr.2 wFrom) HS.out.rd.short)
  rw [Efr.out] at Ffr
  have KD := Lib.hid (fun W' hr hl => side_any g (kwP pr.2 wFrom) W' hr hl HS.out.G)
  rw [Efr.out] at KD
  go_wp2_with fail
  refine (KD.out _ HS.out.rd HS.out.lib).mono ?_; rintro e W13 ⟨rfl, hr1, hu1⟩; have HS := Lib.hid (HS.out.call hr1 hu1); clear hr1 hu1
  go_upto_region 14 with ((with_reducible refine Mem.store_part (g + 1) 5 (sideC fr.1) ?_ ?_ HS.out.row ?_ ?_ ?_ ?_ ?_); rfl; rfl; exact Nat.le_of_ble_eq_true rfl; kernel_rfl; exact side_one _; rfl)
  simp only [Act.put]
  have HS := Lib.hid (put6 (k := 5) (l := (sideC fr.1).toList) (r' := ({ pass := h.1, ret := a.1, quick := b.1, on := o.1, proto := pr.1, frm := fr.1 } : RuleM)) HS.out rfl)
  clear KD
  have KT := Lib.hid (fun W' hr => takes_any g fr.2 #[116, 111] W' hr)
  have hw : (#[116, 111] : Array UInt8).toList = wTo := rfl
  rw [hw] at KT
  clear hw
  have HD := Lib.hid (kwP_eq fr.2 wTo)
  have hke := takesP_keeps fr.2 wTo
  have hwas := takesP_was fr.2 wTo
  generalize takesP fr.2 wTo = tk at KT HD hke hwas
  obtain ⟨t1, v1⟩ := tk
  dsimp only at KT HD hke
  have HKE := Lib.hid hke
  have HWAS := Lib.hid hwas
  clear hke hwas
  go_upto_region 14 with fail
  go_cut [] (fun wc => PSt w1 g (g + 1) ({ pass := h.1, ret := a.1, quick := b.1, on := o.1, proto := pr.1, frm := fr.1 } : RuleM) (kwP fr.2 wTo) wc)
  case first =>
    obtain ⟨c1, f1⟩ := HS.out.rd.cells
    cases hbad : fr.2.bad with
    | true =>
      have HBAD := Lib.hid hbad
      rw [hbad] at c1
      have hv := HWAS.out hbad
      clear hbad
      injection hv with hv1 hv2
      have HV1 := Lib.hid hv1
      have HV2 := Lib.hid hv2
      clear hv1 hv2
      go_wp2_with fail
      go_meet
      case rel => rw [HD.out, orBad_eq, HV1.out, HV2.out, HBAD.out]; exact HS.out.bad _
    | false =>
      have HBAD := Lib.hid hbad
      rw [hbad] at c1
      clear hbad
      go_wp2_with fail
      clear c1 f1
      refine (KT.out _ HS.out.rd).mono ?_; rintro e W11 ⟨rfl, hr1, hu1⟩; have HS := Lib.hid (HS.out.call hr1 hu1); clear hr1 hu1; obtain ⟨c1, f1⟩ := HS.out.rd.cells
      go_wp2_with fail
      go_meet
      case rel => rw [HD.out, orBad_eq, HKE.out, HBAD.out]; exact HS.out.bad _
  case rest =>
  have HS := Lib.hid hcut
  clear hcut HD KT
  have Fdt := Lib.hid (sideF_fits (ws := kwP fr.2 wTo) HS.out.rd.short)
  rw [Edt.out] at Fdt
  have KD := Lib.hid (fun W' hr hl => side_any g (kwP fr.2 wTo) W' hr hl HS.out.G)
  rw [Edt.out] at KD
  go_wp2_with fail
  refine (KD.out _ HS.out.rd HS.out.lib).mono ?_; rintro e W15 ⟨rfl, hr1, hu1⟩; have HS := Lib.hid (HS.out.call hr1 hu1); clear hr1 hu1
  go_upto_region 16 with ((with_reducible refine Mem.store_part (g + 1) 11 (sideC dt.1) ?_ ?_ HS.out.row ?_ ?_ ?_ ?_ ?_); rfl; rfl; exact Nat.le_of_ble_eq_true rfl; kernel_rfl; exact side_one _; rfl)
  simp only [Act.put]
  have HS := Lib.hid (put6 (k := 11) (l := (sideC dt.1).toList) (r' := ({ pass := h.1, ret := a.1, quick := b.1, on := o.1, proto := pr.1, frm := fr.1, dst := dt.1 } : RuleM)) HS.out rfl)
  clear KD
  have KL := Lib.hid (fun W' (hp : PSt w1 g (g + 1) ({ pass := h.1, ret := a.1, quick := b.1, on := o.1, proto := pr.1, frm := fr.1, dst := dt.1 } : RuleM) dt.2 W') => look_any w1 g (g + 1) _ dt.2 W' hp rfl rfl)
  have hlk : lookF ({ pass := h.1, ret := a.1, quick := b.1, on := o.1, proto := pr.1, frm := fr.1, dst := dt.1 } : RuleM) dt.2 = (({ pass := h.1, ret := a.1, quick := b.1, on := o.1, proto := pr.1, frm := fr.1, dst := dt.1, set := fl.1.1, mask := fl.1.2, typ := ty.1 } : RuleM), ty.2) := by
    unfold lookF
    rw [Efl.out, Ety.out]
  rw [hlk] at KL
  clear hlk
  go_wp2_with fail
  refine (KL.out _ HS.out).mono ?_; rintro e W16 ⟨rfl, hp1⟩; have HS := Lib.hid hp1; clear hp1 KL
  have KT := Lib.hid (fun W' hr => takes_any g ty.2 #[107, 101, 101, 112] W' hr)
  have hw : (#[107, 101, 101, 112] : Array UInt8).toList = wKeep := rfl
  rw [hw] at KT
  clear hw
  rw [Ek.out] at KT
  go_wp2_with fail
  refine (KT.out _ HS.out.rd).mono ?_; rintro e W17 ⟨rfl, hr1, hu1⟩; have HS := Lib.hid (HS.out.call hr1 hu1); clear hr1 hu1
  have c0 := HS.out.cell 20
  have f0 := HS.out.free 20
  rw [rc20] at c0
  go_upto_region 18 with fail
  have HS := Lib.hid (HS.out.put (k := 20) (r' := ({ pass := h.1, ret := a.1, quick := b.1, on := o.1, proto := pr.1, frm := fr.1, dst := dt.1, set := fl.1.1, mask := fl.1.2, typ := ty.1, keep := k.1 } : RuleM)) rfl)
  clear c0 f0 KT
  have Fro := Lib.hid (pinF_fits (ws := k.2) HS.out.rd.short wRoute)
  rw [Ero.out] at Fro
  have KD := Lib.hid (fun W' hr hl => pin_any g k.2 #[114, 111, 117, 116, 101, 45, 116, 111] W' hr hl HS.out.G)
  have hw : (#[114, 111, 117, 116, 101, 45, 116, 111] : Array UInt8).toList = wRoute := rfl
  rw [hw, Ero.out] at KD
  clear hw
  go_wp2_with fail
  refine (KD.out _ HS.out.rd HS.out.lib).mono ?_; rintro e W18 ⟨rfl, hr1, hu1⟩; have HS := Lib.hid (HS.out.call hr1 hu1); clear hr1 hu1
  go_upto_region 19 with ((with_reducible refine Mem.store_part (g + 1) 21 (pinC ro.1) ?_ ?_ HS.out.row ?_ ?_ ?_ ?_ ?_); rfl; rfl; exact Nat.le_of_ble_eq_true rfl; kernel_rfl; exact pin_one _; rfl)
  simp only [Act.put]
  have HS := Lib.hid (put6 (k := 21) (l := (pinC ro.1).toList) (r' := ({ pass := h.1, ret := a.1, quick := b.1, on := o.1, proto := pr.1, frm := fr.1, dst := dt.1, set := fl.1.1, mask := fl.1.2, typ := ty.1, keep := k.1, routeTo := ro.1 } : RuleM)) HS.out rfl)
  clear KD
  have Fre := Lib.hid (pinF_fits (ws := ro.2) HS.out.rd.short wReply)
  rw [Ere.out] at Fre
  have KD := Lib.hid (fun W' hr hl => pin_any g ro.2 #[114, 101, 112, 108, 121, 45, 116, 111] W' hr hl HS.out.G)
  have hw : (#[114, 101, 112, 108, 121, 45, 116, 111] : Array UInt8).toList = wReply := rfl
  rw [hw, Ere.out] at KD
  clear hw
  go_wp2_with fail
  refine (KD.out _ HS.out.rd HS.out.lib).mono ?_; rintro e W19 ⟨rfl, hr1, hu1⟩; have HS := Lib.hid (HS.out.call hr1 hu1); clear hr1 hu1
  go_upto_region 20 with ((with_reducible refine Mem.store_part (g + 1) 24 (pinC re.1) ?_ ?_ HS.out.row ?_ ?_ ?_ ?_ ?_); rfl; rfl; exact Nat.le_of_ble_eq_true rfl; kernel_rfl; exact pin_one _; rfl)
  simp only [Act.put]
  have HS := Lib.hid (put6 (k := 24) (l := (pinC re.1).toList) (r' := ({ pass := h.1, ret := a.1, quick := b.1, on := o.1, proto := pr.1, frm := fr.1, dst := dt.1, set := fl.1.1, mask := fl.1.2, typ := ty.1, keep := k.1, routeTo := ro.1, replyTo := re.1 } : RuleM)) HS.out rfl)
  clear KD
  have KT := Lib.hid (fun W' hr => takes_any g re.2 #[116, 97, 98, 108, 101] W' hr)
  have hw : (#[116, 97, 98, 108, 101] : Array UInt8).toList = wTable := rfl
  rw [hw] at KT
  clear hw
  have HD := Lib.hid (tableP_eq re.2)
  generalize takesP re.2 wTable = tk at KT HD
  obtain ⟨t1, v1⟩ := tk
  dsimp only at KT HD
  go_wp2_with fail
  refine (KT.out _ HS.out.rd).mono ?_; rintro e W20 ⟨rfl, hr1, hu1⟩; have HS := Lib.hid (HS.out.call hr1 hu1); clear hr1 hu1
  clear KT
  go_upto_if 94 with fail
  go_cut [] (fun wc => PSt w1 g (g + 1) ({ pass := h.1, ret := a.1, quick := b.1, on := o.1, proto := pr.1, frm := fr.1, dst := dt.1, set := fl.1.1, mask := fl.1.2, typ := ty.1, keep := k.1, routeTo := ro.1, replyTo := re.1, table := tb.1 } : RuleM) tb.2 wc)
  case first =>
    cases t1 with
    | false =>
      have hh : tb = (0, v1) := Etb.out.symm.trans HD.out
      have HH := Lib.hid hh
      clear hh
      go_wp2_with fail
      go_meet
      case rel => rw [HH.out]; exact HS.out
    | true =>
      have KN := Lib.hid (fun W' hr => next_any g v1 W' hr)
      have KS := Lib.hid (fun W' (hr : Rd 150 W' g v1) => nextF_short hr)
      generalize nextF v1 = n at KN HD KS
      obtain ⟨x, v2⟩ := n
      dsimp only at KN HD KS
      have KM := Lib.hid (fun W' hs hr => number_any g v2 ⟨x.toArray⟩ hs W' hr)
      have hx : (⟨x.toArray⟩ : ByteArray).data.toList = x := rfl
      rw [hx] at KM
      clear hx
      generalize numP v2 x = m at KM HD
      obtain ⟨v, v3⟩ := m
      dsimp only at KM HD
      have hh : tb = (v, v3.orBad (v == 0)) := Etb.out.symm.trans HD.out
      have HH := Lib.hid hh
      clear hh HD
      go_wp2_with fail
      have KS1 := Lib.hid (KS.out _ HS.out.rd)
      refine (KN.out _ HS.out.rd).mono ?_; rintro e W21 ⟨rfl, hr1, hu1⟩; have HS := Lib.hid (HS.out.call hr1 hu1); clear hr1 hu1
      go_wp2_with fail
      refine (KM.out _ (by rw [wd_size]; have := KS1.out; omega) HS.out.rd).mono ?_; rintro e W22 ⟨rfl, hr1, hu1⟩; have HS := Lib.hid (HS.out.call hr1 hu1); clear hr1 hu1
      have c3 := HS.out.cell 27
      have f3 := HS.out.free 27
      rw [rc27] at c3
      obtain ⟨c1, f1⟩ := HS.out.rd.cells
      cases hbad : v3.bad <;> cases hem : (v == 0)
      all_goals
        have HBAD := Lib.hid hbad
        have HEM := Lib.hid hem
        rw [hbad] at c1
        clear hbad
        go_wp2_with fail
        go_meet
        case rel => rw [HH.out, orBad_eq, HBAD.out, HEM.out]; exact (HS.out.put (k := 27) (r' := ({ pass := h.1, ret := a.1, quick := b.1, on := o.1, proto := pr.1, frm := fr.1, dst := dt.1, set := fl.1.1, mask := fl.1.2, typ := ty.1, keep := k.1, routeTo := ro.1, replyTo := re.1, table := v } : RuleM)) rfl).bad _
  case rest =>
  have HS := Lib.hid hcut
  clear hcut HD
  have FS := Lib.hid (flagsP_range dt.2)
  rw [Efl.out] at FS
  clear Ea Eb Eo Epr Efr Edt Efl Ety Ek Ero Ere Etb KF
  have HFits : Hid (Fits ({ pass := h.1, ret := a.1, quick := b.1, on := o.1, proto := pr.1, frm := fr.1, dst := dt.1, set := fl.1.1, mask := fl.1.2, typ := ty.1, keep := k.1, routeTo := ro.1, replyTo := re.1, table := tb.1 } : RuleM)) := ⟨FO.out, Ffr.out.1, Ffr.out.2, Fdt.out.1, Fdt.out.2, Fro.out.1, Fre.out.1, Fro.out.2, Fre.out.2, by have := FS.out; dsimp only; omega⟩
  have HSm := Lib.hid (rules_same ({ pass := h.1, ret := a.1, quick := b.1, on := o.1, proto := pr.1, frm := fr.1, dst := dt.1, set := fl.1.1, mask := fl.1.2, typ := ty.1, keep := k.1, routeTo := ro.1, replyTo := re.1, table := tb.1 } : RuleM) HFits.out.set.1 HFits.out.set.2)
  have HI := Lib.hid (fun W => isP_any ({ pass := h.1, ret := a.1, quick := b.1, on := o.1, proto := pr.1, frm := fr.1, dst := dt.1, set := fl.1.1, mask := fl.1.2, typ := ty.1, keep := k.1, routeTo := ro.1, replyTo := re.1, table := tb.1 } : RuleM) HFits.out W)
  clear FO Ffr Fdt Fro Fre FS HFits
  generalize hr : ({ pass := h.1, ret := a.1, quick := b.1, on := o.1, proto := pr.1, frm := fr.1, dst := dt.1, set := fl.1.1, mask := fl.1.2, typ := ty.1, keep := k.1, routeTo := ro.1, replyTo := re.1, table := tb.1 } : RuleM) = r at HS HI HC HSm
  clear hr
  have HRB := Lib.hid ((HS.out.low.block _ hlt).trans HR1.out)
  have HRB0 := HRB
  have HBB := Lib.hid (HB1.out.trans (below_le' HS.out.low (Nat.le_of_lt hlt)))
  obtain ⟨S, n, cap, hrow, hn, hcap, hlies⟩ := HS.out.rd.row
  obtain ⟨c0, c1, f0, f1⟩ := box2 hrow
  clear hrow hlies hcap
  obtain ⟨tv, l2, bad⟩ := tb
  dsimp only at hn c0 c1 HS HC
  cases bad with
  | true =>
    have hv : ruleOf l = none := HC.out.trans rfl
    have HV := Lib.hid hv
    clear hv
    go_wp2_with ((with_reducible refine Mem.store_part w.heap.size 0 (ruleC {}) ?_ ?_ HRB.out ?_ ?_ ?_ ?_ ?_); rfl; rfl; exact Nat.le_of_ble_eq_true rfl; kernel_rfl; exact rule_one _; rfl)
    refine box_ret (Mem.puts_row _ _ HRB.out) rfl rfl rfl Tryz.underlying75 (by rw [put_all]; kernel_rfl) rfl ⟨?_, Mem.puts_below HBB.out (Nat.le_refl _) _ _⟩
    rw [HV.out, put_all]
    rfl
  | false =>
    cases l2 with
    | cons x xs =>
      have hv : ruleOf l = none := HC.out.trans rfl
      have HV := Lib.hid hv
      have h0 : 0 < n := by rw [hn]; simp
      clear hv hn
      go_wp2_with ((with_reducible refine Mem.store_part w.heap.size 0 (ruleC {}) ?_ ?_ HRB.out ?_ ?_ ?_ ?_ ?_); rfl; rfl; exact Nat.le_of_ble_eq_true rfl; kernel_rfl; exact rule_one _; rfl)
      refine box_ret (Mem.puts_row _ _ HRB.out) rfl rfl rfl Tryz.underlying75 (by rw [put_all]; kernel_rfl) rfl ⟨?_, Mem.puts_below HBB.out (Nat.le_refl _) _ _⟩
      rw [HV.out, put_all]
      rfl
    | nil =>
      obtain rfl : n = 0 := hn
      have HGR := Lib.hid HS.out.row
      have hi32 : (Tryz.prog.info? 75).map (·.size) = some (ruleC r).size := by kernel_rfl
      have HI32 := Lib.hid hi32
      clear hi32
      cases hp : ruleP r with
      | true =>
        have hv : ruleOf l = some r := HC.out.trans (by unfold endP; rw [← HSm.out, hp]; rfl)
        have HV := Lib.hid hv
        rw [hp] at HI
        clear hv hp
        go_wp2_with (first
          | ((with_reducible refine Mem.load_row (g + 1) ?_ HGR.out Tryz.underlying75 HI32.out ?_ ?_); rfl; rfl)
          | (go_at_call 47; (with_reducible refine (HI.out _).mono ?_); rintro e W30 ⟨rfl, hb1⟩; have HRB := row_step HRB hb1; have HGR := row_step HGR hb1; have HBB := Lib.hid (bstep HBB.out hb1 (Nat.le_of_lt (blk_lt' HRB0.out))); clear hb1)
          | ((with_reducible refine Mem.store_part w.heap.size 0 (ruleC r) ?_ ?_ HRB.out ?_ ?_ ?_ ?_ ?_); rfl; rfl; exact Nat.le_of_ble_eq_true rfl; kernel_rfl; exact rule_one _; rfl))
        refine box_ret (Mem.puts_row _ _ HRB.out) rfl rfl rfl Tryz.underlying75 (by rw [put_all]; kernel_rfl) rfl ⟨?_, Mem.puts_below HBB.out (Nat.le_refl _) _ _⟩
        rw [HV.out, put_all]
        rfl
      | false =>
        have hv : ruleOf l = none := HC.out.trans (by unfold endP; rw [← HSm.out, hp]; rfl)
        have HV := Lib.hid hv
        rw [hp] at HI
        clear hv hp
        go_wp2_with (first
          | ((with_reducible refine Mem.load_row (g + 1) ?_ HGR.out Tryz.underlying75 HI32.out ?_ ?_); rfl; rfl)
          | (go_at_call 47; (with_reducible refine (HI.out _).mono ?_); rintro e W30 ⟨rfl, hb1⟩; have HRB := row_step HRB hb1; have HBB := Lib.hid (bstep HBB.out hb1 (Nat.le_of_lt (blk_lt' HRB0.out))); clear hb1)
          | ((with_reducible refine Mem.store_part w.heap.size 0 (ruleC {}) ?_ ?_ HRB.out ?_ ?_ ?_ ?_ ?_); rfl; rfl; exact Nat.le_of_ble_eq_true rfl; kernel_rfl; exact rule_one _; rfl))
        refine box_ret (Mem.puts_row _ _ HRB.out) rfl rfl rfl Tryz.underlying75 (by rw [put_all]; kernel_rfl) rfl ⟨?_, Mem.puts_below HBB.out (Nat.le_refl _) _ _⟩
        rw [HV.out, put_all]
        rfl
end Go.Proofs.YtnmbbnhgoedjgaaGreatDoor.RuJ

