/- castellanref14.Parse: a text as a rule, the document's way. -/
import Derived.Test.YtnmbbnhgoedjgaaGreatDoorPRuU
import Derived.Test.YtnmbbnhgoedjgaaGreatDoorPRuM
import Derived.Test.YtnmbbnhgoedjgaaGreatDoorPRuJ
import Derived.Test.YtnmbbnhgoedjgaaGreatDoorPRuP
import Derived.Test.YtnmbbnhgoedjgaaGreatDoorPRuS
import Derived.Test.YtnmbbnhgoedjgaaGreatDoorPCh4
import Derived.Deep.RegionWith
namespace Go.Proofs.YtnmbbnhgoedjgaaGreatDoor.RuO
open Go Go.RowKit Go.Proofs.YtnmbbnhgoedjgaaGreatDoor.Ad0 Go.Proofs.YtnmbbnhgoedjgaaGreatDoor.Ru0 Go.Proofs.YtnmbbnhgoedjgaaGreatDoor.Ad1 Go.Proofs.YtnmbbnhgoedjgaaGreatDoor.St0 Go.Proofs.YtnmbbnhgoedjgaaGreatDoor.St2 Go.Proofs.YtnmbbnhgoedjgaaGreatDoor.St3 Go.Proofs.YtnmbbnhgoedjgaaGreatDoor.Ru1 Go.Proofs.YtnmbbnhgoedjgaaGreatDoor.Ru2 Go.Proofs.YtnmbbnhgoedjgaaGreatDoor.Ru6 Go.Proofs.YtnmbbnhgoedjgaaGreatDoor.Ru4 Go.Proofs.YtnmbbnhgoedjgaaGreatDoor.Ru9 Go.Proofs.YtnmbbnhgoedjgaaGreatDoor.RuB Go.Proofs.YtnmbbnhgoedjgaaGreatDoor.RuC Go.Proofs.YtnmbbnhgoedjgaaGreatDoor.RuK Go.Proofs.YtnmbbnhgoedjgaaGreatDoor.RuN Go.Proofs.YtnmbbnhgoedjgaaGreatDoor.RuD Go.Proofs.YtnmbbnhgoedjgaaGreatDoor.RuE Go.Proofs.YtnmbbnhgoedjgaaGreatDoor.RuL Go.Proofs.YtnmbbnhgoedjgaaGreatDoor.RuM Go.Proofs.YtnmbbnhgoedjgaaGreatDoor.RuH Go.Proofs.YtnmbbnhgoedjgaaGreatDoor.RuI Go.Proofs.YtnmbbnhgoedjgaaGreatDoor.RuJ Go.Proofs.YtnmbbnhgoedjgaaGreatDoor.RuY
set_option linter.unusedVariables false
set_option linter.unusedSimpArgs false
/-- While a rule is read: the reader, the rule so far; what lay before is as it was. -/
structure QSt (W0 : World) (g gr : Nat) (r : RuleM) (ws : Ws) (W : World) : Prop where
  rd : Rd 162 W g ws
  row : W.heap[gr]? = some (.cells (ruleC r) 75 (0, 0))
  low : Below g W0 W
  lib : LibOK W
  hg : g < gr
  G : LibLow g
theorem QSt.call {W0 W W3 : World} {g gr : Nat} {r : RuleM} {ws ws' : Ws} (h : QSt W0 g gr r ws W) (hr : Rd 162 W3 g ws') (hu : Upto g W W3) : QSt W0 g gr r ws' W3 :=
  ⟨hr, hu.row h.row (Nat.ne_of_gt h.hg), h.low.trans (hu.low (Nat.le_of_lt h.rd.lt)), lib_upto h.lib hu h.G (Nat.le_of_lt h.rd.lt), h.hg, h.G⟩
theorem QSt.below {W0 W W3 : World} {g gr : Nat} {r : RuleM} {ws : Ws} (h : QSt W0 g gr r ws W) (hb : Below W.heap.size W W3) : QSt W0 g gr r ws W3 :=
  h.call (h.rd.below hb) (Upto.of_below hb)
theorem QSt.draw {W0 W : World} {g gr : Nat} {r : RuleM} {ws : Ws} (h : QSt W0 g gr r ws W) (n : Nat) : QSt W0 g gr r ws (W.drewN n) := h.below (bdrewN (Below.refl _ _) n)
theorem QSt.bad {W0 W : World} {g gr : Nat} {r : RuleM} {ws : Ws} (h : QSt W0 g gr r ws W) (b : Bool) : QSt W0 g gr r ⟨ws.l, b⟩ (W.setCell ⟨g, 1, none⟩ (.bool b)) := h.call (h.rd.bad b) (Upto.refl _ _).set
theorem QSt.put {W0 W : World} {g gr k : Nat} {r r' : RuleM} {ws : Ws} {v : Value} (h : QSt W0 g gr r ws W) (he : (ruleC r).setIfInBounds k v = ruleC r') : QSt W0 g gr r' ws (W.setCell ⟨gr, k, none⟩ v) :=
  ⟨h.rd.above (set_b (Below.refl _ _) h.hg), by rw [← he]; exact set_at h.row, set_b h.low (Nat.le_of_lt h.hg), lib_low h.lib (set_b (Below.refl _ _) (Nat.le_of_lt h.hg)) h.G, h.hg, h.G⟩
theorem QSt.cell {W0 W : World} {g gr : Nat} {r : RuleM} {ws : Ws} (h : QSt W0 g gr r ws W) (k : Nat) : W.cell? ⟨gr, k, none⟩ = (ruleC r)[k]? := cell_of_row _ _ _ _ _ _ h.row
theorem QSt.free {W0 W : World} {g gr : Nat} {r : RuleM} {ws : Ws} (h : QSt W0 g gr r ws W) (k : Nat) : W.frozen? ⟨gr, k, none⟩ = false := frozen_of_row _ _ _ _ _ h.row
theorem qput6 {W0 W : World} {g gr : Nat} {r r' : RuleM} {ws : Ws} {k : Nat} {l : List Value} (h : QSt W0 g gr r ws W) (he : Mem.putL (ruleC r) k l = ruleC r') : QSt W0 g gr r' ws (W.setCells gr k l) :=
  ⟨h.rd.above (Mem.puts_below (Below.refl _ _) h.hg l k), by rw [← he]; exact Mem.puts_row l k h.row, Mem.puts_below h.low (Nat.le_of_lt h.hg) l k, lib_low h.lib (Mem.puts_below (Below.refl _ _) (Nat.le_of_lt h.hg) l k) h.G, h.hg, h.G⟩
/-- The start: the words, the reader, the rule. -/
theorem read_start {w1 : World} {S : Option Addr} {n cap : Nat} {l : List Wd} (hn : n = l.length) (hcap : n ≤ cap) (hc : Lies w1 S l w1.heap.size) (hs : ∀ x ∈ l, x.length < 4294967281) (hl : LibOK w1) :
    QSt w1 w1.heap.size (w1.heap.size + 1) {} ⟨l, false⟩ ((w1.alloc (.cells #[.slice S n cap, .bool false] 162)).alloc (.cells (ruleC {}) 75)) := by
  have hb := bnew2 w1 (.cells #[.slice S n cap, .bool false] 162) (.cells (ruleC {}) 75)
  exact ⟨⟨by simp; omega, hs, _, _, _, heap_alloc2_old _ _ _, hn, hcap, hc.upto (Upto.of_below hb)⟩, heap_alloc2_new _ _ _, hb, hl.below hb, Nat.lt_succ_self _, lib_lt hl⟩
theorem takesR_short {ws : Ws} (h : shortW ws) (x : Wd) : shortW (takesR ws x).2 := by
  obtain ⟨l, b⟩ := ws
  cases l with
  | nil => exact h
  | cons a t =>
    unfold takesR
    dsimp only
    split
    · exact fun y hy => h y (List.mem_cons_of_mem _ hy)
    · exact h
theorem portsR_who (s : SideM) (w : Ws) : (portsR s w).1.table = s.table ∧ (portsR s w).1.pfx = s.pfx := by
  rw [portsR_eq]
  split
  · split <;> exact ⟨rfl, rfl⟩
  · exact ⟨rfl, rfl⟩
theorem endF_fits {ws : Ws} (h : shortW ws) : (endF ws).1.table.length ≤ 9223372036854775807 ∧ (endF ws).1.pfx.ok := by
  unfold endF
  dsimp only
  rw [(portsR_who _ _).1, (portsR_who _ _).2, whoR_eq]
  have h1 := nextF_short' h
  generalize (nextF ws).1 = x at h1
  unfold whoG
  split
  · exact ⟨by simp, by show (0 : Nat) < 4294967296; decide⟩
  · split
    · exact ⟨by show (inner x).length ≤ _; unfold inner; simp; omega, by show (0 : Nat) < 4294967296; decide⟩
    · exact ⟨by simp, prefL_ok x⟩
theorem onR_fits {ws : Ws} (h : shortW ws) : (onR ws).1.length ≤ 9223372036854775807 := by
  unfold onR
  dsimp only
  split
  · have := nextF_short' (takesR_short h wOn)
    dsimp only
    omega
  · simp
theorem pinD_fits {ws : Ws} (h : shortW ws) (x : Wd) : (pinD ws x).1.iface.length ≤ 9223372036854775807 ∧ (pinD ws x).1.gate < 4294967296 := by
  unfold pinD
  dsimp only
  split
  · have := nextF_short' (takesR_short h x)
    exact ⟨by dsimp only; omega, parseL_lt _⟩
  · exact ⟨by simp, by show (0 : Nat) < 4294967296; decide⟩
theorem flagsD_off (w : Ws) (h : (takesR w wFlags).1 = false) : flagsD w = ((0, 0), (takesR w wFlags).2) := by
  unfold flagsD
  dsimp only
  rw [h]
  rfl
theorem flagsD_not (w : Ws) (h : (takesR w wFlags).1 = true) (hp : (parts 47 (nextF (takesR w wFlags).2).1).length ≠ 2) : flagsD w = ((0, 0), (nextF (takesR w wFlags).2).2.orBad true) := by
  unfold flagsD
  dsimp only
  rw [if_pos h]
  split
  · rename_i hx
    rw [hx] at hp
    exact absurd rfl hp
  · rfl
theorem flagsD_two (w : Ws) (h : (takesR w wFlags).1 = true) (x y : Wd) (hp : parts 47 (nextF (takesR w wFlags).2).1 = [x, y]) : flagsD w = (((bitsF (nextF (takesR w wFlags).2).2 x).1, (bitsF (bitsF (nextF (takesR w wFlags).2).2 x).2 y).1), (bitsF (bitsF (nextF (takesR w wFlags).2).2 x).2 y).2.orBad ((bitsF (bitsF (nextF (takesR w wFlags).2).2 x).2 y).1 == 0)) := by
  unfold flagsD
  dsimp only
  rw [if_pos h, hp]
theorem flagsD_range (w : Ws) : 0 ≤ (flagsD w).1.1 ∧ (flagsD w).1.1 ≤ 63 := by
  unfold flagsD
  dsimp only
  split
  · split
    · exact bitsF_range _ _
    · simp
  · simp
theorem typeR_eq (w : Ws) : typeR w = (if (takesR w wType).1 then numR (nextF (takesR w wType).2).2 (nextF (takesR w wType).2).1 255 else (-1, (takesR w wType).2)) := rfl
theorem pinD_eq (w : Ws) (x : Wd) : pinD w x = (if (takesR w x).1 then (⟨true, (nextF (takesR w x).2).1, (addrF (nextF (takesR w x).2).2).1⟩, (addrF (nextF (takesR w x).2).2).2) else ({}, (takesR w x).2)) := rfl
theorem tableR_eq (w : Ws) : tableR w = (if (takesR w wTable).1 then ((numR (nextF (takesR w wTable).2).2 (nextF (takesR w wTable).2).1 3).1, (numR (nextF (takesR w wTable).2).2 (nextF (takesR w wTable).2).1 3).2.orBad ((numR (nextF (takesR w wTable).2).2 (nextF (takesR w wTable).2).1 3).1 == 0)) else (0, (takesR w wTable).2)) := rfl
theorem headR_eq (w : Ws) : headR w = (if (nextF w).1 = wPass then (true, (nextF w).2) else if (nextF w).1 = wBlock then (false, (nextF w).2) else (false, ⟨(nextF w).2.l, true⟩)) := rfl
theorem onR_eq (w : Ws) : onR w = (if (takesR w wOn).1 then ((nextF (takesR w wOn).2).1, (nextF (takesR w wOn).2).2.orBad (nextF (takesR w wOn).2).1.isEmpty) else ([], (takesR w wOn).2)) := rfl
theorem prR_eq (w : Ws) : prR w = (if (takesR w wProto).1 then protoR (takesR w wProto).2 else (0, (takesR w wProto).2)) := rfl
theorem kwR_eq (w : Ws) (x : Wd) : kwR w x = (takesR w x).2.orBad (!(takesR w x).1) := rfl
theorem ruleOfR_chain (l : List Wd) (h : Bool × Ws) (a b : Bool × Ws) (o : Wd × Ws) (pr : Int × Ws) (fr dt : SideM × Ws) (fl : (Int × Int) × Ws) (ty : Int × Ws) (k : Bool × Ws) (ro re : PinM × Ws) (tb : Int × Ws)
    (e1 : headR ⟨l, false⟩ = h) (e2 : takesR h.2 wReturn = a) (e3 : takesR a.2 wQuick = b) (e4 : onR b.2 = o) (e5 : prR o.2 = pr) (e6 : endF (kwR pr.2 wFrom) = fr) (e7 : endF (kwR fr.2 wTo) = dt) (e8 : flagsD dt.2 = fl) (e9 : typeR fl.2 = ty) (e10 : takesR ty.2 wKeep = k) (e11 : pinD k.2 wRoute = ro) (e12 : pinD ro.2 wReply = re) (e13 : tableR re.2 = tb) :
    ruleOfR l = endP { pass := h.1, ret := a.1, quick := b.1, on := o.1, proto := pr.1, frm := fr.1, dst := dt.1, set := fl.1.1, mask := fl.1.2, typ := ty.1, keep := k.1, routeTo := ro.1, replyTo := re.1, table := tb.1 } tb.2 := by
  subst e13 e12 e11 e10 e9 e8 e7 e6 e5 e4 e3 e2 e1
  rfl
/-- The words of a text, in memory, the reference's way. -/
def WordsSaid : Prop := ∀ (s : ByteArray) (hs : s.size < 4294967281) (w : World), Calls Tryz.prog 29 #[.string s] w fun e w' => ∃ S n cap, e = .returned (.slice S n cap) ∧ n = (wordsL s.data.toList).length ∧ n ≤ cap ∧ Lies w' S (wordsL s.data.toList) w'.heap.size ∧ (∀ x ∈ wordsL s.data.toList, x.length < 4294967281) ∧ Below w.heap.size w w'
set_option maxRecDepth 100000 in
set_option maxHeartbeats 8000000 in
theorem readR_any (KW : WordsSaid) (s : ByteArray) (hs : s.size < 4294967281) (w : World) (hl : LibOK w) (hIs : ∀ (r : RuleM) (h : Fits r) (W : World), Calls Tryz.prog 51 #[.agg (ruleC r)] W fun e w' => e = .returned (.bool (ruleR r)) ∧ Below W.heap.size W w') :
    Calls Tryz.prog 70 #[.string s] w fun e w' => e = .returned (ruleV (ruleOfR (wordsL s.data.toList))) ∧ Below w.heap.size w w' := by
  have HB0 := Lib.hid (bnew w (.cells (ruleC {}) 75))
  have HR0 := Lib.hid (heap_alloc_new w (.cells (ruleC {}) 75))
  have HL0 := Lib.hid (hl.below HB0.out)
  have KF := Lib.hid (fun W => KW s hs W)
  have HIS := Lib.hid hIs
  clear hIs KW
  generalize wordsL s.data.toList = l at KF ⊢
  obtain ⟨h, e1⟩ : ∃ x, headR ⟨l, false⟩ = x := ⟨_, rfl⟩
  obtain ⟨a, e2⟩ : ∃ x, takesR h.2 wReturn = x := ⟨_, rfl⟩
  obtain ⟨b, e3⟩ : ∃ x, takesR a.2 wQuick = x := ⟨_, rfl⟩
  obtain ⟨o, e4⟩ : ∃ x, onR b.2 = x := ⟨_, rfl⟩
  obtain ⟨pr, e5⟩ : ∃ x, prR o.2 = x := ⟨_, rfl⟩
  obtain ⟨fr, e6⟩ : ∃ x, endF (kwR pr.2 wFrom) = x := ⟨_, rfl⟩
  obtain ⟨dt, e7⟩ : ∃ x, endF (kwR fr.2 wTo) = x := ⟨_, rfl⟩
  obtain ⟨fl, e8⟩ : ∃ x, flagsD dt.2 = x := ⟨_, rfl⟩
  obtain ⟨ty, e9⟩ : ∃ x, typeR fl.2 = x := ⟨_, rfl⟩
  obtain ⟨k, e10⟩ : ∃ x, takesR ty.2 wKeep = x := ⟨_, rfl⟩
  obtain ⟨ro, e11⟩ : ∃ x, pinD k.2 wRoute = x := ⟨_, rfl⟩
  obtain ⟨re, e12⟩ : ∃ x, pinD ro.2 wReply = x := ⟨_, rfl⟩
  obtain ⟨tb, e13⟩ : ∃ x, tableR re.2 = x := ⟨_, rfl⟩
  have HC := Lib.hid (ruleOfR_chain l h a b o pr fr dt fl ty k ro re tb e1 e2 e3 e4 e5 e6 e7 e8 e9 e10 e11 e12 e13)
  have Eh := Lib.hid e1
  have Ea := Lib.hid e2
  have Eb := Lib.hid e3
  have Eo := Lib.hid e4
  have Epr := Lib.hid e5
  have Efr := Lib.hid e6
  have Edt := Lib.hid e7
  have Efl := Lib.hid e8
  have Ety := Lib.hid e9
  have Ek := Lib.hid e10
  have Ero := Lib.hid e11
  have Ere := Lib.hid e12
  have Etb := Lib.hid e13
  clear hl hs e1 e2 e3 e4 e5 e6 e7 e8 e9 e10 e11 e12 e13
  go_enter Tryz.func70, Tryz.ntmps70
  go_upto_region 1 with fail
  go_wp2_with fail
  refine (KF.out _).mono ?_
  rintro e w1 ⟨S, n, cap, rfl, hn, hcap, hlies, hsh, hb1⟩
  have HB1 := Lib.hid (bstep HB0.out hb1 HB0.out.size)
  have HR1 := row_step HR0 hb1
  have HS := Lib.hid (read_start hn hcap hlies hsh (HL0.out.below hb1))
  have hlt : w.heap.size < w1.heap.size := by have := hb1.size; simp at this; omega
  clear hb1 hlies hsh hn hcap
  go_upto_region 2 with fail
  have HRR := Lib.hid HS.out.row
  go_upto_region 3 with (refine Mem.store_part (w1.heap.size + 1) 0 (ruleC { typ := -1 }) ?_ ?_ HRR.out ?_ ?_ ?_ ?_ ?_; rfl; rfl; exact Nat.le_of_ble_eq_true rfl; kernel_rfl; exact rule_one _; rfl)
  simp only [Act.put]
  have HS := Lib.hid (qput6 (k := 0) (l := (ruleC { typ := -1 }).toList) (r' := { typ := -1 }) HS.out rfl)
  clear HRR
  generalize hg : w1.heap.size = g at *
  clear hg
  have KN := Lib.hid (fun W' hr => rnext_any g ⟨l, false⟩ W' hr)
  have HD := Lib.hid (headR_eq ⟨l, false⟩)
  generalize nextF ⟨l, false⟩ = n at KN HD
  obtain ⟨x, v1⟩ := n
  dsimp only at KN HD
  go_wp2_with fail
  refine (KN.out _ HS.out.rd).mono ?_; rintro e W1 ⟨rfl, hr1, hu1⟩; have HS := Lib.hid (HS.out.call hr1 hu1); clear hr1 hu1
  clear KN
  go_upto_block 0 with fail
  go_cut [] (fun wc => QSt w1 g (g + 1) ({ pass := h.1, typ := -1 } : RuleM) h.2 wc)
  case first => as_aux_lemma =>
    obtain ⟨c1, f1⟩ := HS.out.rd.cells
    have c0 := HS.out.cell 0
    have f0 := HS.out.free 0
    rw [rc0] at c0
    by_cases x1 : x = wPass
    · have q1 : (x == [112, 97, 115, 115]) = true := by rw [beq_iff_eq]; exact x1
      have hh : h = (true, v1) := Eh.out.symm.trans (HD.out.trans (if_pos x1))
      have HH := Lib.hid hh
      clear hh x1
      go_wp2_with fail
      go_meet
      case rel => rw [HH.out]; exact HS.out.put (k := 0) rfl
    · have q1 : (x == [112, 97, 115, 115]) = false := by rw [beq_eq_false_iff_ne]; exact x1
      by_cases x2 : x = wBlock
      · have q2 : (x == [98, 108, 111, 99, 107]) = true := by rw [beq_iff_eq]; exact x2
        have hh : h = (false, v1) := Eh.out.symm.trans (HD.out.trans (by rw [if_neg x1, if_pos x2]))
        have HH := Lib.hid hh
        clear hh x1 x2
        go_wp2_with fail
        go_meet
        case rel => rw [HH.out]; exact HS.out
      · have q2 : (x == [98, 108, 111, 99, 107]) = false := by rw [beq_eq_false_iff_ne]; exact x2
        have hh : h = (false, ⟨v1.l, true⟩) := Eh.out.symm.trans (HD.out.trans (by rw [if_neg x1, if_neg x2]))
        have HH := Lib.hid hh
        clear hh x1 x2
        go_wp2_with fail
        go_meet
        case rel => rw [HH.out]; exact HS.out.bad true
  case rest =>
  have HS := Lib.hid hcut
  clear hcut HD Eh
  have KT := Lib.hid (fun W' hr => is_word g h.2 #[114, 101, 116, 117, 114, 110] W' hr)
  have hw : (#[114, 101, 116, 117, 114, 110] : Array UInt8).toList = wReturn := rfl
  rw [hw] at KT
  clear hw
  rw [Ea.out] at KT
  go_wp2_with fail
  refine (KT.out _ HS.out.rd).mono ?_; rintro e W8 ⟨rfl, hr1, hu1⟩; have HS := Lib.hid (HS.out.call hr1 hu1); clear hr1 hu1
  have c0 := HS.out.cell 1
  have f0 := HS.out.free 1
  rw [rc1] at c0
  go_upto_region 9 with fail
  have HS := Lib.hid (HS.out.put (k := 1) (r' := ({ pass := h.1, ret := a.1, typ := -1 } : RuleM)) rfl)
  clear c0 f0 KT
  have KT := Lib.hid (fun W' hr => is_word g a.2 #[113, 117, 105, 99, 107] W' hr)
  have hw : (#[113, 117, 105, 99, 107] : Array UInt8).toList = wQuick := rfl
  rw [hw] at KT
  clear hw
  rw [Eb.out] at KT
  go_wp2_with fail
  refine (KT.out _ HS.out.rd).mono ?_; rintro e W9 ⟨rfl, hr1, hu1⟩; have HS := Lib.hid (HS.out.call hr1 hu1); clear hr1 hu1
  have c0 := HS.out.cell 2
  have f0 := HS.out.free 2
  rw [rc2] at c0
  go_upto_region 10 with fail
  have HS := Lib.hid (HS.out.put (k := 2) (r' := ({ pass := h.1, ret := a.1, quick := b.1, typ := -1 } : RuleM)) rfl)
  clear c0 f0 KT
  have FO := Lib.hid (onR_fits (ws := b.2) HS.out.rd.short)
  rw [Eo.out] at FO
  have KT := Lib.hid (fun W' hr => is_word g b.2 #[111, 110] W' hr)
  have hw : (#[111, 110] : Array UInt8).toList = wOn := rfl
  rw [hw] at KT
  clear hw
  have HD := Lib.hid (onR_eq b.2)
  generalize takesR b.2 wOn = tk at KT HD
  obtain ⟨t1, v1⟩ := tk
  dsimp only at KT HD
  go_wp2_with fail
  refine (KT.out _ HS.out.rd).mono ?_; rintro e W7 ⟨rfl, hr1, hu1⟩; have HS := Lib.hid (HS.out.call hr1 hu1); clear hr1 hu1
  clear KT
  go_upto_if 29 with fail
  go_cut [] (fun wc => QSt w1 g (g + 1) ({ pass := h.1, ret := a.1, quick := b.1, on := o.1, typ := -1 } : RuleM) o.2 wc)
  case first => as_aux_lemma =>
    cases t1 with
    | false =>
      have hh : o = ([], v1) := Eo.out.symm.trans HD.out
      have HH := Lib.hid hh
      clear hh
      go_wp2_with fail
      go_meet
      case rel => rw [HH.out]; exact HS.out
    | true =>
      have KN := Lib.hid (fun W' hr => rnext_any g v1 W' hr)
      generalize nextF v1 = n at KN HD
      obtain ⟨x, v2⟩ := n
      dsimp only at KN HD
      have hh : o = (x, v2.orBad x.isEmpty) := Eo.out.symm.trans HD.out
      have HH := Lib.hid hh
      clear hh HD
      go_wp2_with fail
      refine (KN.out _ HS.out.rd).mono ?_; rintro e W8 ⟨rfl, hr1, hu1⟩; have HS := Lib.hid (HS.out.call hr1 hu1); clear hr1 hu1
      have c3 := HS.out.cell 3
      have f3 := HS.out.free 3
      rw [rc3] at c3
      obtain ⟨c1, f1⟩ := HS.out.rd.cells
      cases hbad : v2.bad <;> cases hem : x.isEmpty
      all_goals
        have HBAD := Lib.hid hbad
        have HEM := Lib.hid hem
        rw [hbad] at c1
        clear hbad
        go_wp2_with fail
        go_meet
        case rel => rw [HH.out, orBad_eq, HBAD.out, HEM.out]; exact (HS.out.put (k := 3) (r' := ({ pass := h.1, ret := a.1, quick := b.1, on := x, typ := -1 } : RuleM)) rfl).bad _
  case rest =>
  have HS := Lib.hid hcut
  clear hcut HD
  have KT := Lib.hid (fun W' hr => is_word g o.2 #[112, 114, 111, 116, 111] W' hr)
  have hw : (#[112, 114, 111, 116, 111] : Array UInt8).toList = wProto := rfl
  rw [hw] at KT
  clear hw
  have HD := Lib.hid (prR_eq o.2)
  generalize takesR o.2 wProto = tk at KT HD
  obtain ⟨t1, v1⟩ := tk
  dsimp only at KT HD
  go_wp2_with fail
  refine (KT.out _ HS.out.rd).mono ?_; rintro e W9 ⟨rfl, hr1, hu1⟩; have HS := Lib.hid (HS.out.call hr1 hu1); clear hr1 hu1
  clear KT
  go_upto_if 46 with fail
  go_cut [] (fun wc => QSt w1 g (g + 1) ({ pass := h.1, ret := a.1, quick := b.1, on := o.1, proto := pr.1, typ := -1 } : RuleM) pr.2 wc)
  case first => as_aux_lemma =>
    cases t1 with
    | false =>
      have hh : pr = (0, v1) := Epr.out.symm.trans HD.out
      have HH := Lib.hid hh
      clear hh
      go_wp2_with fail
      go_meet
      case rel => rw [HH.out]; exact HS.out
    | true =>
      have hh : pr = protoR v1 := Epr.out.symm.trans HD.out
      have KN := Lib.hid (fun W' hr => rwproto_any g v1 W' hr)
      rw [← hh] at KN
      clear hh
      go_wp2_with fail
      refine (KN.out _ HS.out.rd).mono ?_; rintro e W10 ⟨rfl, hr1, hu1⟩; have HS := Lib.hid (HS.out.call hr1 hu1); clear hr1 hu1
      have c3 := HS.out.cell 4
      have f3 := HS.out.free 4
      rw [rc4] at c3
      go_wp2_with fail
      go_meet
      case rel => exact HS.out.put (k := 4) (r' := ({ pass := h.1, ret := a.1, quick := b.1, on := o.1, proto := pr.1, typ := -1 } : RuleM)) rfl
  case rest =>
  have HS := Lib.hid hcut
  clear hcut HD
  have KT := Lib.hid (fun W' hr => is_word g pr.2 #[102, 114, 111, 109] W' hr)
  have hw : (#[102, 114, 111, 109] : Array UInt8).toList = wFrom := rfl
  rw [hw] at KT
  clear hw
  have HD := Lib.hid (kwR_eq pr.2 wFrom)
  generalize takesR pr.2 wFrom = tk at KT HD
  obtain ⟨t1, v1⟩ := tk
  dsimp only at KT HD
  go_upto_region 15 with fail
  go_cut [] (fun wc => QSt w1 g (g + 1) ({ pass := h.1, ret := a.1, quick := b.1, on := o.1, proto := pr.1, typ := -1 } : RuleM) (kwR pr.2 wFrom) wc)
  case first => as_aux_lemma =>
    cases t1
    all_goals
      go_wp2_with fail
      refine (KT.out _ HS.out.rd).mono ?_; rintro e W11 ⟨rfl, hr1, hu1⟩; have HS := Lib.hid (HS.out.call hr1 hu1); clear hr1 hu1; obtain ⟨c1, f1⟩ := HS.out.rd.cells
      go_wp2_with fail
      go_meet
    · rw [HD.out, orBad_eq]; have := HS.out.bad true; rw [show (v1.bad || !false) = true from by simp]; exact this
    · rw [HD.out, orBad_eq]; have := HS.out.bad v1.bad; rw [show (v1.bad || !true) = v1.bad from by simp]; exact this
  case rest =>
  have HS := Lib.hid hcut
  clear hcut HD KT
  have Ffr := Lib.hid (endF_fits (ws := kwR pr.2 wFrom) HS.out.rd.short)
  rw [Efr.out] at Ffr
  have KD := Lib.hid (fun W' hr hl => end_any g (kwR pr.2 wFrom) W' hr hl HS.out.G)
  rw [Efr.out] at KD
  go_wp2_with fail
  refine (KD.out _ HS.out.rd HS.out.lib).mono ?_; rintro e W16 ⟨rfl, hr1, hu1⟩; have HS := Lib.hid (HS.out.call hr1 hu1); clear hr1 hu1
  go_upto_region 17 with ((with_reducible refine Mem.store_part (g + 1) 5 (sideC fr.1) ?_ ?_ HS.out.row ?_ ?_ ?_ ?_ ?_); rfl; rfl; exact Nat.le_of_ble_eq_true rfl; kernel_rfl; exact side_one _; rfl)
  simp only [Act.put]
  have HS := Lib.hid (qput6 (k := 5) (l := (sideC fr.1).toList) (r' := ({ pass := h.1, ret := a.1, quick := b.1, on := o.1, proto := pr.1, frm := fr.1, typ := -1 } : RuleM)) HS.out rfl)
  clear KD
  have KT := Lib.hid (fun W' hr => is_word g fr.2 #[116, 111] W' hr)
  have hw : (#[116, 111] : Array UInt8).toList = wTo := rfl
  rw [hw] at KT
  clear hw
  have HD := Lib.hid (kwR_eq fr.2 wTo)
  generalize takesR fr.2 wTo = tk at KT HD
  obtain ⟨t1, v1⟩ := tk
  dsimp only at KT HD
  go_upto_region 17 with fail
  go_cut [] (fun wc => QSt w1 g (g + 1) ({ pass := h.1, ret := a.1, quick := b.1, on := o.1, proto := pr.1, frm := fr.1, typ := -1 } : RuleM) (kwR fr.2 wTo) wc)
  case first => as_aux_lemma =>
    cases t1
    all_goals
      go_wp2_with fail
      refine (KT.out _ HS.out.rd).mono ?_; rintro e W11 ⟨rfl, hr1, hu1⟩; have HS := Lib.hid (HS.out.call hr1 hu1); clear hr1 hu1; obtain ⟨c1, f1⟩ := HS.out.rd.cells
      go_wp2_with fail
      go_meet
    · rw [HD.out, orBad_eq]; have := HS.out.bad true; rw [show (v1.bad || !false) = true from by simp]; exact this
    · rw [HD.out, orBad_eq]; have := HS.out.bad v1.bad; rw [show (v1.bad || !true) = v1.bad from by simp]; exact this
  case rest =>
  have HS := Lib.hid hcut
  clear hcut HD KT
  have Fdt := Lib.hid (endF_fits (ws := kwR fr.2 wTo) HS.out.rd.short)
  rw [Edt.out] at Fdt
  have KD := Lib.hid (fun W' hr hl => end_any g (kwR fr.2 wTo) W' hr hl HS.out.G)
  rw [Edt.out] at KD
  go_wp2_with fail
  refine (KD.out _ HS.out.rd HS.out.lib).mono ?_; rintro e W18 ⟨rfl, hr1, hu1⟩; have HS := Lib.hid (HS.out.call hr1 hu1); clear hr1 hu1
  go_upto_region 19 with ((with_reducible refine Mem.store_part (g + 1) 11 (sideC dt.1) ?_ ?_ HS.out.row ?_ ?_ ?_ ?_ ?_); rfl; rfl; exact Nat.le_of_ble_eq_true rfl; kernel_rfl; exact side_one _; rfl)
  simp only [Act.put]
  have HS := Lib.hid (qput6 (k := 11) (l := (sideC dt.1).toList) (r' := ({ pass := h.1, ret := a.1, quick := b.1, on := o.1, proto := pr.1, frm := fr.1, dst := dt.1, typ := -1 } : RuleM)) HS.out rfl)
  clear KD
  have KT := Lib.hid (fun W' hr => is_word g dt.2 #[102, 108, 97, 103, 115] W' hr)
  have hw : (#[102, 108, 97, 103, 115] : Array UInt8).toList = wFlags := rfl
  rw [hw] at KT
  clear hw
  have FS := Lib.hid (flagsD_range dt.2)
  rw [Efl.out] at FS
  have H0 := Lib.hid (flagsD_off dt.2)
  have H1 := Lib.hid (flagsD_not dt.2)
  have H2 := Lib.hid (flagsD_two dt.2)
  rw [Efl.out] at H0 H1 H2
  generalize takesR dt.2 wFlags = tk at KT H0 H1 H2
  obtain ⟨t1, v1⟩ := tk
  dsimp only at KT H0 H1 H2
  go_wp2_with fail
  refine (KT.out _ HS.out.rd).mono ?_; rintro e W19 ⟨rfl, hr1, hu1⟩; have HS := Lib.hid (HS.out.call hr1 hu1); clear hr1 hu1
  clear KT
  go_upto_if 81 with fail
  go_cut [] (fun wc => QSt w1 g (g + 1) ({ pass := h.1, ret := a.1, quick := b.1, on := o.1, proto := pr.1, frm := fr.1, dst := dt.1, set := fl.1.1, mask := fl.1.2, typ := -1 } : RuleM) fl.2 wc)
  case first => as_aux_lemma =>
    cases t1 with
    | false =>
      have HH := Lib.hid (H0.out rfl)
      clear H0 H1 H2
      go_wp2_with fail
      go_meet
      case rel => rw [HH.out]; exact HS.out
    | true =>
      have KN := Lib.hid (fun W' hr => rnext_any g v1 W' hr)
      have KS := Lib.hid (fun W' (hr : Rd 162 W' g v1) => nextF_short hr)
      have H1 := Lib.hid (H1.out rfl)
      have H2 := Lib.hid (H2.out rfl)
      generalize nextF v1 = n at KN KS H1 H2
      obtain ⟨y, v2⟩ := n
      dsimp only at KN KS H1 H2
      have KC := Lib.hid (fun W' hs => (show Calls Tryz.prog 28 #[.string ⟨y.toArray⟩, .int .u8 47] W' _ from split_word y 47 hs W'))
      generalize parts 47 y = ps at KC H1 H2
      by_cases hp2 : ps.length = 2
      · obtain ⟨x1, x2, rfl⟩ : ∃ x1 x2, ps = [x1, x2] := by
          match ps, hp2 with
          | [x1, x2], _ => exact ⟨x1, x2, rfl⟩
        have KM := Lib.hid (fun W' hr => rflags_any g v2 x1 W' hr)
        have hF := H2.out x1 x2 rfl
        generalize bitsF v2 x1 = m at KM hF
        obtain ⟨a1, v3⟩ := m
        dsimp only at KM hF
        have KM2 := Lib.hid (fun W' hr => rflags_any g v3 x2 W' hr)
        generalize bitsF v3 x2 = m2 at KM2 hF
        obtain ⟨b1, v4⟩ := m2
        dsimp only at KM2 hF
        have HFF := Lib.hid hF
        clear hF hp2 H0 H1 H2
        go_wp2_with fail
        have KS1 := Lib.hid (KS.out _ HS.out.rd)
        refine (KN.out _ HS.out.rd).mono ?_; rintro e W20 ⟨rfl, hr1, hu1⟩; have HS := Lib.hid (HS.out.call hr1 hu1); clear hr1 hu1
        go_wp2_with fail
        have hbw := HS.out.rd.lt
        refine (KC.out _ KS1.out).mono ?_; rintro e W21 ⟨bb, cap, rfl, hcap, hbb, hcl, hsh, hb1⟩; have hgk := HS.out.rd.lt; have hgk1 : g + 1 < W20.heap.size := blk_lt' HS.out.row; have HS := Lib.hid (HS.out.below hb1); clear hb1
        have k0 := hcl 0 x1 rfl
        have k1 := hcl 1 x2 rfl
        have hbg : bb ≠ g := by omega
        have hbg1 : bb ≠ g + 1 := by omega
        simp only [List.length_cons, List.length_nil, Nat.zero_add] at hcap
        clear hcl hsh
        go_upto_region 22 with fail
        go_cut [] (fun wc => QSt w1 g (g + 1) ({ pass := h.1, ret := a.1, quick := b.1, on := o.1, proto := pr.1, frm := fr.1, dst := dt.1, set := a1, mask := b1, typ := -1 } : RuleM) v4 wc)
        case first =>
          have HSd := Lib.hid (HS.out.below (Below.refl _ _).drew)
          go_region_with (first
            | (go_at_call 121; (with_reducible refine (KM.out _ HSd.out.rd).mono ?_); rintro e W22 ⟨rfl, hr1, hu1⟩; have HS22 := Lib.hid (HSd.out.call hr1 hu1); have k1' := cell_upto hu1 k1 hbg; have k0' := cell_upto hu1 k0 hbg; clear hr1 hu1)
            | (go_at_call 121; (with_reducible refine (KM2.out _ HS22.out.rd).mono ?_); rintro e W23 ⟨rfl, hr1, hu1⟩; have HS23 := Lib.hid (HS22.out.call hr1 hu1); have c17 := HS23.out.cell 17; have c18 := HS23.out.cell 18; have f17 := HS23.out.free 17; have f18 := HS23.out.free 18; rw [rc17] at c17; rw [rc18] at c18; clear hr1 hu1))
          all_goals (go_wp2_with fail; go_meet)
          all_goals (case rel => exact (HS23.out.put (k := 17) (r' := ({ pass := h.1, ret := a.1, quick := b.1, on := o.1, proto := pr.1, frm := fr.1, dst := dt.1, set := a1, typ := -1 } : RuleM)) rfl).put (k := 18) (r' := ({ pass := h.1, ret := a.1, quick := b.1, on := o.1, proto := pr.1, frm := fr.1, dst := dt.1, set := a1, mask := b1, typ := -1 } : RuleM)) rfl)
        case rest =>
          have HS := Lib.hid hcut
          clear hcut
          have c18 := HS.out.cell 18
          rw [rc18] at c18
          dsimp only at c18
          obtain ⟨c1, f1⟩ := HS.out.rd.cells
          cases hbad : v4.bad <;> cases hz : (b1 == 0)
          all_goals
            rw [hbad] at c1
            have HBAD := Lib.hid hbad
            have HZ := Lib.hid hz
            clear hbad
            go_wp2_with fail
            go_meet
            case rel =>
              rw [HFF.out, orBad_eq, HBAD.out, HZ.out]
              exact HS.out.bad _
      · have HH := Lib.hid (H1.out hp2)
        generalize hpl : ps.length = pl at KC hp2
        have e3 : ((pl : Int) == 2) = false := by rw [beq_eq_false_iff_ne]; omega
        clear hpl H0 H1 H2
        go_wp2_with fail
        have KS1 := Lib.hid (KS.out _ HS.out.rd)
        refine (KN.out _ HS.out.rd).mono ?_; rintro e W20 ⟨rfl, hr1, hu1⟩; have HS := Lib.hid (HS.out.call hr1 hu1); clear hr1 hu1
        go_wp2_with fail
        refine (KC.out _ KS1.out).mono ?_; rintro e W21 ⟨bb, cap, rfl, hcap, hbb, hcl, hsh, hb1⟩; have HS := Lib.hid (HS.out.below hb1); clear hb1 hcl hsh
        have c18 := HS.out.cell 18
        rw [rc18] at c18
        obtain ⟨c1, f1⟩ := HS.out.rd.cells
        cases hbad : v2.bad
        all_goals
          rw [hbad] at c1
          go_wp2_with fail
          go_meet
          case rel => rw [HH.out, orBad_eq]; have := HS.out.bad true; rw [show (v2.bad || true) = true from by simp]; exact this
  case rest =>
  have HS := Lib.hid hcut
  clear hcut H0 H1 H2
  have KT := Lib.hid (fun W' hr => is_word g fl.2 #[116, 121, 112, 101] W' hr)
  have hw : (#[116, 121, 112, 101] : Array UInt8).toList = wType := rfl
  rw [hw] at KT
  clear hw
  have HD := Lib.hid (typeR_eq fl.2)
  generalize takesR fl.2 wType = tk at KT HD
  obtain ⟨t1, v1⟩ := tk
  dsimp only at KT HD
  go_wp2_with fail
  refine (KT.out _ HS.out.rd).mono ?_; rintro e W24 ⟨rfl, hr1, hu1⟩; have HS := Lib.hid (HS.out.call hr1 hu1); clear hr1 hu1
  clear KT
  go_upto_if 113 with fail
  go_cut [] (fun wc => QSt w1 g (g + 1) ({ pass := h.1, ret := a.1, quick := b.1, on := o.1, proto := pr.1, frm := fr.1, dst := dt.1, set := fl.1.1, mask := fl.1.2, typ := ty.1 } : RuleM) ty.2 wc)
  case first => as_aux_lemma =>
    cases t1 with
    | false =>
      have hh : ty = (-1, v1) := Ety.out.symm.trans HD.out
      have HH := Lib.hid hh
      clear hh
      go_wp2_with fail
      go_meet
      case rel => rw [HH.out]; exact HS.out
    | true =>
      have KN := Lib.hid (fun W' hr => rnext_any g v1 W' hr)
      have KS := Lib.hid (fun W' (hr : Rd 162 W' g v1) => nextF_short hr)
      generalize nextF v1 = n at KN HD KS
      obtain ⟨x, v2⟩ := n
      dsimp only at KN HD KS
      have KM := Lib.hid (fun W' hs hr => rnum_any g v2 x hs 255 W' hr)
      have hh : ty = numR v2 x 255 := Ety.out.symm.trans HD.out
      rw [← hh] at KM
      clear hh
      go_wp2_with fail
      have KS1 := Lib.hid (KS.out _ HS.out.rd)
      refine (KN.out _ HS.out.rd).mono ?_; rintro e W25 ⟨rfl, hr1, hu1⟩; have HS := Lib.hid (HS.out.call hr1 hu1); clear hr1 hu1
      go_wp2_with fail
      refine (KM.out _ (by have := KS1.out; omega) HS.out.rd).mono ?_; rintro e W26 ⟨rfl, hr1, hu1⟩; have HS := Lib.hid (HS.out.call hr1 hu1); clear hr1 hu1
      have c3 := HS.out.cell 19
      have f3 := HS.out.free 19
      rw [rc19] at c3
      go_wp2_with fail
      go_meet
      case rel => exact HS.out.put (k := 19) (r' := ({ pass := h.1, ret := a.1, quick := b.1, on := o.1, proto := pr.1, frm := fr.1, dst := dt.1, set := fl.1.1, mask := fl.1.2, typ := ty.1 } : RuleM)) rfl
  case rest =>
  have HS := Lib.hid hcut
  clear hcut HD
  have KT := Lib.hid (fun W' hr => is_word g ty.2 #[107, 101, 101, 112] W' hr)
  have hw : (#[107, 101, 101, 112] : Array UInt8).toList = wKeep := rfl
  rw [hw] at KT
  clear hw
  rw [Ek.out] at KT
  go_wp2_with fail
  refine (KT.out _ HS.out.rd).mono ?_; rintro e W27 ⟨rfl, hr1, hu1⟩; have HS := Lib.hid (HS.out.call hr1 hu1); clear hr1 hu1
  have c0 := HS.out.cell 20
  have f0 := HS.out.free 20
  rw [rc20] at c0
  go_upto_region 27 with fail
  have HS := Lib.hid (HS.out.put (k := 20) (r' := ({ pass := h.1, ret := a.1, quick := b.1, on := o.1, proto := pr.1, frm := fr.1, dst := dt.1, set := fl.1.1, mask := fl.1.2, typ := ty.1, keep := k.1 } : RuleM)) rfl)
  clear c0 f0 KT
  have Fro := Lib.hid (pinD_fits (ws := k.2) HS.out.rd.short wRoute)
  rw [Ero.out] at Fro
  have KT := Lib.hid (fun W' hr => is_word g k.2 #[114, 111, 117, 116, 101, 45, 116, 111] W' hr)
  have hw : (#[114, 111, 117, 116, 101, 45, 116, 111] : Array UInt8).toList = wRoute := rfl
  rw [hw] at KT
  clear hw
  have HD := Lib.hid (pinD_eq k.2 wRoute)
  generalize takesR k.2 wRoute = tk at KT HD
  obtain ⟨t1, v1⟩ := tk
  dsimp only at KT HD
  go_wp2_with fail
  refine (KT.out _ HS.out.rd).mono ?_; rintro e W28 ⟨rfl, hr1, hu1⟩; have HS := Lib.hid (HS.out.call hr1 hu1); clear hr1 hu1
  clear KT
  go_upto_if 123 with fail
  go_cut [] (fun wc => QSt w1 g (g + 1) ({ pass := h.1, ret := a.1, quick := b.1, on := o.1, proto := pr.1, frm := fr.1, dst := dt.1, set := fl.1.1, mask := fl.1.2, typ := ty.1, keep := k.1, routeTo := ro.1 } : RuleM) ro.2 wc)
  case first => as_aux_lemma =>
    cases t1 with
    | false =>
      have hh : ro = ({}, v1) := Ero.out.symm.trans HD.out
      have HH := Lib.hid hh
      clear hh
      go_wp2_with fail
      go_meet
      case rel => rw [HH.out]; exact HS.out
    | true =>
      have KD := Lib.hid (fun W' hr => pinD_any g v1 W' hr)
      have hh : (⟨true, (nextF v1).1, (addrF (nextF v1).2).1⟩, (addrF (nextF v1).2).2) = ro := HD.out.symm.trans Ero.out
      generalize addrF (nextF v1).2 = ad at KD hh
      generalize (nextF v1).1 = nm at KD hh
      obtain ⟨ad1, ad2⟩ := ad
      obtain ⟨p1, p2⟩ := ro
      obtain ⟨rfl, rfl⟩ := Prod.mk.inj hh
      clear hh HD
      go_wp2_with fail
      refine (KD.out _ HS.out.rd).mono ?_; rintro e W29 ⟨rfl, hr1, hu1⟩; have HS := Lib.hid (HS.out.call hr1 hu1); clear hr1 hu1
      go_wp2_with ((with_reducible refine Mem.store_part (g + 1) 21 (pinC ⟨true, nm, ad1⟩) ?_ ?_ HS.out.row ?_ ?_ ?_ ?_ ?_); rfl; rfl; exact Nat.le_of_ble_eq_true rfl; kernel_rfl; exact pin_one _; rfl)
      simp only [Act.put]
      have HS := Lib.hid (qput6 (k := 21) (l := (pinC ⟨true, nm, ad1⟩).toList) (r' := ({ pass := h.1, ret := a.1, quick := b.1, on := o.1, proto := pr.1, frm := fr.1, dst := dt.1, set := fl.1.1, mask := fl.1.2, typ := ty.1, keep := k.1, routeTo := (⟨true, nm, ad1⟩ : PinM) } : RuleM)) HS.out rfl)
      go_meet
      case rel => exact HS.out
  case rest =>
  have HS := Lib.hid hcut
  clear hcut HD
  have Fre := Lib.hid (pinD_fits (ws := ro.2) HS.out.rd.short wReply)
  rw [Ere.out] at Fre
  have KT := Lib.hid (fun W' hr => is_word g ro.2 #[114, 101, 112, 108, 121, 45, 116, 111] W' hr)
  have hw : (#[114, 101, 112, 108, 121, 45, 116, 111] : Array UInt8).toList = wReply := rfl
  rw [hw] at KT
  clear hw
  have HD := Lib.hid (pinD_eq ro.2 wReply)
  generalize takesR ro.2 wReply = tk at KT HD
  obtain ⟨t1, v1⟩ := tk
  dsimp only at KT HD
  go_wp2_with fail
  refine (KT.out _ HS.out.rd).mono ?_; rintro e W28 ⟨rfl, hr1, hu1⟩; have HS := Lib.hid (HS.out.call hr1 hu1); clear hr1 hu1
  clear KT
  go_upto_if 128 with fail
  go_cut [] (fun wc => QSt w1 g (g + 1) ({ pass := h.1, ret := a.1, quick := b.1, on := o.1, proto := pr.1, frm := fr.1, dst := dt.1, set := fl.1.1, mask := fl.1.2, typ := ty.1, keep := k.1, routeTo := ro.1, replyTo := re.1 } : RuleM) re.2 wc)
  case first => as_aux_lemma =>
    cases t1 with
    | false =>
      have hh : re = ({}, v1) := Ere.out.symm.trans HD.out
      have HH := Lib.hid hh
      clear hh
      go_wp2_with fail
      go_meet
      case rel => rw [HH.out]; exact HS.out
    | true =>
      have KD := Lib.hid (fun W' hr => pinD_any g v1 W' hr)
      have hh : (⟨true, (nextF v1).1, (addrF (nextF v1).2).1⟩, (addrF (nextF v1).2).2) = re := HD.out.symm.trans Ere.out
      generalize addrF (nextF v1).2 = ad at KD hh
      generalize (nextF v1).1 = nm at KD hh
      obtain ⟨ad1, ad2⟩ := ad
      obtain ⟨p1, p2⟩ := re
      obtain ⟨rfl, rfl⟩ := Prod.mk.inj hh
      clear hh HD
      go_wp2_with fail
      refine (KD.out _ HS.out.rd).mono ?_; rintro e W29 ⟨rfl, hr1, hu1⟩; have HS := Lib.hid (HS.out.call hr1 hu1); clear hr1 hu1
      go_wp2_with ((with_reducible refine Mem.store_part (g + 1) 24 (pinC ⟨true, nm, ad1⟩) ?_ ?_ HS.out.row ?_ ?_ ?_ ?_ ?_); rfl; rfl; exact Nat.le_of_ble_eq_true rfl; kernel_rfl; exact pin_one _; rfl)
      simp only [Act.put]
      have HS := Lib.hid (qput6 (k := 24) (l := (pinC ⟨true, nm, ad1⟩).toList) (r' := ({ pass := h.1, ret := a.1, quick := b.1, on := o.1, proto := pr.1, frm := fr.1, dst := dt.1, set := fl.1.1, mask := fl.1.2, typ := ty.1, keep := k.1, routeTo := ro.1, replyTo := (⟨true, nm, ad1⟩ : PinM) } : RuleM)) HS.out rfl)
      go_meet
      case rel => exact HS.out
  case rest =>
  have HS := Lib.hid hcut
  clear hcut HD
  have KT := Lib.hid (fun W' hr => is_word g re.2 #[116, 97, 98, 108, 101] W' hr)
  have hw : (#[116, 97, 98, 108, 101] : Array UInt8).toList = wTable := rfl
  rw [hw] at KT
  clear hw
  have HD := Lib.hid (tableR_eq re.2)
  generalize takesR re.2 wTable = tk at KT HD
  obtain ⟨t1, v1⟩ := tk
  dsimp only at KT HD
  go_wp2_with fail
  refine (KT.out _ HS.out.rd).mono ?_; rintro e W30 ⟨rfl, hr1, hu1⟩; have HS := Lib.hid (HS.out.call hr1 hu1); clear hr1 hu1
  clear KT
  go_upto_if 133 with fail
  go_cut [] (fun wc => QSt w1 g (g + 1) ({ pass := h.1, ret := a.1, quick := b.1, on := o.1, proto := pr.1, frm := fr.1, dst := dt.1, set := fl.1.1, mask := fl.1.2, typ := ty.1, keep := k.1, routeTo := ro.1, replyTo := re.1, table := tb.1 } : RuleM) tb.2 wc)
  case first => as_aux_lemma =>
    cases t1 with
    | false =>
      have hh : tb = (0, v1) := Etb.out.symm.trans HD.out
      have HH := Lib.hid hh
      clear hh
      go_wp2_with fail
      go_meet
      case rel => rw [HH.out]; exact HS.out
    | true =>
      have KN := Lib.hid (fun W' hr => rnext_any g v1 W' hr)
      have KS := Lib.hid (fun W' (hr : Rd 162 W' g v1) => nextF_short hr)
      generalize nextF v1 = n at KN HD KS
      obtain ⟨x, v2⟩ := n
      dsimp only at KN HD KS
      have KM := Lib.hid (fun W' hs hr => rnum_any g v2 x hs 3 W' hr)
      generalize numR v2 x 3 = m at KM HD
      obtain ⟨v, v3⟩ := m
      dsimp only at KM HD
      have hh : tb = (v, v3.orBad (v == 0)) := Etb.out.symm.trans HD.out
      have HH := Lib.hid hh
      clear hh HD
      go_wp2_with fail
      have KS1 := Lib.hid (KS.out _ HS.out.rd)
      refine (KN.out _ HS.out.rd).mono ?_; rintro e W31 ⟨rfl, hr1, hu1⟩; have HS := Lib.hid (HS.out.call hr1 hu1); clear hr1 hu1
      go_wp2_with fail
      refine (KM.out _ (by have := KS1.out; omega) HS.out.rd).mono ?_; rintro e W32 ⟨rfl, hr1, hu1⟩; have HS := Lib.hid (HS.out.call hr1 hu1); clear hr1 hu1
      have c3 := HS.out.cell 27
      have f3 := HS.out.free 27
      rw [rc27] at c3
      obtain ⟨c1, f1⟩ := HS.out.rd.cells
      cases hbad : v3.bad <;> cases hem : (v == 0)
      all_goals
        have HBAD := Lib.hid hbad
        have HEM := Lib.hid hem
        rw [hbad] at c1
        clear hbad
        go_wp2_with fail
        go_meet
        case rel => rw [HH.out, orBad_eq, HBAD.out, HEM.out]; exact (HS.out.put (k := 27) (r' := ({ pass := h.1, ret := a.1, quick := b.1, on := o.1, proto := pr.1, frm := fr.1, dst := dt.1, set := fl.1.1, mask := fl.1.2, typ := ty.1, keep := k.1, routeTo := ro.1, replyTo := re.1, table := v } : RuleM)) rfl).bad _
  case rest =>
  have HS := Lib.hid hcut
  clear hcut HD
  clear Ea Eb Eo Epr Efr Edt Efl Ety Ek Ero Ere Etb KF
  have HFits : Hid (Fits ({ pass := h.1, ret := a.1, quick := b.1, on := o.1, proto := pr.1, frm := fr.1, dst := dt.1, set := fl.1.1, mask := fl.1.2, typ := ty.1, keep := k.1, routeTo := ro.1, replyTo := re.1, table := tb.1 } : RuleM)) := ⟨FO.out, Ffr.out.1, Ffr.out.2, Fdt.out.1, Fdt.out.2, Fro.out.1, Fre.out.1, Fro.out.2, Fre.out.2, by have := FS.out; dsimp only; omega⟩
  have HI := Lib.hid (fun W => HIS.out ({ pass := h.1, ret := a.1, quick := b.1, on := o.1, proto := pr.1, frm := fr.1, dst := dt.1, set := fl.1.1, mask := fl.1.2, typ := ty.1, keep := k.1, routeTo := ro.1, replyTo := re.1, table := tb.1 } : RuleM) HFits.out W)
  clear FO Ffr Fdt Fro Fre FS HFits HIS
  generalize hr : ({ pass := h.1, ret := a.1, quick := b.1, on := o.1, proto := pr.1, frm := fr.1, dst := dt.1, set := fl.1.1, mask := fl.1.2, typ := ty.1, keep := k.1, routeTo := ro.1, replyTo := re.1, table := tb.1 } : RuleM) = r at HS HI HC
  clear hr
  have HRB := Lib.hid ((HS.out.low.block _ hlt).trans HR1.out)
  have HRB0 := HRB
  have HBB := Lib.hid (HB1.out.trans (below_le' HS.out.low (Nat.le_of_lt hlt)))
  obtain ⟨S, n, cap, hrow, hn, hcap, hlies⟩ := HS.out.rd.row
  obtain ⟨c0, c1, f0, f1⟩ := box2 hrow
  clear hrow hlies hcap
  obtain ⟨tv, l2, bad⟩ := tb
  dsimp only at hn c0 c1 HS HC
  cases bad with
  | true =>
    have hv : ruleOfR l = none := HC.out.trans rfl
    have HV := Lib.hid hv
    clear hv
    go_wp2_with ((with_reducible refine Mem.store_part w.heap.size 0 (ruleC {}) ?_ ?_ HRB.out ?_ ?_ ?_ ?_ ?_); rfl; rfl; exact Nat.le_of_ble_eq_true rfl; kernel_rfl; exact rule_one _; rfl)
    refine box_ret (Mem.puts_row _ _ HRB.out) rfl rfl rfl Tryz.underlying75 (by rw [put_all]; kernel_rfl) rfl ⟨?_, Mem.puts_below HBB.out (Nat.le_refl _) _ _⟩
    rw [HV.out, put_all]
    rfl
  | false =>
    cases l2 with
    | cons x xs =>
      have hv : ruleOfR l = none := HC.out.trans rfl
      have HV := Lib.hid hv
      have h0 : 0 < n := by rw [hn]; simp
      clear hv hn
      go_wp2_with ((with_reducible refine Mem.store_part w.heap.size 0 (ruleC {}) ?_ ?_ HRB.out ?_ ?_ ?_ ?_ ?_); rfl; rfl; exact Nat.le_of_ble_eq_true rfl; kernel_rfl; exact rule_one _; rfl)
      refine box_ret (Mem.puts_row _ _ HRB.out) rfl rfl rfl Tryz.underlying75 (by rw [put_all]; kernel_rfl) rfl ⟨?_, Mem.puts_below HBB.out (Nat.le_refl _) _ _⟩
      rw [HV.out, put_all]
      rfl
    | nil =>
      obtain rfl : n = 0 := hn
      have HGR := Lib.hid HS.out.row
      have hi32 : (Tryz.prog.info? 75).map (·.size) = some (ruleC r).size := by kernel_rfl
      have HI32 := Lib.hid hi32
      clear hi32
      cases hp : ruleR r with
      | true =>
        have hv : ruleOfR l = some r := HC.out.trans (by unfold endP; rw [hp]; rfl)
        have HV := Lib.hid hv
        rw [hp] at HI
        clear hv hp
        go_wp2_with (first
          | ((with_reducible refine Mem.load_row (g + 1) ?_ HGR.out Tryz.underlying75 HI32.out ?_ ?_); rfl; rfl)
          | (go_at_call 51; (with_reducible refine (HI.out _).mono ?_); rintro e W40 ⟨rfl, hb1⟩; have HRB := row_step HRB hb1; have HGR := row_step HGR hb1; have HBB := Lib.hid (bstep HBB.out hb1 (Nat.le_of_lt (blk_lt' HRB0.out))); clear hb1)
          | ((with_reducible refine Mem.store_part w.heap.size 0 (ruleC r) ?_ ?_ HRB.out ?_ ?_ ?_ ?_ ?_); rfl; rfl; exact Nat.le_of_ble_eq_true rfl; kernel_rfl; exact rule_one _; rfl))
        refine box_ret (Mem.puts_row _ _ HRB.out) rfl rfl rfl Tryz.underlying75 (by rw [put_all]; kernel_rfl) rfl ⟨?_, Mem.puts_below HBB.out (Nat.le_refl _) _ _⟩
        rw [HV.out, put_all]
        rfl
      | false =>
        have hv : ruleOfR l = none := HC.out.trans (by unfold endP; rw [hp]; rfl)
        have HV := Lib.hid hv
        rw [hp] at HI
        clear hv hp
        go_wp2_with (first
          | ((with_reducible refine Mem.load_row (g + 1) ?_ HGR.out Tryz.underlying75 HI32.out ?_ ?_); rfl; rfl)
          | (go_at_call 51; (with_reducible refine (HI.out _).mono ?_); rintro e W40 ⟨rfl, hb1⟩; have HRB := row_step HRB hb1; have HGR := row_step HGR hb1; have HBB := Lib.hid (bstep HBB.out hb1 (Nat.le_of_lt (blk_lt' HRB0.out))); clear hb1)
          | ((with_reducible refine Mem.store_part w.heap.size 0 (ruleC {}) ?_ ?_ HRB.out ?_ ?_ ?_ ?_ ?_); rfl; rfl; exact Nat.le_of_ble_eq_true rfl; kernel_rfl; exact rule_one _; rfl))
        refine box_ret (Mem.puts_row _ _ HRB.out) rfl rfl rfl Tryz.underlying75 (by rw [put_all]; kernel_rfl) rfl ⟨?_, Mem.puts_below HBB.out (Nat.le_refl _) _ _⟩
        rw [HV.out, put_all]
        rfl
end Go.Proofs.YtnmbbnhgoedjgaaGreatDoor.RuO

