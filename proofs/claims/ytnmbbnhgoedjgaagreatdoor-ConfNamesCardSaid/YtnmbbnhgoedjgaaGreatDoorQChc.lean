/- (*reader).line: tables, rules; all lines. (*reader).line: whatever the line. -/
import Derived.Test.YtnmbbnhgoedjgaaGreatDoorQCha
import Derived.Test.YtnmbbnhgoedjgaaGreatDoorQCgM
import Derived.Deep.RegionLaw
import Derived.Great.BuildSlice
namespace Go.Proofs.YtnmbbnhgoedjgaaGreatDoor.Chb
open Go Go.RowKit Go.Proofs.YtnmbbnhgoedjgaaGreatDoor.Ad0 Go.Proofs.YtnmbbnhgoedjgaaGreatDoor.Ad1 Go.Proofs.YtnmbbnhgoedjgaaGreatDoor.St0 Go.Proofs.YtnmbbnhgoedjgaaGreatDoor.St2 Go.Proofs.YtnmbbnhgoedjgaaGreatDoor.Ru0 Go.Proofs.YtnmbbnhgoedjgaaGreatDoor.Ru1 Go.Proofs.YtnmbbnhgoedjgaaGreatDoor.Ru4 Go.Proofs.YtnmbbnhgoedjgaaGreatDoor.Ru6 Go.Proofs.YtnmbbnhgoedjgaaGreatDoor.RuB Go.Proofs.YtnmbbnhgoedjgaaGreatDoor.RuC Go.Proofs.YtnmbbnhgoedjgaaGreatDoor.RuD Go.Proofs.YtnmbbnhgoedjgaaGreatDoor.RuE Go.Proofs.YtnmbbnhgoedjgaaGreatDoor.RuJ Go.Proofs.YtnmbbnhgoedjgaaGreatDoor.RuY Go.Proofs.YtnmbbnhgoedjgaaGreatDoor.Cf0 Go.Proofs.YtnmbbnhgoedjgaaGreatDoor.Cf4 Go.Proofs.YtnmbbnhgoedjgaaGreatDoor.Cg0 Go.Proofs.YtnmbbnhgoedjgaaGreatDoor.Ch4 Go.Proofs.YtnmbbnhgoedjgaaGreatDoor.Ch7 Go.Proofs.YtnmbbnhgoedjgaaGreatDoor.CgM Go.Proofs.YtnmbbnhgoedjgaaGreatDoor.Ch1 Go.Proofs.YtnmbbnhgoedjgaaGreatDoor.CgB Go.Proofs.YtnmbbnhgoedjgaaGreatDoor.CgL Go.Proofs.YtnmbbnhgoedjgaaGreatDoor.Ch8 Go.Proofs.YtnmbbnhgoedjgaaGreatDoor.Ch9
set_option linter.unusedVariables false
set_option linter.unusedSimpArgs false
def isRow (W : World) (g : Nat) : Bool := match W.heap[g]? with
    | some (.cells c t f) => t == 75 && decide (f = (0, 0)) && c.size == 28
    | _ => false
def rowAt (W : World) (g : Nat) : Array Value := match W.heap[g]? with
    | some (.cells c _ _) => c
    | _ => #[]
theorem row_heap {W : World} {g : Nat} (h : isRow W g = true) : W.heap[g]? = some (.cells (rowAt W g) 75 (0, 0)) ∧ (rowAt W g).size = 28 := by
  unfold isRow at h
  unfold rowAt
  try dsimp only at h ⊢
  split at h
  · rename_i c t f he
    simp only [Bool.and_eq_true, beq_iff_eq, decide_eq_true_eq] at h
    obtain ⟨⟨rfl, rfl⟩, hz⟩ := h
    rw [he]
    exact ⟨rfl, hz⟩
  · cases h
theorem heap_row {W : World} {g : Nat} {ca : Array Value} (h : W.heap[g]? = some (.cells ca 75 (0, 0))) (hz : ca.size = 28) : isRow W g = true ∧ rowAt W g = ca := by
  unfold isRow rowAt
  try dsimp only
  rw [h]
  simp [hz]
def ld (a : Addr) : Sem Value := loadVar 75 a
theorem ld_eq (a : Addr) : loadVar 75 a = ld a := rfl
theorem ld_run (W : World) (g : Nat) (h : isRow W g = true) : (ld ⟨g, 0, none⟩).run Tryz.prog W = .ok (.agg (rowAt W g)) W := by
  obtain ⟨h1, h2⟩ := row_heap h
  exact run_loadVar_row W g _ _ _ _ _ h1 Tryz.underlying75 rfl (by rw [h2]; kernel_rfl)
def bs (parts : Array (Nat × Value)) : Sem Value := Instr.buildSlice 25 1 parts
theorem bs_eq (parts : Array (Nat × Value)) : Instr.buildSlice 25 1 parts = bs parts := rfl
theorem rule_fill (r : RuleM) (w : World) : (bs #[(0, .agg (ruleC r))]).run Tryz.prog w = .ok (.slice (some ⟨w.heap.size, 0, none⟩) 1 1) (w.alloc (.cells (ruleC r) 75)) := by
  obtain ⟨i0, hi0, hz0, hz1, hz2⟩ := info_parts info_rl
  refine run_buildSlice w 25 75 1 _ (ruleC r) i0 _ Tryz.underlying25 hi0 hz0 (by rw [hz1]; decide) (by rw [hz1]; decide) ?_
  rw [hz1]
  kernel_rfl
theorem all_one {cs : Array Value} (h : cs.all (·.oneCell') = true) : ∀ u ∈ cs.toList, u.oneCell' = true := fun u hu => by
  rw [Array.all_eq_true'] at h
  exact h u (by simpa using hu)
attribute [local go_sem ↓] ld_eq
attribute [local go_sem ↓] bs_eq
attribute [local go_sem] ld_run
theorem nm_one (nm : Wd) (A : Option Addr) {n k : Nat} : ∀ u ∈ nmL (⟨nm, []⟩, .slice A n k), u.oneCell' = true := by
  intro u hu
  simp [nmL] at hu
  rcases hu with rfl | rfl <;> rfl
set_option maxRecDepth 100000 in
set_option maxHeartbeats 4000000 in
theorem table_short (g B : Nat) (v0 v1 v2 v3 : Value) (ts : List (NamedM × Value)) (c : ConfM) (l : Wd) (b o cap : Nat) (W : World) (hcap : 1 ≤ cap) (hr : W.rangeAt b o ([wTable].map fun w => Value.string ⟨w.toArray⟩)) (hR : RdrAt g B v0 v1 v2 v3 ts c W) :
    Calls Tryz.prog 27 #[.pointer (some ⟨g, 0, none⟩), .string ⟨l.toArray⟩, .slice (some ⟨b, o, none⟩) 1 cap] W fun e w' => LineGot g B (lineL c l [wTable]) W e w' := by
  have c0 : W.cell? ⟨b, o, none⟩ = some (.string ⟨#[116, 97, 98, 108, 101]⟩) := hr 0 _ rfl
  have HZ := Lib.hid (show lineL c l [wTable] = none from rfl)
  clear hr hR
  go_enter Tryz.func27, Tryz.ntmps27
  go_wp2_with fail
  go_ret
  exact got_none HZ.out rfl (Keep.refl _ _ _)
set_option maxRecDepth 100000 in
set_option maxHeartbeats 4000000 in
theorem table_name (g B : Nat) (v0 v1 v2 v3 : Value) (ts : List (NamedM × Value)) (c : ConfM) (l : Wd) (nm : Wd) (ps : List Wd) (b o cap : Nat) (W : World) (hbk : b < W.heap.size) (hcap : ps.length + 2 ≤ cap) (hn : ps.length ≤ 1048576)
    (hs : ∀ x ∈ nm :: ps, x.length < 4294967281) (hr : W.rangeAt b o ((wTable :: nm :: ps).map fun w => Value.string ⟨w.toArray⟩)) (hl : LibOK W) (hR : RdrAt g B v0 v1 v2 v3 ts c W) (hnt : ts.length ≤ 1048576) (hq : nameL nm = false) :
    Calls Tryz.prog 27 #[.pointer (some ⟨g, 0, none⟩), .string ⟨l.toArray⟩, .slice (some ⟨b, o, none⟩) (ps.length + 2 : Nat) cap] W fun e w' => LineGot g B (lineL c l (wTable :: nm :: ps)) W e w' := by
  have c0 : W.cell? ⟨b, o, none⟩ = some (.string ⟨#[116, 97, 98, 108, 101]⟩) := hr 0 _ rfl
  have c1 : W.cell? ⟨b, o + 1, none⟩ = some (.string ⟨nm.toArray⟩) := hr 1 _ rfl
  have KN := Lib.hid (fun W' => name_any nm (by have := hs nm (by simp); omega) W')
  have HRd := Lib.hid hR
  have HZ := Lib.hid (show lineL c l (wTable :: nm :: ps) = none by rw [line_table]; simp [tableOf, hq])
  rw [hq] at KN
  have h2 : ¬ ((ps.length : Int) + 2 < 2) := by omega
  have h3 : (1 : Int) < (ps.length : Int) + 2 := by omega
  have hB := hR.BW
  clear hr hs hl hR hq
  go_enter Tryz.func27, Tryz.ntmps27
  go_wp2_with (go_at_call 63; (with_reducible refine (KN.out _).mono ?_); rintro e w1 ⟨rfl, hb1⟩; have HB := Lib.hid hb1; clear hb1)
  go_ret
  exact got_none HZ.out rfl (Keep.of (HB.out.mono hB))
set_option maxRecDepth 100000 in
set_option maxHeartbeats 4000000 in
theorem table_bad (g B : Nat) (v0 v1 v2 v3 : Value) (ts : List (NamedM × Value)) (c : ConfM) (l : Wd) (nm : Wd) (ps : List Wd) (b o cap : Nat) (W : World) (hbk : b < W.heap.size) (hcap : ps.length + 2 ≤ cap) (hn : ps.length ≤ 1048576)
    (hs : ∀ x ∈ nm :: ps, x.length < 4294967281) (hr : W.rangeAt b o ((wTable :: nm :: ps).map fun w => Value.string ⟨w.toArray⟩)) (hl : LibOK W) (hR : RdrAt g B v0 v1 v2 v3 ts c W) (hnt : ts.length ≤ 1048576) (hq : nameL nm = true) (hc2 : ¬ cap = 2) (hp : prefsOf ps = none) :
    Calls Tryz.prog 27 #[.pointer (some ⟨g, 0, none⟩), .string ⟨l.toArray⟩, .slice (some ⟨b, o, none⟩) (ps.length + 2 : Nat) cap] W fun e w' => LineGot g B (lineL c l (wTable :: nm :: ps)) W e w' := by
  have c0 : W.cell? ⟨b, o, none⟩ = some (.string ⟨#[116, 97, 98, 108, 101]⟩) := hr 0 _ rfl
  have c1 : W.cell? ⟨b, o + 1, none⟩ = some (.string ⟨nm.toArray⟩) := hr 1 _ rfl
  obtain ⟨A2, k2, e2, -⟩ := own_sl hR.rd.r2
  subst e2
  have KN := Lib.hid (fun W' => name_any nm (by have := hs nm (by simp); omega) W')
  have HRd := Lib.hid hR
  have HK := Lib.hid hbk
  have hN := HRd.out.BW
  have HB0 := Lib.hid hN
  have KP := fun W' (hb : Below W.heap.size W W') => prefixes_any ps hn (fun x hx => hs x (by simp [hx])) (.slice (some ⟨b, o + 2, none⟩) (ps.length : Nat) (cap - 2 : Nat)) W' ((by have h := sl_drop (k := 2) (n := ps.length + 2) (cap := cap) hbk hr (by omega) hcap; simpa using h : Sl W _ _ _).below hb) (hl.below hb)
  unfold PrefsGot at KP
  have HZ := Lib.hid (show lineL c l (wTable :: nm :: ps) = none by rw [line_table]; simp [tableOf, hq, hp])
  rw [hq] at KN
  rw [hp] at KP
  have KP := Lib.hid KP
  have h2 : ¬ ((ps.length : Int) + 2 < 2) := by omega
  have h3 : (1 : Int) < (ps.length : Int) + 2 := by omega
  have h4 : (2 : Int) ≤ (ps.length : Int) + 2 := by omega
  clear hr hs hl hR hq hN hp
  go_enter Tryz.func27, Tryz.ntmps27
  go_upto_region 16 with (first
    | (go_at_call 63; (with_reducible refine (KN.out _).mono ?_); rintro e w0 ⟨rfl, hb1⟩; have HB1 := Lib.hid hb1; have HR0 := Lib.hid (HRd.out.below hb1); clear hb1)
    | (go_at_call 62; (with_reducible refine (KP.out _ HB1.out).mono ?_); rintro e w1 ⟨lv, rfl, ho, hnil, hb1⟩; have HO := Lib.hid ho; have HRd := Lib.hid (HR0.out.below hb1); have HB1 := Lib.hid (bstep HB1.out hb1 HB1.out.size); obtain ⟨A', cp, e3, -⟩ := own_sl ho; subst e3; clear ho hb1 hnil))
  have d1 : w1.cell? ⟨b, o + 1, none⟩ = some (.string ⟨nm.toArray⟩) := (HB1.out.cell (by exact HK.out)).trans c1
  have e1 : w1.cell? ⟨g, 2, none⟩ = some (.slice A2 ts.length k2) := (cell_of_row _ _ 2 _ _ _ HRd.out.row).trans rfl
  have gl : g < w1.heap.size := blk_lt' HRd.out.row
  have bl : b < w1.heap.size := Nat.lt_of_lt_of_le HK.out HB1.out.size
  have BW := HRd.out.BW
  obtain ⟨i0, hi0, hz0, hz1, hz2⟩ := info_parts info_nm
  go_region_law ((refine step_append_lies _ (by rfl) _ _ _ (by rfl) B 66 i0 _ 2 40 Tryz.underlying24 hi0 hz0 hz1 hz2 rfl (by omega) (.slice A2 ts.length k2) ts.length (ts.flatMap nmL) (by rfl) ((HRd.out.rd.r2.alloc _).drew) ⟨w1.heap.size, 0, none⟩ 1 1 (nmL (⟨nm, []⟩, .slice A' _ cp)) (by rfl) (by rfl) (World.news_of_block (cs := #[.string ⟨nm.toArray⟩, .slice A' _ cp]) (t := 66) (fr := (0, 0)) (heap_alloc_new w1 _)) (nm_one _ _) (by omega) (by unfold maxLen; omega) (by omega) (by simp; omega) (w1.heap.size + 1) (by simp) ?_; intro gg cap' w7 hown1 hgrow hat hlt; have HF := Lib.hid (row_far (boxed _ _) hgrow HRd.out.row (own_ne HRd.out.rd.r2 HRd.out.gB)); have f0 := frozen_of_row _ _ 2 _ _ HF.out; have d0 : w7.cell? ⟨g, 2, none⟩ = some (.slice A2 ts.length k2) := (cell_of_row _ _ 2 _ _ _ HF.out).trans rfl; have HG := Lib.hid (rdr_keep2 (v' := .slice (some ⟨gg, 0, none⟩) (ts.length + 1) cap') HRd.out (boxed _ _) hgrow); clear hown1))
  all_goals go_wp2_with fail
  all_goals go_ret
  all_goals exact got_none HZ.out rfl ((Keep.of (g := g) (HB1.out.mono HB0.out)).trans HG.out)
set_option maxRecDepth 100000 in
set_option maxHeartbeats 4000000 in
theorem table_ok (g B : Nat) (v0 v1 v2 v3 : Value) (ts : List (NamedM × Value)) (c : ConfM) (l : Wd) (nm : Wd) (ps : List Wd) (b o cap : Nat) (W : World) (hbk : b < W.heap.size) (hcap : ps.length + 2 ≤ cap) (hn : ps.length ≤ 1048576)
    (hs : ∀ x ∈ nm :: ps, x.length < 4294967281) (hr : W.rangeAt b o ((wTable :: nm :: ps).map fun w => Value.string ⟨w.toArray⟩)) (hl : LibOK W) (hR : RdrAt g B v0 v1 v2 v3 ts c W) (hnt : ts.length ≤ 1048576) (hq : nameL nm = true) (hc2 : ¬ cap = 2) (l' : List Pfx) (hp : prefsOf ps = some l') :
    Calls Tryz.prog 27 #[.pointer (some ⟨g, 0, none⟩), .string ⟨l.toArray⟩, .slice (some ⟨b, o, none⟩) (ps.length + 2 : Nat) cap] W fun e w' => LineGot g B (lineL c l (wTable :: nm :: ps)) W e w' := by
  have c0 : W.cell? ⟨b, o, none⟩ = some (.string ⟨#[116, 97, 98, 108, 101]⟩) := hr 0 _ rfl
  have c1 : W.cell? ⟨b, o + 1, none⟩ = some (.string ⟨nm.toArray⟩) := hr 1 _ rfl
  obtain ⟨A2, k2, e2, -⟩ := own_sl hR.rd.r2
  subst e2
  have KN := Lib.hid (fun W' => name_any nm (by have := hs nm (by simp); omega) W')
  have HRd := Lib.hid hR
  have HK := Lib.hid hbk
  have hN := HRd.out.BW
  have HB0 := Lib.hid hN
  have KP := fun W' (hb : Below W.heap.size W W') => prefixes_any ps hn (fun x hx => hs x (by simp [hx])) (.slice (some ⟨b, o + 2, none⟩) (ps.length : Nat) (cap - 2 : Nat)) W' ((by have h := sl_drop (k := 2) (n := ps.length + 2) (cap := cap) hbk hr (by omega) hcap; simpa using h : Sl W _ _ _).below hb) (hl.below hb)
  unfold PrefsGot at KP
  have HZ := Lib.hid (show lineL c l (wTable :: nm :: ps) = some { c with tables := c.tables ++ [⟨nm, l'⟩] } by rw [line_table]; simp [tableOf, hq, hp])
  rw [hq] at KN
  rw [hp] at KP
  have KP := Lib.hid KP
  have h2 : ¬ ((ps.length : Int) + 2 < 2) := by omega
  have h3 : (1 : Int) < (ps.length : Int) + 2 := by omega
  have h4 : (2 : Int) ≤ (ps.length : Int) + 2 := by omega
  clear hr hs hl hR hq hN hp
  go_enter Tryz.func27, Tryz.ntmps27
  go_upto_region 16 with (first
    | (go_at_call 63; (with_reducible refine (KN.out _).mono ?_); rintro e w0 ⟨rfl, hb1⟩; have HB1 := Lib.hid hb1; have HR0 := Lib.hid (HRd.out.below hb1); clear hb1)
    | (go_at_call 62; (with_reducible refine (KP.out _ HB1.out).mono ?_); rintro e w1 ⟨lv, rfl, ho, hnil, hb1⟩; have HO := Lib.hid ho; have HRd := Lib.hid (HR0.out.below hb1); have HB1 := Lib.hid (bstep HB1.out hb1 HB1.out.size); obtain ⟨A', cp, e3, -⟩ := own_sl ho; subst e3; clear ho hb1 hnil))
  have d1 : w1.cell? ⟨b, o + 1, none⟩ = some (.string ⟨nm.toArray⟩) := (HB1.out.cell (by exact HK.out)).trans c1
  have e1 : w1.cell? ⟨g, 2, none⟩ = some (.slice A2 ts.length k2) := (cell_of_row _ _ 2 _ _ _ HRd.out.row).trans rfl
  have gl : g < w1.heap.size := blk_lt' HRd.out.row
  have bl : b < w1.heap.size := Nat.lt_of_lt_of_le HK.out HB1.out.size
  have BW := HRd.out.BW
  obtain ⟨i0, hi0, hz0, hz1, hz2⟩ := info_parts info_nm
  go_region_law ((refine step_append_lies _ (by rfl) _ _ _ (by rfl) B 66 i0 _ 2 40 Tryz.underlying24 hi0 hz0 hz1 hz2 rfl (by omega) (.slice A2 ts.length k2) ts.length (ts.flatMap nmL) (by rfl) ((HRd.out.rd.r2.alloc _).drew) ⟨w1.heap.size, 0, none⟩ 1 1 (nmL (⟨nm, []⟩, .slice A' _ cp)) (by rfl) (by rfl) (World.news_of_block (cs := #[.string ⟨nm.toArray⟩, .slice A' _ cp]) (t := 66) (fr := (0, 0)) (heap_alloc_new w1 _)) (nm_one _ _) (by omega) (by unfold maxLen; omega) (by omega) (by simp; omega) (w1.heap.size + 1) (by simp) ?_; intro gg cap' w7 hown1 hgrow hat hlt; have HF := Lib.hid (row_far (boxed _ _) hgrow HRd.out.row (own_ne HRd.out.rd.r2 HRd.out.gB)); have f0 := frozen_of_row _ _ 2 _ _ HF.out; have d0 : w7.cell? ⟨g, 2, none⟩ = some (.slice A2 ts.length k2) := (cell_of_row _ _ 2 _ _ _ HF.out).trans rfl; have HG := Lib.hid (rdr_grow2 (⟨nm, l'⟩, .slice A' l'.length cp) HRd.out (boxed _ _) hgrow hown1 (own_base HO.out HR0.out.BW) (own_new HR0.out.rd.r1 (Nat.le_refl _) HO.out)); clear hown1))
  all_goals go_wp2_with fail
  all_goals go_ret
  all_goals exact got_some HZ.out rfl ⟨_, _, _, _, _, HG.out.1⟩ ((Keep.of (g := g) (HB1.out.mono HB0.out)).trans HG.out.2)
set_option maxRecDepth 100000 in
set_option maxHeartbeats 4000000 in
theorem table_ok2 (g B : Nat) (v0 v1 v2 v3 : Value) (ts : List (NamedM × Value)) (c : ConfM) (l : Wd) (nm : Wd) (ps : List Wd) (b o cap : Nat) (W : World) (hbk : b < W.heap.size) (hcap : ps.length + 2 ≤ cap) (hn : ps.length ≤ 1048576)
    (hs : ∀ x ∈ nm :: ps, x.length < 4294967281) (hr : W.rangeAt b o ((wTable :: nm :: ps).map fun w => Value.string ⟨w.toArray⟩)) (hl : LibOK W) (hR : RdrAt g B v0 v1 v2 v3 ts c W) (hnt : ts.length ≤ 1048576) (hq : nameL nm = true) (hc2 : cap = 2) (hp : ps = []) :
    Calls Tryz.prog 27 #[.pointer (some ⟨g, 0, none⟩), .string ⟨l.toArray⟩, .slice (some ⟨b, o, none⟩) (ps.length + 2 : Nat) cap] W fun e w' => LineGot g B (lineL c l (wTable :: nm :: ps)) W e w' := by
  have c0 : W.cell? ⟨b, o, none⟩ = some (.string ⟨#[116, 97, 98, 108, 101]⟩) := hr 0 _ rfl
  have c1 : W.cell? ⟨b, o + 1, none⟩ = some (.string ⟨nm.toArray⟩) := hr 1 _ rfl
  obtain ⟨A2, k2, e2, -⟩ := own_sl hR.rd.r2
  subst e2
  have KN := Lib.hid (fun W' => name_any nm (by have := hs nm (by simp); omega) W')
  have HRd := Lib.hid hR
  have HK := Lib.hid hbk
  have hN := HRd.out.BW
  have HB0 := Lib.hid hN
  have KP := fun W' (hb : Below W.heap.size W W') => prefixes_any [] (by decide) (by simp) (.slice (some ⟨b, o, none⟩) 0 0) W' (⟨_, _, rfl, Nat.le_refl _, .inl ⟨rfl, rfl⟩⟩) (hl.below hb)
  unfold PrefsGot at KP
  have HZ := Lib.hid (show lineL c l (wTable :: nm :: ps) = some { c with tables := c.tables ++ [⟨nm, []⟩] } by rw [line_table, hp]; simp [tableOf, hq, prefsOf])
  rw [hq] at KN
  have hpn : prefsOf [] = some [] := rfl
  rw [hpn] at KP
  have hp0 : ps.length = 0 := by rw [hp]; rfl
  have Hp0 := Lib.hid hp0
  rw [hp0]
  subst hc2
  have KP := Lib.hid KP
  clear hp0 hn hp
  clear hr hs hl hR hq hN 
  go_enter Tryz.func27, Tryz.ntmps27
  go_upto_region 16 with (first
    | (go_at_call 63; (with_reducible refine (KN.out _).mono ?_); rintro e w0 ⟨rfl, hb1⟩; have HB1 := Lib.hid hb1; have HR0 := Lib.hid (HRd.out.below hb1); clear hb1)
    | (go_at_call 62; (with_reducible refine (KP.out _ HB1.out).mono ?_); rintro e w1 ⟨lv, rfl, ho, hnil, hb1⟩; have HO := Lib.hid ho; have HRd := Lib.hid (HR0.out.below hb1); have HB1 := Lib.hid (bstep HB1.out hb1 HB1.out.size); obtain ⟨A', cp, e3, -⟩ := own_sl ho; subst e3; clear ho hb1 hnil))
  have d1 : w1.cell? ⟨b, o + 1, none⟩ = some (.string ⟨nm.toArray⟩) := (HB1.out.cell (by exact HK.out)).trans c1
  have e1 : w1.cell? ⟨g, 2, none⟩ = some (.slice A2 ts.length k2) := (cell_of_row _ _ 2 _ _ _ HRd.out.row).trans rfl
  have gl : g < w1.heap.size := blk_lt' HRd.out.row
  have bl : b < w1.heap.size := Nat.lt_of_lt_of_le HK.out HB1.out.size
  have BW := HRd.out.BW
  obtain ⟨i0, hi0, hz0, hz1, hz2⟩ := info_parts info_nm
  go_region_law ((refine step_append_lies _ (by rfl) _ _ _ (by rfl) B 66 i0 _ 2 40 Tryz.underlying24 hi0 hz0 hz1 hz2 rfl (by omega) (.slice A2 ts.length k2) ts.length (ts.flatMap nmL) (by rfl) ((HRd.out.rd.r2.alloc _).drew) ⟨w1.heap.size, 0, none⟩ 1 1 (nmL (⟨nm, []⟩, .slice A' _ cp)) (by rfl) (by rfl) (World.news_of_block (cs := #[.string ⟨nm.toArray⟩, .slice A' _ cp]) (t := 66) (fr := (0, 0)) (heap_alloc_new w1 _)) (nm_one _ _) (by omega) (by unfold maxLen; omega) (by omega) (by simp; omega) (w1.heap.size + 1) (by simp) ?_; intro gg cap' w7 hown1 hgrow hat hlt; have HF := Lib.hid (row_far (boxed _ _) hgrow HRd.out.row (own_ne HRd.out.rd.r2 HRd.out.gB)); have f0 := frozen_of_row _ _ 2 _ _ HF.out; have d0 : w7.cell? ⟨g, 2, none⟩ = some (.slice A2 ts.length k2) := (cell_of_row _ _ 2 _ _ _ HF.out).trans rfl; have HG := Lib.hid (rdr_grow2 (⟨nm, []⟩, .slice A' 0 cp) HRd.out (boxed _ _) hgrow hown1 (own_base HO.out HR0.out.BW) (own_new HR0.out.rd.r1 (Nat.le_refl _) HO.out)); clear hown1))
  all_goals go_wp2_with fail
  all_goals go_ret
  all_goals exact got_some HZ.out rfl ⟨_, _, _, _, _, HG.out.1⟩ ((Keep.of (g := g) (HB1.out.mono HB0.out)).trans HG.out.2)
set_option maxRecDepth 100000 in
set_option maxHeartbeats 4000000 in
theorem rule_bad (g B : Nat) (v0 v1 v2 v3 : Value) (ts : List (NamedM × Value)) (c : ConfM) (l : Wd) (h : Wd) (t : List Wd) (b o cap : Nat) (W : World) (hcap : t.length + 1 ≤ cap) (c0 : W.cell? ⟨b, o, none⟩ = some (.string ⟨h.toArray⟩)) (hl : LibOK W) (hR : RdrAt g B v0 v1 v2 v3 ts c W)
    (hnr : c.rules.length ≤ 1048576) (hll : l.length < 4294967281) (hk : h ∉ kinds) (ho : ruleOf (wordsL l) = none) :
    Calls Tryz.prog 27 #[.pointer (some ⟨g, 0, none⟩), .string ⟨l.toArray⟩, .slice (some ⟨b, o, none⟩) (t.length + 1 : Nat) cap] W fun e w' => LineGot g B (lineL c l (h :: t)) W e w' := by
  obtain ⟨A3, k3, e3, -⟩ := own_sl hR.rd.r3
  subst e3
  have HL := Lib.hid (line_rule c l h t hk)
  simp only [kinds, List.mem_cons, List.not_mem_nil, or_false, not_or] at hk
  obtain ⟨k0, k1, k2, k3', k4⟩ := hk
  have n0 : (h == [102, 108, 111, 119, 115]) = false := wd_ne k0
  have n1 : (h == [101, 114, 114, 111, 114, 115]) = false := wd_ne k1
  have n2 : (h == [105, 102, 97, 99, 101]) = false := wd_ne k2
  have n3 : (h == [98, 111, 103, 111, 110]) = false := wd_ne k3'
  have n4 : (h == [116, 97, 98, 108, 101]) = false := wd_ne k4
  have K1 := parseR_any ⟨l.toArray⟩ (by simpa [ByteArray.size] using hll) W hl
  have hdl : (⟨l.toArray⟩ : ByteArray).data.toList = l := rfl
  rw [hdl, ruleV_eq, ho] at K1
  have HZ := Lib.hid (show lineL c l (h :: t) = none by rw [HL.out, ho]; rfl)
  have HRd := Lib.hid hR
  have hB := hR.BW
  have HB0 := Lib.hid hB
  have HI := Lib.hid (info32 ({} : RuleM))
  have H1 := Lib.hid (rule_one ({} : RuleM))
  have HSz : Hid ((ruleC ({} : RuleM)).size = 28) := Lib.hid rfl
  have hbs := rule_fill ({} : RuleM)
  have HC : Hid (ruleC ({} : RuleM) = (rlL ({} : RuleM)).toArray) := Lib.hid (by simp [rlL])
  clear hl hR hdl ho k0 k1 k2 k3' k4 hll HL hB
  have K1 : Calls Tryz.prog 64 #[.string ⟨l.toArray⟩] W fun e w' => e = .returned (.tuple #[.agg (ruleC ({} : RuleM)), .int .i64 2]) ∧ Below W.heap.size W w' := K1
  obtain ⟨cr, hcr⟩ : ∃ cr, cr = ruleC ({} : RuleM) := ⟨_, rfl⟩
  rw [← hcr] at K1 HI H1 HSz hbs HC
  have K1 := Lib.hid K1
  clear hcr
  go_enter Tryz.func27, Tryz.ntmps27
  go_upto_region 19 with (first
    | (go_at_call 64; (with_reducible refine K1.out.mono ?_); rintro e w1 ⟨rfl, hb1⟩; have HB := Lib.hid hb1; clear hb1)
    | ((with_reducible refine store_new cr ?_ ?_ ?_ HI.out H1.out ?_ ?_); rfl; rfl; exact HSz.out; rfl; intro V hV hbV hlV))
  have HV := Lib.hid (bstep HB.out hbV HB.out.size)
  have HRd := Lib.hid (HRd.out.below HV.out)
  have hi := (heap_row (W := V.drew) (g := w1.heap.size) hV HSz.out).1
  have hj := (heap_row (W := V.drew) (g := w1.heap.size) hV HSz.out).2
  have e1 : V.cell? ⟨g, 3, none⟩ = some (.slice A3 c.rules.length k3) := (cell_of_row _ _ 3 _ _ _ HRd.out.row).trans rfl
  have gl : g < V.heap.size := blk_lt' HRd.out.row
  have BW := HRd.out.BW
  obtain ⟨i0, hi0, hz0, hz1, hz2⟩ := info_parts info_rl
  clear hV hbV
  go_region_law ((refine step_append_lies _ (by rfl) _ _ _ (by rfl) B 75 i0 _ 28 248 Tryz.underlying25 hi0 hz0 hz1 hz2 rfl (by omega) (.slice A3 c.rules.length k3) c.rules.length (c.rules.flatMap rlL) (by rfl) ((HRd.out.rd.r3.alloc _).drew) ⟨V.heap.size, 0, none⟩ 1 1 cr.toList (by rfl) (by rw [Array.length_toList]; exact HSz.out) (World.news_of_block (cs := cr) (t := 75) (fr := (0, 0)) (heap_alloc_new V _)) (all_one H1.out) (by omega) (by unfold maxLen; omega) (by omega) (by simp; omega) (V.heap.size + 1) (by simp) ?_; intro gg cap' w7 hown1 hgrow hat hlt; have HF := Lib.hid (row_far (boxed _ _) hgrow HRd.out.row (own_ne HRd.out.rd.r3 HRd.out.gB)); have f0 := frozen_of_row _ _ 3 _ _ HF.out; have d0 : w7.cell? ⟨g, 3, none⟩ = some (.slice A3 c.rules.length k3) := (cell_of_row _ _ 3 _ _ _ HF.out).trans rfl; have HG := Lib.hid (rdr_keep3 (v' := .slice (some ⟨gg, 0, none⟩) (c.rules.length + 1) cap') HRd.out (boxed _ _) hgrow); clear hown1))
  all_goals go_wp2_with fail
  all_goals go_ret
  all_goals exact got_none HZ.out rfl ((Keep.of (g := g) (HV.out.mono HB0.out)).trans HG.out)
set_option maxRecDepth 100000 in
set_option maxHeartbeats 4000000 in
theorem rule_ok (g B : Nat) (v0 v1 v2 v3 : Value) (ts : List (NamedM × Value)) (c : ConfM) (l : Wd) (h : Wd) (t : List Wd) (b o cap : Nat) (W : World) (hcap : t.length + 1 ≤ cap) (c0 : W.cell? ⟨b, o, none⟩ = some (.string ⟨h.toArray⟩)) (hl : LibOK W) (hR : RdrAt g B v0 v1 v2 v3 ts c W)
    (hnr : c.rules.length ≤ 1048576) (hll : l.length < 4294967281) (hk : h ∉ kinds) (r : RuleM) (ho : ruleOf (wordsL l) = some r) :
    Calls Tryz.prog 27 #[.pointer (some ⟨g, 0, none⟩), .string ⟨l.toArray⟩, .slice (some ⟨b, o, none⟩) (t.length + 1 : Nat) cap] W fun e w' => LineGot g B (lineL c l (h :: t)) W e w' := by
  obtain ⟨A3, k3, e3, -⟩ := own_sl hR.rd.r3
  subst e3
  have HL := Lib.hid (line_rule c l h t hk)
  simp only [kinds, List.mem_cons, List.not_mem_nil, or_false, not_or] at hk
  obtain ⟨k0, k1, k2, k3', k4⟩ := hk
  have n0 : (h == [102, 108, 111, 119, 115]) = false := wd_ne k0
  have n1 : (h == [101, 114, 114, 111, 114, 115]) = false := wd_ne k1
  have n2 : (h == [105, 102, 97, 99, 101]) = false := wd_ne k2
  have n3 : (h == [98, 111, 103, 111, 110]) = false := wd_ne k3'
  have n4 : (h == [116, 97, 98, 108, 101]) = false := wd_ne k4
  have K1 := parseR_any ⟨l.toArray⟩ (by simpa [ByteArray.size] using hll) W hl
  have hdl : (⟨l.toArray⟩ : ByteArray).data.toList = l := rfl
  rw [hdl, ruleV_eq, ho] at K1
  have HZ := Lib.hid (show lineL c l (h :: t) = some { c with rules := c.rules ++ [r] } by rw [HL.out, ho]; rfl)
  have HRd := Lib.hid hR
  have hB := hR.BW
  have HB0 := Lib.hid hB
  have HI := Lib.hid (info32 r)
  have H1 := Lib.hid (rule_one r)
  have HSz : Hid ((ruleC r).size = 28) := Lib.hid rfl
  have hbs := rule_fill r
  have HC : Hid (ruleC r = (rlL r).toArray) := Lib.hid (by simp [rlL])
  clear hl hR hdl ho k0 k1 k2 k3' k4 hll HL hB
  have K1 : Calls Tryz.prog 64 #[.string ⟨l.toArray⟩] W fun e w' => e = .returned (.tuple #[.agg (ruleC r), .int .i64 0]) ∧ Below W.heap.size W w' := K1
  obtain ⟨cr, hcr⟩ : ∃ cr, cr = ruleC r := ⟨_, rfl⟩
  rw [← hcr] at K1 HI H1 HSz hbs HC
  have K1 := Lib.hid K1
  clear hcr
  go_enter Tryz.func27, Tryz.ntmps27
  go_upto_region 19 with (first
    | (go_at_call 64; (with_reducible refine K1.out.mono ?_); rintro e w1 ⟨rfl, hb1⟩; have HB := Lib.hid hb1; clear hb1)
    | ((with_reducible refine store_new cr ?_ ?_ ?_ HI.out H1.out ?_ ?_); rfl; rfl; exact HSz.out; rfl; intro V hV hbV hlV))
  have HV := Lib.hid (bstep HB.out hbV HB.out.size)
  have HRd := Lib.hid (HRd.out.below HV.out)
  have hi := (heap_row (W := V.drew) (g := w1.heap.size) hV HSz.out).1
  have hj := (heap_row (W := V.drew) (g := w1.heap.size) hV HSz.out).2
  have e1 : V.cell? ⟨g, 3, none⟩ = some (.slice A3 c.rules.length k3) := (cell_of_row _ _ 3 _ _ _ HRd.out.row).trans rfl
  have gl : g < V.heap.size := blk_lt' HRd.out.row
  have BW := HRd.out.BW
  obtain ⟨i0, hi0, hz0, hz1, hz2⟩ := info_parts info_rl
  clear hV hbV
  go_region_law ((refine step_append_lies _ (by rfl) _ _ _ (by rfl) B 75 i0 _ 28 248 Tryz.underlying25 hi0 hz0 hz1 hz2 rfl (by omega) (.slice A3 c.rules.length k3) c.rules.length (c.rules.flatMap rlL) (by rfl) ((HRd.out.rd.r3.alloc _).drew) ⟨V.heap.size, 0, none⟩ 1 1 cr.toList (by rfl) (by rw [Array.length_toList]; exact HSz.out) (World.news_of_block (cs := cr) (t := 75) (fr := (0, 0)) (heap_alloc_new V _)) (all_one H1.out) (by omega) (by unfold maxLen; omega) (by omega) (by simp; omega) (V.heap.size + 1) (by simp) ?_; intro gg cap' w7 hown1 hgrow hat hlt; have HF := Lib.hid (row_far (boxed _ _) hgrow HRd.out.row (own_ne HRd.out.rd.r3 HRd.out.gB)); have f0 := frozen_of_row _ _ 3 _ _ HF.out; have d0 : w7.cell? ⟨g, 3, none⟩ = some (.slice A3 c.rules.length k3) := (cell_of_row _ _ 3 _ _ _ HF.out).trans rfl; have HG := Lib.hid (rdr_grow3 r HRd.out (boxed _ _) hgrow (by have hh := hown1; rw [HC.out] at hh; simpa using hh)); clear hown1))
  all_goals go_wp2_with fail
  all_goals go_ret
  all_goals exact got_some HZ.out rfl ⟨_, _, _, _, _, HG.out.1⟩ ((Keep.of (g := g) (HV.out.mono HB0.out)).trans HG.out.2)
-- MORE
end Go.Proofs.YtnmbbnhgoedjgaaGreatDoor.Chb

namespace Go.Proofs.YtnmbbnhgoedjgaaGreatDoor.Chc
open Go Go.RowKit Go.Proofs.YtnmbbnhgoedjgaaGreatDoor.St2 Go.Proofs.YtnmbbnhgoedjgaaGreatDoor.Ru0 Go.Proofs.YtnmbbnhgoedjgaaGreatDoor.Ru1 Go.Proofs.YtnmbbnhgoedjgaaGreatDoor.Ru4 Go.Proofs.YtnmbbnhgoedjgaaGreatDoor.Cf0 Go.Proofs.YtnmbbnhgoedjgaaGreatDoor.Cf4 Go.Proofs.YtnmbbnhgoedjgaaGreatDoor.Cg0 Go.Proofs.YtnmbbnhgoedjgaaGreatDoor.Ch4 Go.Proofs.YtnmbbnhgoedjgaaGreatDoor.Ch7 Go.Proofs.YtnmbbnhgoedjgaaGreatDoor.Ch1 Go.Proofs.YtnmbbnhgoedjgaaGreatDoor.CgL Go.Proofs.YtnmbbnhgoedjgaaGreatDoor.Ch9 Go.Proofs.YtnmbbnhgoedjgaaGreatDoor.Cha Go.Proofs.YtnmbbnhgoedjgaaGreatDoor.Chb
set_option linter.unusedVariables false
set_option linter.unusedSimpArgs false
theorem line_any (HI : IsIfaceSaid) (g B : Nat) (v0 v1 v2 v3 : Value) (ts : List (NamedM × Value)) (c : ConfM) (hni : c.ifaces.length ≤ 1048576) (hnb : c.bogons.length ≤ 1048576) (hnt : ts.length ≤ 1048576) (hnr : c.rules.length ≤ 1048576) (l : Wd) (hll : l.length < 4294967281) (h : Wd) (t : List Wd) (b o cap : Nat) (W : World)
    (hbk : b < W.heap.size) (hcap : t.length + 1 ≤ cap) (hn : t.length ≤ 1048576) (hs : ∀ x ∈ t, x.length < 4294967281) (hr : W.rangeAt b o ((h :: t).map fun w => Value.string ⟨w.toArray⟩)) (hl : LibOK W) (hR : RdrAt g B v0 v1 v2 v3 ts c W) :
    Calls Tryz.prog 27 #[.pointer (some ⟨g, 0, none⟩), .string ⟨l.toArray⟩, .slice (some ⟨b, o, none⟩) (t.length + 1 : Nat) cap] W fun e w' => LineGot g B (lineL c l (h :: t)) W e w' := by
  by_cases k0 : h = wFlows
  · subst k0; exact flows_any g B v0 v1 v2 v3 ts c l t b o cap W hbk hcap hn hs hr hl hR
  by_cases k1 : h = wErrors
  · subst k1; exact errors_any g B v0 v1 v2 v3 ts c l t b o cap W hbk hcap hn hs hr hl hR
  by_cases k2 : h = wIface
  · subst k2; exact iface_line HI g B v0 v1 v2 v3 ts c hni l t b o cap W hbk hcap hn hs hr hl hR
  by_cases k3 : h = wBogon
  · subst k3
    by_cases hc : cap = 1
    · exact bogon_none1 g B v0 v1 v2 v3 ts c l t b o cap W hbk hcap hn hs hr hl hR hnb hc
    · cases hp : prefsOf t with
      | none => exact bogon_bad g B v0 v1 v2 v3 ts c l t b o cap W hbk hcap hn hs hr hl hR hnb hc hp
      | some q =>
        cases q with
        | nil =>
          have ht : t = [] := List.length_eq_zero_iff.1 (by have := prefs_len _ _ hp; simp at this; omega)
          exact bogon_none g B v0 v1 v2 v3 ts c l t b o cap W hbk hcap hn hs hr hl hR hnb hc ht
        | cons p q =>
          by_cases hq : q = []
          · exact bogon_one g B v0 v1 v2 v3 ts c l t b o cap W hbk hcap hn hs hr hl hR hnb hc p q hp hq
          · exact bogon_more g B v0 v1 v2 v3 ts c l t b o cap W hbk hcap hn hs hr hl hR hnb hc p q hp hq
  by_cases k4 : h = wTable
  · subst k4
    match t, hcap, hn, hs, hr with
    | [], hcap, _, _, hr => exact table_short g B v0 v1 v2 v3 ts c l b o cap W hcap hr hR
    | nm :: ps, hcap, hn, hs, hr =>
      have hcap2 : ps.length + 2 ≤ cap := by simpa using hcap
      have hn2 : ps.length ≤ 1048576 := by simp at hn; omega
      show Calls _ _ #[_, _, .slice (some ⟨b, o, none⟩) (ps.length + 2 : Nat) cap] _ _
      cases hq : nameL nm with
      | false => exact table_name g B v0 v1 v2 v3 ts c l nm ps b o cap W hbk hcap2 hn2 hs hr hl hR hnt hq
      | true =>
        by_cases hc : cap = 2
        · exact table_ok2 g B v0 v1 v2 v3 ts c l nm ps b o cap W hbk hcap2 hn2 hs hr hl hR hnt hq hc (List.length_eq_zero_iff.1 (by omega))
        · cases hp : prefsOf ps with
          | none => exact table_bad g B v0 v1 v2 v3 ts c l nm ps b o cap W hbk hcap2 hn2 hs hr hl hR hnt hq hc hp
          | some q => exact table_ok g B v0 v1 v2 v3 ts c l nm ps b o cap W hbk hcap2 hn2 hs hr hl hR hnt hq hc q hp
  have hk : h ∉ kinds := by simp [kinds, k0, k1, k2, k3, k4]
  cases ho : ruleOf (wordsL l) with
  | none => exact rule_bad g B v0 v1 v2 v3 ts c l h t b o cap W hcap (hr 0 _ rfl) hl hR hnr hll hk ho
  | some r => exact rule_ok g B v0 v1 v2 v3 ts c l h t b o cap W hcap (hr 0 _ rfl) hl hR hnr hll hk r ho
end Go.Proofs.YtnmbbnhgoedjgaaGreatDoor.Chc

