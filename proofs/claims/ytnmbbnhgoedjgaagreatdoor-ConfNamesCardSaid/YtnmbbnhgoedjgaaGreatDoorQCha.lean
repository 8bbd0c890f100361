/- (*reader).line: bogons. -/
import Derived.Test.YtnmbbnhgoedjgaaGreatDoorQCh9
import Derived.Laws.AppendOwnNone
namespace Go.Proofs.YtnmbbnhgoedjgaaGreatDoor.Cha
open Go Go.RowKit Go.Proofs.YtnmbbnhgoedjgaaGreatDoor.Ad0 Go.Proofs.YtnmbbnhgoedjgaaGreatDoor.St2 Go.Proofs.YtnmbbnhgoedjgaaGreatDoor.Ru0 Go.Proofs.YtnmbbnhgoedjgaaGreatDoor.Ru1 Go.Proofs.YtnmbbnhgoedjgaaGreatDoor.Ru6 Go.Proofs.YtnmbbnhgoedjgaaGreatDoor.RuB Go.Proofs.YtnmbbnhgoedjgaaGreatDoor.RuC Go.Proofs.YtnmbbnhgoedjgaaGreatDoor.RuY Go.Proofs.YtnmbbnhgoedjgaaGreatDoor.Cf0 Go.Proofs.YtnmbbnhgoedjgaaGreatDoor.Cf4 Go.Proofs.YtnmbbnhgoedjgaaGreatDoor.Cf6 Go.Proofs.YtnmbbnhgoedjgaaGreatDoor.Cg0 Go.Proofs.YtnmbbnhgoedjgaaGreatDoor.Ch4 Go.Proofs.YtnmbbnhgoedjgaaGreatDoor.Ch7 Go.Proofs.YtnmbbnhgoedjgaaGreatDoor.Ch1 Go.Proofs.YtnmbbnhgoedjgaaGreatDoor.CgB Go.Proofs.YtnmbbnhgoedjgaaGreatDoor.CgL Go.Proofs.YtnmbbnhgoedjgaaGreatDoor.Ch9
set_option linter.unusedVariables false
set_option linter.unusedSimpArgs false
theorem pfx_one (l : List Pfx) : ∀ u ∈ l.flatMap pfxL, u.oneCell' = true := by
  intro u hu
  obtain ⟨p, -, hp⟩ := List.mem_flatMap.1 hu
  simp [pfxL] at hp
  rcases hp with rfl | rfl <;> rfl
set_option maxRecDepth 100000 in
set_option maxHeartbeats 4000000 in
theorem bogon_bad (g B : Nat) (v0 v1 v2 v3 : Value) (ts : List (NamedM × Value)) (c : ConfM) (l : Wd) (t : List Wd) (b o cap : Nat) (W : World) (hbk : b < W.heap.size) (hcap : t.length + 1 ≤ cap) (hn : t.length ≤ 1048576)
    (hs : ∀ x ∈ t, x.length < 4294967281) (hr : W.rangeAt b o ((wBogon :: t).map fun w => Value.string ⟨w.toArray⟩)) (hl : LibOK W) (hR : RdrAt g B v0 v1 v2 v3 ts c W) (hnb : c.bogons.length ≤ 1048576) (hcap1 : ¬ cap = 1) (hp : prefsOf t = none) :
    Calls Tryz.prog 27 #[.pointer (some ⟨g, 0, none⟩), .string ⟨l.toArray⟩, .slice (some ⟨b, o, none⟩) (t.length + 1 : Nat) cap] W fun e w' => LineGot g B (lineL c l (wBogon :: t)) W e w' := by
  have c0 : W.cell? ⟨b, o, none⟩ = some (.string ⟨#[98, 111, 103, 111, 110]⟩) := hr 0 _ rfl
  have KP := prefixes_any t hn hs (.slice (some ⟨b, o + 1, none⟩) (t.length : Nat) (cap - 1 : Nat)) W (by
    have h := sl_drop (k := 1) (n := t.length + 1) (cap := cap) hbk hr (by omega) hcap
    simpa using h) hl
  unfold PrefsGot at KP
  obtain ⟨A1, k1, e1, -⟩ := own_sl hR.rd.r1
  subst e1
  have HRd := Lib.hid hR
  have HL := Lib.hid (line_bogon c l t)
  have hl1 : (1 : Int) ≤ (t.length : Int) + 1 := by omega
  clear hr hs hl hR
  rw [hp] at KP
  have KP := Lib.hid KP
  have HB0 := Lib.hid HRd.out.BW
  have HZ := Lib.hid (show lineL c l (wBogon :: t) = none by rw [HL.out, hp])
  clear HL hp
  go_enter Tryz.func27, Tryz.ntmps27
  go_upto_region 10 with (go_at_call 62; (with_reducible refine KP.out.mono ?_); rintro e w1 ⟨lv, rfl, ho, hnil, hb1⟩; have HO := Lib.hid ho; have HRd := Lib.hid (HRd.out.below hb1); have HB := Lib.hid hb1; obtain rfl := hnil rfl; clear ho hb1)
  have c1 : w1.cell? ⟨g, 1, none⟩ = some (.slice A1 c.bogons.length k1) := (cell_of_row _ _ 1 _ _ _ HRd.out.row).trans rfl
  have f1 : w1.frozen? ⟨g, 1, none⟩ = false := frozen_of_row _ _ 1 _ _ HRd.out.row
  have gl : g < w1.heap.size := blk_lt' HRd.out.row
  have BW := HRd.out.BW
  obtain ⟨i0, hi0, hz0, hz1, hz2⟩ := info_parts info2p
  go_wp2_with (at_builtin; refine wpList_append_own_none rfl _ _ 23 rfl B 43 i0 2 Tryz.underlying23 hi0 (.slice A1 c.bogons.length k1) c.bogons.length (c.bogons.flatMap pfxL) rfl HRd.out.rd.r1 rfl ?_)
  all_goals go_ret
  all_goals exact got_none HZ.out rfl (((Keep.of (g := g) (HB.out.mono HB0.out)).trans (rdr_keep1 (V := w1) HRd.out (Below.refl _ w1) ⟨rfl, rfl, rfl, Nat.le_refl _, fun _ _ _ => rfl⟩)))
set_option maxRecDepth 100000 in
set_option maxHeartbeats 4000000 in
theorem bogon_none (g B : Nat) (v0 v1 v2 v3 : Value) (ts : List (NamedM × Value)) (c : ConfM) (l : Wd) (t : List Wd) (b o cap : Nat) (W : World) (hbk : b < W.heap.size) (hcap : t.length + 1 ≤ cap) (hn : t.length ≤ 1048576)
    (hs : ∀ x ∈ t, x.length < 4294967281) (hr : W.rangeAt b o ((wBogon :: t).map fun w => Value.string ⟨w.toArray⟩)) (hl : LibOK W) (hR : RdrAt g B v0 v1 v2 v3 ts c W) (hnb : c.bogons.length ≤ 1048576) (hcap1 : ¬ cap = 1) (hp : t = []) :
    Calls Tryz.prog 27 #[.pointer (some ⟨g, 0, none⟩), .string ⟨l.toArray⟩, .slice (some ⟨b, o, none⟩) (t.length + 1 : Nat) cap] W fun e w' => LineGot g B (lineL c l (wBogon :: t)) W e w' := by
  have c0 : W.cell? ⟨b, o, none⟩ = some (.string ⟨#[98, 111, 103, 111, 110]⟩) := hr 0 _ rfl
  have KP := prefixes_any t hn hs (.slice (some ⟨b, o + 1, none⟩) (t.length : Nat) (cap - 1 : Nat)) W (by
    have h := sl_drop (k := 1) (n := t.length + 1) (cap := cap) hbk hr (by omega) hcap
    simpa using h) hl
  unfold PrefsGot at KP
  obtain ⟨A1, k1, e1, -⟩ := own_sl hR.rd.r1
  subst e1
  have HRd := Lib.hid hR
  have HL := Lib.hid (line_bogon c l t)
  have hl1 : (1 : Int) ≤ (t.length : Int) + 1 := by omega
  clear hr hs hl hR
  subst hp
  simp only [List.length_nil] at KP
  have KP := Lib.hid KP
  have HB0 := Lib.hid HRd.out.BW
  have HZ := Lib.hid (show lineL c l (wBogon :: []) = none by rw [HL.out]; rfl)
  clear HL
  go_enter Tryz.func27, Tryz.ntmps27
  go_upto_region 10 with (go_at_call 62; (with_reducible refine KP.out.mono ?_); rintro e w1 ⟨lv, rfl, ho, hnil, hb1⟩; have HO := Lib.hid ho; have HRd := Lib.hid (HRd.out.below hb1); have HB := Lib.hid hb1; obtain rfl := hnil rfl; clear ho hb1)
  have c1 : w1.cell? ⟨g, 1, none⟩ = some (.slice A1 c.bogons.length k1) := (cell_of_row _ _ 1 _ _ _ HRd.out.row).trans rfl
  have f1 : w1.frozen? ⟨g, 1, none⟩ = false := frozen_of_row _ _ 1 _ _ HRd.out.row
  have gl : g < w1.heap.size := blk_lt' HRd.out.row
  have BW := HRd.out.BW
  obtain ⟨i0, hi0, hz0, hz1, hz2⟩ := info_parts info2p
  go_wp2_with (at_builtin; refine wpList_append_own_none rfl _ _ 23 rfl B 43 i0 2 Tryz.underlying23 hi0 (.slice A1 c.bogons.length k1) c.bogons.length (c.bogons.flatMap pfxL) rfl HRd.out.rd.r1 rfl ?_)
  all_goals go_ret
  all_goals exact got_none HZ.out rfl (((Keep.of (g := g) (HB.out.mono HB0.out)).trans (rdr_keep1 (V := w1) HRd.out (Below.refl _ w1) ⟨rfl, rfl, rfl, Nat.le_refl _, fun _ _ _ => rfl⟩)))
set_option maxRecDepth 100000 in
set_option maxHeartbeats 4000000 in
theorem bogon_none1 (g B : Nat) (v0 v1 v2 v3 : Value) (ts : List (NamedM × Value)) (c : ConfM) (l : Wd) (t : List Wd) (b o cap : Nat) (W : World) (hbk : b < W.heap.size) (hcap : t.length + 1 ≤ cap) (hn : t.length ≤ 1048576)
    (hs : ∀ x ∈ t, x.length < 4294967281) (hr : W.rangeAt b o ((wBogon :: t).map fun w => Value.string ⟨w.toArray⟩)) (hl : LibOK W) (hR : RdrAt g B v0 v1 v2 v3 ts c W) (hnb : c.bogons.length ≤ 1048576) (hcap1 : cap = 1) :
    Calls Tryz.prog 27 #[.pointer (some ⟨g, 0, none⟩), .string ⟨l.toArray⟩, .slice (some ⟨b, o, none⟩) (t.length + 1 : Nat) cap] W fun e w' => LineGot g B (lineL c l (wBogon :: t)) W e w' := by
  have c0 : W.cell? ⟨b, o, none⟩ = some (.string ⟨#[98, 111, 103, 111, 110]⟩) := hr 0 _ rfl
  have ht0 : t = [] := List.length_eq_zero_iff.1 (by omega)
  subst ht0
  subst hcap1
  have KP := prefixes_any [] (by decide) (by simp) (.slice (some ⟨b, o, none⟩) 0 0) W ⟨_, _, rfl, Nat.le_refl _, .inl ⟨rfl, rfl⟩⟩ hl
  unfold PrefsGot at KP
  obtain ⟨A1, k1, e1, -⟩ := own_sl hR.rd.r1
  subst e1
  have HRd := Lib.hid hR
  have HL := Lib.hid (line_bogon c l [])
  clear hr hs hl hR
  have KP := Lib.hid KP
  have HB0 := Lib.hid HRd.out.BW
  have HZ := Lib.hid (show lineL c l (wBogon :: []) = none by rw [HL.out]; rfl)
  clear HL
  go_enter Tryz.func27, Tryz.ntmps27
  go_upto_region 10 with (go_at_call 62; (with_reducible refine KP.out.mono ?_); rintro e w1 ⟨lv, rfl, ho, hnil, hb1⟩; have HO := Lib.hid ho; have HRd := Lib.hid (HRd.out.below hb1); have HB := Lib.hid hb1; obtain rfl := hnil rfl; clear ho hb1)
  have c1 : w1.cell? ⟨g, 1, none⟩ = some (.slice A1 c.bogons.length k1) := (cell_of_row _ _ 1 _ _ _ HRd.out.row).trans rfl
  have f1 : w1.frozen? ⟨g, 1, none⟩ = false := frozen_of_row _ _ 1 _ _ HRd.out.row
  have gl : g < w1.heap.size := blk_lt' HRd.out.row
  have BW := HRd.out.BW
  obtain ⟨i0, hi0, hz0, hz1, hz2⟩ := info_parts info2p
  go_wp2_with (at_builtin; refine wpList_append_own_none rfl _ _ 23 rfl B 43 i0 2 Tryz.underlying23 hi0 (.slice A1 c.bogons.length k1) c.bogons.length (c.bogons.flatMap pfxL) rfl HRd.out.rd.r1 rfl ?_)
  all_goals go_ret
  all_goals exact got_none HZ.out rfl (((Keep.of (g := g) (HB.out.mono HB0.out)).trans (rdr_keep1 (V := w1) HRd.out (Below.refl _ w1) ⟨rfl, rfl, rfl, Nat.le_refl _, fun _ _ _ => rfl⟩)))
set_option maxRecDepth 100000 in
set_option maxHeartbeats 4000000 in
theorem bogon_one (g B : Nat) (v0 v1 v2 v3 : Value) (ts : List (NamedM × Value)) (c : ConfM) (l : Wd) (t : List Wd) (b o cap : Nat) (W : World) (hbk : b < W.heap.size) (hcap : t.length + 1 ≤ cap) (hn : t.length ≤ 1048576)
    (hs : ∀ x ∈ t, x.length < 4294967281) (hr : W.rangeAt b o ((wBogon :: t).map fun w => Value.string ⟨w.toArray⟩)) (hl : LibOK W) (hR : RdrAt g B v0 v1 v2 v3 ts c W) (hnb : c.bogons.length ≤ 1048576) (hcap1 : ¬ cap = 1) (p : Pfx) (l' : List Pfx) (hp : prefsOf t = some (p :: l')) (h1 : l' = []) :
    Calls Tryz.prog 27 #[.pointer (some ⟨g, 0, none⟩), .string ⟨l.toArray⟩, .slice (some ⟨b, o, none⟩) (t.length + 1 : Nat) cap] W fun e w' => LineGot g B (lineL c l (wBogon :: t)) W e w' := by
  have c0 : W.cell? ⟨b, o, none⟩ = some (.string ⟨#[98, 111, 103, 111, 110]⟩) := hr 0 _ rfl
  have KP := prefixes_any t hn hs (.slice (some ⟨b, o + 1, none⟩) (t.length : Nat) (cap - 1 : Nat)) W (by
    have h := sl_drop (k := 1) (n := t.length + 1) (cap := cap) hbk hr (by omega) hcap
    simpa using h) hl
  unfold PrefsGot at KP
  obtain ⟨A1, k1, e1, -⟩ := own_sl hR.rd.r1
  subst e1
  have HRd := Lib.hid hR
  have HL := Lib.hid (line_bogon c l t)
  have hl1 : (1 : Int) ≤ (t.length : Int) + 1 := by omega
  clear hr hs hl hR
  rw [hp] at KP
  have KP := Lib.hid KP
  have hln : (p :: l').length ≤ 1048576 := by have := prefs_len _ _ hp; omega
  have HB0 := Lib.hid HRd.out.BW
  have HZ := Lib.hid (show lineL c l (wBogon :: t) = some { c with bogons := c.bogons ++ (p :: l') } by rw [HL.out, hp, h1])
  have ht : ((t.length : Int) + 1 == 2) = true := by have := prefs_len _ _ hp; rw [h1] at this; simp at this; simp; omega
  clear h1
  clear HL hp
  go_enter Tryz.func27, Tryz.ntmps27
  go_upto_region 10 with (go_at_call 62; (with_reducible refine KP.out.mono ?_); rintro e w1 ⟨lv, rfl, ho, hnil, hb1⟩; have HO := Lib.hid ho; have HRd := Lib.hid (HRd.out.below hb1); have HB := Lib.hid hb1; clear hnil; clear ho hb1)
  obtain ⟨gb, cp, e1, hgb, hgl⟩ := HO.out.form (by simp)
  subst e1
  have c1 : w1.cell? ⟨g, 1, none⟩ = some (.slice A1 c.bogons.length k1) := (cell_of_row _ _ 1 _ _ _ HRd.out.row).trans rfl
  have f1 : w1.frozen? ⟨g, 1, none⟩ = false := frozen_of_row _ _ 1 _ _ HRd.out.row
  have gl : g < w1.heap.size := blk_lt' HRd.out.row
  have BW := HRd.out.BW
  obtain ⟨i0, hi0, hz0, hz1, hz2⟩ := info_parts info2p
  go_wp2_with (at_builtin; refine wpList_append_lies _ rfl _ _ 23 rfl B 43 i0 _ 2 16 Tryz.underlying23 hi0 hz0 hz1 hz2 rfl (by omega) (.slice A1 c.bogons.length k1) c.bogons.length (c.bogons.flatMap pfxL) rfl HRd.out.rd.r1 ⟨gb, 0, none⟩ (p :: l').length cp ((p :: l').flatMap pfxL) rfl HO.out.1 (HO.out.cells rfl) (pfx_one _) (by simp) (by unfold maxLen; omega) (by omega) BW w1.heap.size rfl ?_; intro gg cap' w7 hown1 hgrow hat hlt; have HG := Lib.hid (rdr_grow1 (p :: l') HRd.out (Below.refl _ w1) hgrow hown1 (hat.elim (fun h => .inl h.symm) (fun h => .inr (.inr ⟨gg, rfl, Nat.le_of_eq h.symm⟩)))); have HF := Lib.hid (row_far (Below.refl _ w1) hgrow HRd.out.row (own_ne HRd.out.rd.r1 HRd.out.gB)); have f1 := frozen_of_row _ _ 1 _ _ HF.out; clear hown1; have d1 : w7.cell? ⟨g, 1, none⟩ = some (.slice A1 c.bogons.length k1) := (cell_of_row _ _ 1 _ _ _ HF.out).trans rfl)
  all_goals go_ret
  all_goals exact got_some HZ.out rfl ⟨_, _, _, _, _, HG.out.1⟩ ((Keep.of (g := g) (HB.out.mono HB0.out)).trans HG.out.2)
set_option maxRecDepth 100000 in
set_option maxHeartbeats 4000000 in
theorem bogon_more (g B : Nat) (v0 v1 v2 v3 : Value) (ts : List (NamedM × Value)) (c : ConfM) (l : Wd) (t : List Wd) (b o cap : Nat) (W : World) (hbk : b < W.heap.size) (hcap : t.length + 1 ≤ cap) (hn : t.length ≤ 1048576)
    (hs : ∀ x ∈ t, x.length < 4294967281) (hr : W.rangeAt b o ((wBogon :: t).map fun w => Value.string ⟨w.toArray⟩)) (hl : LibOK W) (hR : RdrAt g B v0 v1 v2 v3 ts c W) (hnb : c.bogons.length ≤ 1048576) (hcap1 : ¬ cap = 1) (p : Pfx) (l' : List Pfx) (hp : prefsOf t = some (p :: l')) (h1 : ¬ l' = []) :
    Calls Tryz.prog 27 #[.pointer (some ⟨g, 0, none⟩), .string ⟨l.toArray⟩, .slice (some ⟨b, o, none⟩) (t.length + 1 : Nat) cap] W fun e w' => LineGot g B (lineL c l (wBogon :: t)) W e w' := by
  have c0 : W.cell? ⟨b, o, none⟩ = some (.string ⟨#[98, 111, 103, 111, 110]⟩) := hr 0 _ rfl
  have KP := prefixes_any t hn hs (.slice (some ⟨b, o + 1, none⟩) (t.length : Nat) (cap - 1 : Nat)) W (by
    have h := sl_drop (k := 1) (n := t.length + 1) (cap := cap) hbk hr (by omega) hcap
    simpa using h) hl
  unfold PrefsGot at KP
  obtain ⟨A1, k1, e1, -⟩ := own_sl hR.rd.r1
  subst e1
  have HRd := Lib.hid hR
  have HL := Lib.hid (line_bogon c l t)
  have hl1 : (1 : Int) ≤ (t.length : Int) + 1 := by omega
  clear hr hs hl hR
  rw [hp] at KP
  have KP := Lib.hid KP
  have hln : (p :: l').length ≤ 1048576 := by have := prefs_len _ _ hp; omega
  have HB0 := Lib.hid HRd.out.BW
  have HZ := Lib.hid (show lineL c l (wBogon :: t) = none by
    rw [HL.out, hp]
    cases l' with
    | nil => exact absurd rfl h1
    | cons _ _ => rfl)
  have ht : ((t.length : Int) + 1 == 2) = false := by
    have := prefs_len _ _ hp
    cases l' with
    | nil => exact absurd rfl h1
    | cons _ _ => simp at this; simp; omega
  clear h1
  clear HL hp
  go_enter Tryz.func27, Tryz.ntmps27
  go_upto_region 10 with (go_at_call 62; (with_reducible refine KP.out.mono ?_); rintro e w1 ⟨lv, rfl, ho, hnil, hb1⟩; have HO := Lib.hid ho; have HRd := Lib.hid (HRd.out.below hb1); have HB := Lib.hid hb1; clear hnil; clear ho hb1)
  obtain ⟨gb, cp, e1, hgb, hgl⟩ := HO.out.form (by simp)
  subst e1
  have c1 : w1.cell? ⟨g, 1, none⟩ = some (.slice A1 c.bogons.length k1) := (cell_of_row _ _ 1 _ _ _ HRd.out.row).trans rfl
  have f1 : w1.frozen? ⟨g, 1, none⟩ = false := frozen_of_row _ _ 1 _ _ HRd.out.row
  have gl : g < w1.heap.size := blk_lt' HRd.out.row
  have BW := HRd.out.BW
  obtain ⟨i0, hi0, hz0, hz1, hz2⟩ := info_parts info2p
  go_wp2_with (at_builtin; refine wpList_append_lies _ rfl _ _ 23 rfl B 43 i0 _ 2 16 Tryz.underlying23 hi0 hz0 hz1 hz2 rfl (by omega) (.slice A1 c.bogons.length k1) c.bogons.length (c.bogons.flatMap pfxL) rfl HRd.out.rd.r1 ⟨gb, 0, none⟩ (p :: l').length cp ((p :: l').flatMap pfxL) rfl HO.out.1 (HO.out.cells rfl) (pfx_one _) (by simp) (by unfold maxLen; omega) (by omega) BW w1.heap.size rfl ?_; intro gg cap' w7 hown1 hgrow hat hlt; have HG := Lib.hid (rdr_grow1 (p :: l') HRd.out (Below.refl _ w1) hgrow hown1 (hat.elim (fun h => .inl h.symm) (fun h => .inr (.inr ⟨gg, rfl, Nat.le_of_eq h.symm⟩)))); have HF := Lib.hid (row_far (Below.refl _ w1) hgrow HRd.out.row (own_ne HRd.out.rd.r1 HRd.out.gB)); have f1 := frozen_of_row _ _ 1 _ _ HF.out; clear hown1; have d1 : w7.cell? ⟨g, 1, none⟩ = some (.slice A1 c.bogons.length k1) := (cell_of_row _ _ 1 _ _ _ HF.out).trans rfl)
  all_goals go_ret
  all_goals exact got_none HZ.out rfl ((Keep.of (g := g) (HB.out.mono HB0.out)).trans HG.out.2)
end Go.Proofs.YtnmbbnhgoedjgaaGreatDoor.Cha

