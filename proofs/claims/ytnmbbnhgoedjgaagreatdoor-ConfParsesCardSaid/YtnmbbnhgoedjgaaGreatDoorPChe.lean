/- castellanref20.line: interfaces, bogons, tables, rules; all lines. -/
import Derived.Test.YtnmbbnhgoedjgaaGreatDoorPChd
import Derived.Test.YtnmbbnhgoedjgaaGreatDoorPCgM
import Derived.Test.YtnmbbnhgoedjgaaGreatDoorPCg7
import Derived.Deep.DeepCutAuto
namespace Go.Proofs.YtnmbbnhgoedjgaaGreatDoor.Che
open Go Go.RowKit Go.Proofs.YtnmbbnhgoedjgaaGreatDoor.Ad0 Go.Proofs.YtnmbbnhgoedjgaaGreatDoor.Ad1 Go.Proofs.YtnmbbnhgoedjgaaGreatDoor.St0 Go.Proofs.YtnmbbnhgoedjgaaGreatDoor.St2 Go.Proofs.YtnmbbnhgoedjgaaGreatDoor.St3 Go.Proofs.YtnmbbnhgoedjgaaGreatDoor.B1 Go.Proofs.YtnmbbnhgoedjgaaGreatDoor.St9 Go.Proofs.YtnmbbnhgoedjgaaGreatDoor.Ru0 Go.Proofs.YtnmbbnhgoedjgaaGreatDoor.Ru1 Go.Proofs.YtnmbbnhgoedjgaaGreatDoor.Ru2 Go.Proofs.YtnmbbnhgoedjgaaGreatDoor.Ru4 Go.Proofs.YtnmbbnhgoedjgaaGreatDoor.Ru6 Go.Proofs.YtnmbbnhgoedjgaaGreatDoor.RuB Go.Proofs.YtnmbbnhgoedjgaaGreatDoor.RuC Go.Proofs.YtnmbbnhgoedjgaaGreatDoor.RuE Go.Proofs.YtnmbbnhgoedjgaaGreatDoor.RuI Go.Proofs.YtnmbbnhgoedjgaaGreatDoor.Ad2 Go.Proofs.YtnmbbnhgoedjgaaGreatDoor.RuJ Go.Proofs.YtnmbbnhgoedjgaaGreatDoor.RuY Go.Proofs.YtnmbbnhgoedjgaaGreatDoor.Cf0 Go.Proofs.YtnmbbnhgoedjgaaGreatDoor.Cf4 Go.Proofs.YtnmbbnhgoedjgaaGreatDoor.Cf6 Go.Proofs.YtnmbbnhgoedjgaaGreatDoor.Cg0 Go.Proofs.YtnmbbnhgoedjgaaGreatDoor.Ch4 Go.Proofs.YtnmbbnhgoedjgaaGreatDoor.Ch7 Go.Proofs.YtnmbbnhgoedjgaaGreatDoor.CgM Go.Proofs.YtnmbbnhgoedjgaaGreatDoor.Ch1 Go.Proofs.YtnmbbnhgoedjgaaGreatDoor.CgB Go.Proofs.YtnmbbnhgoedjgaaGreatDoor.CgL Go.Proofs.YtnmbbnhgoedjgaaGreatDoor.Ch8 Go.Proofs.YtnmbbnhgoedjgaaGreatDoor.Ch9 Go.Proofs.YtnmbbnhgoedjgaaGreatDoor.Chb Go.Proofs.YtnmbbnhgoedjgaaGreatDoor.RuX Go.Proofs.YtnmbbnhgoedjgaaGreatDoor.Cg5 Go.Proofs.YtnmbbnhgoedjgaaGreatDoor.Ch6 Go.Proofs.YtnmbbnhgoedjgaaGreatDoor.Ch5 Go.Proofs.YtnmbbnhgoedjgaaGreatDoor.Chd Go.Proofs.YtnmbbnhgoedjgaaGreatDoor.RuN Go.Proofs.YtnmbbnhgoedjgaaGreatDoor.RuO
set_option linter.unusedVariables false
set_option linter.unusedSimpArgs false
attribute [local go_sem ↓] ld_eq
attribute [local go_sem ↓] bs_eq
attribute [local go_sem] ld_run
theorem iface_lit {W w' : World} {ws : List Wd} {e : Ending} (h : IfaceGot W ws e w') : ∃ (nm : Wd) (A : Nat) (L N M : Int), e = .returned (.tuple #[.agg #[.string ⟨nm.toArray⟩, .int .u32 (A : Nat), .int .i64 L, .int .i64 N, .int .i64 M], .bool (ifaceOf ws).isSome]) ∧ (∀ x, ifaceOf ws = some x → (⟨nm, ⟨A, L⟩, N, M⟩ : IfaceM) = x) ∧ Below W.heap.size W w' := by
  obtain ⟨⟨nm, ⟨A, L⟩, N, M⟩, he, hx, hb⟩ := h
  exact ⟨nm, A, L, N, M, he, hx, hb⟩
theorem read_lit (l : Wd) (hl : l.length < 4294967281) (KR : ReadSaid) (W : World) (hL : LibOK W) : Calls Tryz.prog 70 #[.string ⟨l.toArray⟩] W fun e w' => e = .returned (ruleV (ruleOf (wordsL l))) ∧ Below W.heap.size W w' := by
  have K := KR ⟨l.toArray⟩ (by simpa [ByteArray.size] using hl) W hL
  have hdl : (⟨l.toArray⟩ : ByteArray).data.toList = l := rfl
  rw [hdl, ← rule_same] at K
  exact K
theorem table_lit {W w' : World} {ws : List Wd} {e : Ending} (h : TableGot W ws e w') : ∃ (nm : Wd) (u : Value) (l' : List Pfx), e = .returned (.tuple #[.agg #[.string ⟨nm.toArray⟩, u], .bool (tableOf ws).isSome]) ∧ (∀ t, tableOf ws = some t → (⟨nm, l'⟩ : NamedM) = t) ∧ w'.ownsRow W.heap.size 43 2 u l'.length (l'.flatMap pfxL) ∧ Below W.heap.size W w' := by
  unfold TableGot at h
  cases ht : tableOf ws with
  | none =>
    rw [ht] at h
    exact ⟨[], .slice none 0 0, [], h.1, fun t h => (by cases h), World.ownsRow_nil _ _ _ _, h.2⟩
  | some t =>
    rw [ht] at h
    obtain ⟨u, he, ho, hb⟩ := h
    exact ⟨t.name, u, t.l, he, fun t' h => (by cases h; rfl), ho, hb⟩
theorem rcf_below {g B : Nat} {v0 v2 v3 : Value} {ts : List (NamedM × Value)} {c : ConfM} {w w' : World} (h : ∃ v', RcfAt g B v0 v' v2 v3 ts c w) (hb : Below w.heap.size w w') : ∃ v', RcfAt g B v0 v' v2 v3 ts c w' := by
  obtain ⟨v', h⟩ := h
  exact ⟨v', h.below hb⟩
set_option maxRecDepth 100000 in
set_option maxHeartbeats 4000000 in
theorem riface_no (g B : Nat) (v0 v1 v2 v3 : Value) (ts : List (NamedM × Value)) (c : ConfM) (l : Wd) (t : List Wd) (b o cap : Nat) (W : World) (hbk : b < W.heap.size) (hcap : t.length + 1 ≤ cap) (hn : t.length ≤ 1048570)
    (hs : ∀ x ∈ t, x.length < 4294967281) (hr : W.rangeAt b o ((wIface :: t).map fun w => Value.string ⟨w.toArray⟩)) (hR : RcfAt g B v0 v1 v2 v3 ts c W) (hni : c.ifaces.length ≤ 1048576) (ho : ifaceOf (wIface :: t) = none) :
    Calls Tryz.prog 30 #[.pointer (some ⟨g, 0, none⟩), .string ⟨l.toArray⟩, .slice (some ⟨b, o, none⟩) (t.length + 1 : Nat) cap] W fun e w' => RLineGot g B (lineL c l (wIface :: t)) W e w' := by
  have c0 : W.cell? ⟨b, o, none⟩ = some (.string ⟨#[105, 102, 97, 99, 101]⟩) := hr 0 _ rfl
  obtain ⟨A0, k0, e0, -⟩ := own_sl hR.rd.r0
  subst e0
  have K := (readIface_any (wIface :: t) (fun x hx => by
    rcases List.mem_cons.1 hx with rfl | hx
    · decide
    · have := hs x hx; omega) b o cap W hbk (by simpa using hcap) hr).mono fun e w' h => iface_lit h
  rw [List.length_cons] at K
  have HZ := Lib.hid (show lineL c l (wIface :: t) = none by rw [line_iface, ho]; rfl)
  rw [ho] at K
  have K := Lib.hid K
  have HRd := Lib.hid hR
  have HB0 := Lib.hid hR.BW
  clear hr hs hR ho
  go_enter Tryz.func30, Tryz.ntmps30
  go_upto_region 16 with (first
    | (go_at_call 66; (with_reducible refine K.out.mono ?_); rintro e w1 ⟨nm, A, L, N, M, rfl, hy, hb1⟩; have HB := Lib.hid hb1; have HY := Lib.hid hy; clear hb1 hy))
  have hV := heap_alloc_new w1 (.cells #[.string ⟨nm.toArray⟩, .int .u32 (A : Nat), .int .i64 L, .int .i64 N, .int .i64 M] 45)
  have hbV := bnew w1 (.cells #[.string ⟨nm.toArray⟩, .int .u32 (A : Nat), .int .i64 L, .int .i64 N, .int .i64 M] 45)
  have hlV : w1.heap.size < (w1.alloc (.cells #[.string ⟨nm.toArray⟩, .int .u32 (A : Nat), .int .i64 L, .int .i64 N, .int .i64 M] 45)).heap.size := by simp
  generalize w1.alloc (.cells #[.string ⟨nm.toArray⟩, .int .u32 (A : Nat), .int .i64 L, .int .i64 N, .int .i64 M] 45) = V at hV hbV hlV ⊢
  have HV := Lib.hid (bstep HB.out hbV HB.out.size)
  have HRd := Lib.hid (HRd.out.below HV.out)
  have e1 : V.cell? ⟨g, 0, none⟩ = some (.slice A0 c.ifaces.length k0) := (cell_of_row _ _ 0 _ _ _ HRd.out.row).trans rfl
  have gl : g < V.heap.size := blk_lt' HRd.out.row
  have BW := HRd.out.BW
  obtain ⟨i0, hi0, hz0, hz1, hz2⟩ := info_parts info_if
  have x0 : V.cell? ⟨w1.heap.size, 0, none⟩ = some (.string ⟨nm.toArray⟩) := (cell_of_row _ _ 0 _ _ _ hV).trans rfl
  have x1 : V.cell? ⟨w1.heap.size, 1, none⟩ = some (.int .u32 (A : Nat)) := (cell_of_row _ _ 1 _ _ _ hV).trans rfl
  have x2 : V.cell? ⟨w1.heap.size, 2, none⟩ = some (.int .i64 L) := (cell_of_row _ _ 2 _ _ _ hV).trans rfl
  have x3 : V.cell? ⟨w1.heap.size, 3, none⟩ = some (.int .i64 N) := (cell_of_row _ _ 3 _ _ _ hV).trans rfl
  have x4 : V.cell? ⟨w1.heap.size, 4, none⟩ = some (.int .i64 M) := (cell_of_row _ _ 4 _ _ _ hV).trans rfl
  clear hV hbV
  go_region_law ((refine step_append_lies _ (by rfl) _ _ _ (by rfl) B 45 i0 _ 5 48 Tryz.underlying22 hi0 hz0 hz1 hz2 rfl (by omega) (.slice A0 c.ifaces.length k0) c.ifaces.length (c.ifaces.flatMap ifL) (by rfl) ((HRd.out.rd.r0.alloc _).drew) ⟨V.heap.size, 0, none⟩ 1 1 (ifL ⟨nm, ⟨A, L⟩, N, M⟩) (by rfl) (by rfl) (World.news_of_block (cs := #[.string ⟨nm.toArray⟩, .int .u32 (A : Nat), .int .i64 L, .int .i64 N, .int .i64 M]) (t := 45) (fr := (0, 0)) (heap_alloc_new V _)) (by simp [ifL, Value.oneCell']) (by omega) (by unfold maxLen; omega) (by omega) (by simp; omega) (V.heap.size + 1) (by simp) ?_; intro gg cap' w7 hown1 hgrow hat hlt; have HF := Lib.hid (row_far (boxed _ _) hgrow HRd.out.row (own_ne HRd.out.rd.r0 HRd.out.gB)); have f0 := frozen_of_row _ _ 0 _ _ HF.out; have d0 : w7.cell? ⟨g, 0, none⟩ = some (.slice A0 c.ifaces.length k0) := (cell_of_row _ _ 0 _ _ _ HF.out).trans rfl; have HG := Lib.hid (rcf_keep0 (v' := .slice (some ⟨gg, 0, none⟩) (c.ifaces.length + 1) cap') HRd.out (boxed _ _) hgrow); clear hown1))
  all_goals go_wp2_with fail
  all_goals go_ret
  all_goals exact rgot_none HZ.out rfl ((Keep.of (g := g) (HV.out.mono HB0.out)).trans HG.out)
set_option maxRecDepth 100000 in
set_option maxHeartbeats 4000000 in
theorem riface_yes (g B : Nat) (v0 v1 v2 v3 : Value) (ts : List (NamedM × Value)) (c : ConfM) (l : Wd) (t : List Wd) (b o cap : Nat) (W : World) (hbk : b < W.heap.size) (hcap : t.length + 1 ≤ cap) (hn : t.length ≤ 1048570)
    (hs : ∀ x ∈ t, x.length < 4294967281) (hr : W.rangeAt b o ((wIface :: t).map fun w => Value.string ⟨w.toArray⟩)) (hR : RcfAt g B v0 v1 v2 v3 ts c W) (hni : c.ifaces.length ≤ 1048576) (x : IfaceM) (ho : ifaceOf (wIface :: t) = some x) :
    Calls Tryz.prog 30 #[.pointer (some ⟨g, 0, none⟩), .string ⟨l.toArray⟩, .slice (some ⟨b, o, none⟩) (t.length + 1 : Nat) cap] W fun e w' => RLineGot g B (lineL c l (wIface :: t)) W e w' := by
  have c0 : W.cell? ⟨b, o, none⟩ = some (.string ⟨#[105, 102, 97, 99, 101]⟩) := hr 0 _ rfl
  obtain ⟨A0, k0, e0, -⟩ := own_sl hR.rd.r0
  subst e0
  have K := (readIface_any (wIface :: t) (fun x hx => by
    rcases List.mem_cons.1 hx with rfl | hx
    · decide
    · have := hs x hx; omega) b o cap W hbk (by simpa using hcap) hr).mono fun e w' h => iface_lit h
  rw [List.length_cons] at K
  have HZ := Lib.hid (show lineL c l (wIface :: t) = some { c with ifaces := c.ifaces ++ [x] } by rw [line_iface, ho]; rfl)
  rw [ho] at K
  have K := Lib.hid K
  have HRd := Lib.hid hR
  have HB0 := Lib.hid hR.BW
  clear hr hs hR ho
  go_enter Tryz.func30, Tryz.ntmps30
  go_upto_region 16 with (first
    | (go_at_call 66; (with_reducible refine K.out.mono ?_); rintro e w1 ⟨nm, A, L, N, M, rfl, hy, hb1⟩; have HB := Lib.hid hb1; have HY := Lib.hid hy; clear hb1 hy))
  have hV := heap_alloc_new w1 (.cells #[.string ⟨nm.toArray⟩, .int .u32 (A : Nat), .int .i64 L, .int .i64 N, .int .i64 M] 45)
  have hbV := bnew w1 (.cells #[.string ⟨nm.toArray⟩, .int .u32 (A : Nat), .int .i64 L, .int .i64 N, .int .i64 M] 45)
  have hlV : w1.heap.size < (w1.alloc (.cells #[.string ⟨nm.toArray⟩, .int .u32 (A : Nat), .int .i64 L, .int .i64 N, .int .i64 M] 45)).heap.size := by simp
  generalize w1.alloc (.cells #[.string ⟨nm.toArray⟩, .int .u32 (A : Nat), .int .i64 L, .int .i64 N, .int .i64 M] 45) = V at hV hbV hlV ⊢
  have HV := Lib.hid (bstep HB.out hbV HB.out.size)
  have HRd := Lib.hid (HRd.out.below HV.out)
  have e1 : V.cell? ⟨g, 0, none⟩ = some (.slice A0 c.ifaces.length k0) := (cell_of_row _ _ 0 _ _ _ HRd.out.row).trans rfl
  have gl : g < V.heap.size := blk_lt' HRd.out.row
  have BW := HRd.out.BW
  obtain ⟨i0, hi0, hz0, hz1, hz2⟩ := info_parts info_if
  have x0 : V.cell? ⟨w1.heap.size, 0, none⟩ = some (.string ⟨nm.toArray⟩) := (cell_of_row _ _ 0 _ _ _ hV).trans rfl
  have x1 : V.cell? ⟨w1.heap.size, 1, none⟩ = some (.int .u32 (A : Nat)) := (cell_of_row _ _ 1 _ _ _ hV).trans rfl
  have x2 : V.cell? ⟨w1.heap.size, 2, none⟩ = some (.int .i64 L) := (cell_of_row _ _ 2 _ _ _ hV).trans rfl
  have x3 : V.cell? ⟨w1.heap.size, 3, none⟩ = some (.int .i64 N) := (cell_of_row _ _ 3 _ _ _ hV).trans rfl
  have x4 : V.cell? ⟨w1.heap.size, 4, none⟩ = some (.int .i64 M) := (cell_of_row _ _ 4 _ _ _ hV).trans rfl
  clear hV hbV
  go_region_law ((refine step_append_lies _ (by rfl) _ _ _ (by rfl) B 45 i0 _ 5 48 Tryz.underlying22 hi0 hz0 hz1 hz2 rfl (by omega) (.slice A0 c.ifaces.length k0) c.ifaces.length (c.ifaces.flatMap ifL) (by rfl) ((HRd.out.rd.r0.alloc _).drew) ⟨V.heap.size, 0, none⟩ 1 1 (ifL ⟨nm, ⟨A, L⟩, N, M⟩) (by rfl) (by rfl) (World.news_of_block (cs := #[.string ⟨nm.toArray⟩, .int .u32 (A : Nat), .int .i64 L, .int .i64 N, .int .i64 M]) (t := 45) (fr := (0, 0)) (heap_alloc_new V _)) (by simp [ifL, Value.oneCell']) (by omega) (by unfold maxLen; omega) (by omega) (by simp; omega) (V.heap.size + 1) (by simp) ?_; intro gg cap' w7 hown1 hgrow hat hlt; have HF := Lib.hid (row_far (boxed _ _) hgrow HRd.out.row (own_ne HRd.out.rd.r0 HRd.out.gB)); have f0 := frozen_of_row _ _ 0 _ _ HF.out; have d0 : w7.cell? ⟨g, 0, none⟩ = some (.slice A0 c.ifaces.length k0) := (cell_of_row _ _ 0 _ _ _ HF.out).trans rfl; have HG := Lib.hid (rcf_grow0 ⟨nm, ⟨A, L⟩, N, M⟩ HRd.out (boxed _ _) hgrow hown1); clear hown1))
  all_goals go_wp2_with fail
  all_goals go_ret
  all_goals (have hx := HY.out x rfl; subst hx; exact rgot_some HZ.out rfl ⟨_, _, _, _, _, HG.out.1⟩ ((Keep.of (g := g) (HV.out.mono HB0.out)).trans HG.out.2))
set_option maxRecDepth 100000 in
set_option maxHeartbeats 4000000 in
theorem rbogon_len (g B : Nat) (v0 v1 v2 v3 : Value) (ts : List (NamedM × Value)) (c : ConfM) (l : Wd) (t : List Wd) (b o cap : Nat) (W : World) (hbk : b < W.heap.size) (hcap : t.length + 1 ≤ cap) (hn : t.length ≤ 1048570)
    (hs : ∀ x ∈ t, x.length < 4294967281) (hr : W.rangeAt b o ((wBogon :: t).map fun w => Value.string ⟨w.toArray⟩)) (hR : RcfAt g B v0 v1 v2 v3 ts c W) (h2 : t.length ≠ 1) :
    Calls Tryz.prog 30 #[.pointer (some ⟨g, 0, none⟩), .string ⟨l.toArray⟩, .slice (some ⟨b, o, none⟩) (t.length + 1 : Nat) cap] W fun e w' => RLineGot g B (lineL c l (wBogon :: t)) W e w' := by
  have c0 : W.cell? ⟨b, o, none⟩ = some (.string ⟨#[98, 111, 103, 111, 110]⟩) := hr 0 _ rfl
  have HZ := Lib.hid (show lineL c l (wBogon :: t) = none by
    rw [line_bogon]
    cases hp : prefsOf t with
    | none => rfl
    | some q =>
      have := prefs_len _ _ hp
      match q, this with
      | [], _ => rfl
      | [_], h => exact absurd h.symm h2
      | _ :: _ :: _, _ => rfl)
  have hq : (((t.length : Int) + 1) != 2) = true := by simp; omega
  clear hr hs hR h2
  go_enter Tryz.func30, Tryz.ntmps30
  go_wp2_with fail
  go_ret
  exact rgot_none HZ.out rfl (Keep.refl _ _ _)
set_option maxRecDepth 100000 in
set_option maxHeartbeats 4000000 in
theorem rbogon_no (g B : Nat) (v0 v1 v2 v3 : Value) (ts : List (NamedM × Value)) (c : ConfM) (l s : Wd) (b o cap : Nat) (W : World) (hcap : 2 ≤ cap) (hsl : s.length < 4294967281) (hr : W.rangeAt b o ([wBogon, s].map fun w => Value.string ⟨w.toArray⟩)) (hR : RcfAt g B v0 v1 v2 v3 ts c W) (hnb : c.bogons.length ≤ 1048576) (hp : prefL s = none) :
    Calls Tryz.prog 30 #[.pointer (some ⟨g, 0, none⟩), .string ⟨l.toArray⟩, .slice (some ⟨b, o, none⟩) 2 cap] W fun e w' => RLineGot g B (lineL c l ([wBogon, s])) W e w' := by
  have c0 : W.cell? ⟨b, o, none⟩ = some (.string ⟨#[98, 111, 103, 111, 110]⟩) := hr 0 _ rfl
  have c1 : W.cell? ⟨b, o + 1, none⟩ = some (.string ⟨s.toArray⟩) := hr 1 _ rfl
  obtain ⟨A1, k1, e0, -⟩ := own_sl hR.rd.r1
  subst e0
  have KP := fun W' => rpref_any ⟨s.toArray⟩ (by simp [ByteArray.size]; omega) W'
  have e0 : (⟨s.toArray⟩ : ByteArray).data.toList = s := rfl
  obtain ⟨A, L, E, hv, hE⟩ : ∃ (A : Nat) (L E : Int), prefV (prefL s) = .tuple #[.agg #[.int .u32 (A : Nat), .int .i64 L], .int .i64 E] ∧ (E == 0) = false := ⟨0, 0, 2, by rw [hp]; rfl, by decide⟩
  have HZ := Lib.hid (show lineL c l [wBogon, s] = none by rw [line_bogon]; simp [prefsOf, prefOK, hp])
  clear hp
  rw [e0, hv] at KP
  have KP := Lib.hid KP
  have HRd := Lib.hid hR
  have HR0 := Lib.hid hR
  have HB0 := Lib.hid hR.BW
  have hc2 : (2 : Int) ≤ cap := by omega
  clear hr hR e0 hv hsl
  go_enter Tryz.func30, Tryz.ntmps30
  go_upto_region 22 with (first
    | (go_at_call 67; (with_reducible refine (KP.out _).mono ?_); rintro e w1 ⟨rfl, hb1⟩; have HB := Lib.hid hb1; clear hb1))
  have hV := heap_alloc_new w1 (.cells #[.int .u32 (A : Nat), .int .i64 L] 43)
  have hbV := bnew w1 (.cells #[.int .u32 (A : Nat), .int .i64 L] 43)
  have hlV : w1.heap.size < (w1.alloc (.cells #[.int .u32 (A : Nat), .int .i64 L] 43)).heap.size := by simp
  generalize w1.alloc (.cells #[.int .u32 (A : Nat), .int .i64 L] 43) = V at hV hbV hlV ⊢
  go_cut [14] (fun s14 wc => s14 = .int .i64 E ∧ (∃ v', RcfAt g B v0 v' v2 v3 ts { c with bogons := c.bogons ++ [⟨A, L⟩] } wc) ∧ Keep B g W wc ∧ wc.heap[w1.heap.size]? = some (.cells #[.int .u32 (A : Nat), .int .i64 L] 43 (0, 0)))
  case first =>
    have HV := Lib.hid (bstep HB.out hbV HB.out.size)
    have HRd := Lib.hid (HRd.out.below HV.out)
    have e1 : V.cell? ⟨g, 1, none⟩ = some (.slice A1 c.bogons.length k1) := (cell_of_row _ _ 1 _ _ _ HRd.out.row).trans rfl
    have gl : g < V.heap.size := blk_lt' HRd.out.row
    have BW := HRd.out.BW
    obtain ⟨i0, hi0, hz0, hz1, hz2⟩ := info_parts info2p
    have x0 : V.cell? ⟨w1.heap.size, 0, none⟩ = some (.int .u32 (A : Nat)) := (cell_of_row _ _ 0 _ _ _ hV).trans rfl
    have x1 : V.cell? ⟨w1.heap.size, 1, none⟩ = some (.int .i64 L) := (cell_of_row _ _ 1 _ _ _ hV).trans rfl
    have HX := Lib.hid hV
    have HNe := Lib.hid (show w1.heap.size ≠ g from fun e => by have h1 := blk_lt' HR0.out.row; have h2 := HB.out.size; omega)
    clear hV hbV
    go_region_law ((refine step_append_lies _ (by rfl) _ _ _ (by rfl) B 43 i0 _ 2 16 Tryz.underlying23 hi0 hz0 hz1 hz2 rfl (by omega) (.slice A1 c.bogons.length k1) c.bogons.length (c.bogons.flatMap pfxL) (by rfl) ((HRd.out.rd.r1.alloc _).drew) ⟨V.heap.size, 0, none⟩ 1 1 (pfxL ⟨A, L⟩) (by rfl) (by rfl) (World.news_of_block (cs := #[.int .u32 (A : Nat), .int .i64 L]) (t := 43) (fr := (0, 0)) (heap_alloc_new V _)) (by simp [pfxL, Value.oneCell']) (by omega) (by unfold maxLen; omega) (by omega) (by simp; omega) (V.heap.size + 1) (by simp) ?_; intro gg cap' w7 hown1 hgrow hat hlt; have HF := Lib.hid (row_far (boxed _ _) hgrow HRd.out.row (own_ne HRd.out.rd.r1 HRd.out.gB)); have f0 := frozen_of_row _ _ 1 _ _ HF.out; have d0 : w7.cell? ⟨g, 1, none⟩ = some (.slice A1 c.bogons.length k1) := (cell_of_row _ _ 1 _ _ _ HF.out).trans rfl; have HG := Lib.hid (rcf_grow1 [⟨A, L⟩] HRd.out (boxed _ _) hgrow hown1 (hat.elim (fun h => .inl h.symm) (fun h => .inr (.inr ⟨gg, rfl, by rw [h]; simp⟩)))); have HXs := Lib.hid (fun u => box_far (k := 1) (u := u) (boxed _ _) hgrow HX.out (own_old HR0.out.rd.r1 HB.out.size) HNe.out); clear hown1))
    all_goals (go_wp2_with fail; go_meet)
    all_goals (case rel => exact ⟨rfl, ⟨_, HG.out.1⟩, (Keep.of (g := g) (HV.out.mono HB0.out)).trans HG.out.2, HXs.out _⟩)
  case rest =>
  obtain ⟨rfl, hr, hk, hx⟩ := hcut
  have HRd := Lib.hid hr
  have HK := Lib.hid hk
  have HX := Lib.hid hx
  have HW := Lib.hid (hr.elim fun _ h => h.BW)
  clear hr hk hx
  go_wp2_with fail
  go_ret
  exact rgot_none HZ.out rfl HK.out
set_option maxRecDepth 100000 in
set_option maxHeartbeats 4000000 in
theorem rbogon_bad (g B : Nat) (v0 v1 v2 v3 : Value) (ts : List (NamedM × Value)) (c : ConfM) (l s : Wd) (b o cap : Nat) (W : World) (hcap : 2 ≤ cap) (hsl : s.length < 4294967281) (hr : W.rangeAt b o ([wBogon, s].map fun w => Value.string ⟨w.toArray⟩)) (hR : RcfAt g B v0 v1 v2 v3 ts c W) (hnb : c.bogons.length ≤ 1048576) (p : Pfx) (hp : prefL s = some p) (hf : isF p = false) :
    Calls Tryz.prog 30 #[.pointer (some ⟨g, 0, none⟩), .string ⟨l.toArray⟩, .slice (some ⟨b, o, none⟩) 2 cap] W fun e w' => RLineGot g B (lineL c l ([wBogon, s])) W e w' := by
  have c0 : W.cell? ⟨b, o, none⟩ = some (.string ⟨#[98, 111, 103, 111, 110]⟩) := hr 0 _ rfl
  have c1 : W.cell? ⟨b, o + 1, none⟩ = some (.string ⟨s.toArray⟩) := hr 1 _ rfl
  obtain ⟨A1, k1, e0, -⟩ := own_sl hR.rd.r1
  subst e0
  have KP := fun W' => rpref_any ⟨s.toArray⟩ (by simp [ByteArray.size]; omega) W'
  have e0 : (⟨s.toArray⟩ : ByteArray).data.toList = s := rfl
  obtain ⟨A, L, E, hv, hE, hA, hok⟩ : ∃ (A : Nat) (L E : Int), prefV (prefL s) = .tuple #[.agg #[.int .u32 (A : Nat), .int .i64 L], .int .i64 E] ∧ E = 0 ∧ (⟨A, L⟩ : Pfx) = p ∧ Pfx.ok ⟨A, L⟩ := ⟨p.addr, p.len, 0, by rw [hp]; rfl, rfl, rfl, pref_key s p hp⟩
  subst hE
  subst hA
  have HZ := Lib.hid (show lineL c l [wBogon, s] = none by rw [line_bogon]; simp [prefsOf, prefOK, hp, hf])
  have KI := fun W' => ris_any ⟨A, L⟩ hok W'
  rw [hf] at KI
  have KI := Lib.hid (show ∀ W', Calls Tryz.prog 68 #[.agg #[.int .u32 (A : Nat), .int .i64 L]] W' _ from KI)
  have HI := Lib.hid (show (Tryz.prog.info? 43).map (·.size) = some (#[Value.int .u32 (A : Nat), .int .i64 L] : Array Value).size by kernel_rfl)
  clear hp hf hok
  rw [e0, hv] at KP
  have KP := Lib.hid KP
  have HRd := Lib.hid hR
  have HR0 := Lib.hid hR
  have HB0 := Lib.hid hR.BW
  have hc2 : (2 : Int) ≤ cap := by omega
  clear hr hR e0 hv hsl
  go_enter Tryz.func30, Tryz.ntmps30
  go_upto_region 22 with (first
    | (go_at_call 67; (with_reducible refine (KP.out _).mono ?_); rintro e w1 ⟨rfl, hb1⟩; have HB := Lib.hid hb1; clear hb1))
  have hV := heap_alloc_new w1 (.cells #[.int .u32 (A : Nat), .int .i64 L] 43)
  have hbV := bnew w1 (.cells #[.int .u32 (A : Nat), .int .i64 L] 43)
  have hlV : w1.heap.size < (w1.alloc (.cells #[.int .u32 (A : Nat), .int .i64 L] 43)).heap.size := by simp
  generalize w1.alloc (.cells #[.int .u32 (A : Nat), .int .i64 L] 43) = V at hV hbV hlV ⊢
  go_cut [14] (fun s14 wc => s14 = .int .i64 0 ∧ (∃ v', RcfAt g B v0 v' v2 v3 ts { c with bogons := c.bogons ++ [⟨A, L⟩] } wc) ∧ Keep B g W wc ∧ wc.heap[w1.heap.size]? = some (.cells #[.int .u32 (A : Nat), .int .i64 L] 43 (0, 0)))
  case first =>
    have HV := Lib.hid (bstep HB.out hbV HB.out.size)
    have HRd := Lib.hid (HRd.out.below HV.out)
    have e1 : V.cell? ⟨g, 1, none⟩ = some (.slice A1 c.bogons.length k1) := (cell_of_row _ _ 1 _ _ _ HRd.out.row).trans rfl
    have gl : g < V.heap.size := blk_lt' HRd.out.row
    have BW := HRd.out.BW
    obtain ⟨i0, hi0, hz0, hz1, hz2⟩ := info_parts info2p
    have x0 : V.cell? ⟨w1.heap.size, 0, none⟩ = some (.int .u32 (A : Nat)) := (cell_of_row _ _ 0 _ _ _ hV).trans rfl
    have x1 : V.cell? ⟨w1.heap.size, 1, none⟩ = some (.int .i64 L) := (cell_of_row _ _ 1 _ _ _ hV).trans rfl
    have HX := Lib.hid hV
    have HNe := Lib.hid (show w1.heap.size ≠ g from fun e => by have h1 := blk_lt' HR0.out.row; have h2 := HB.out.size; omega)
    clear hV hbV
    go_region_law ((refine step_append_lies _ (by rfl) _ _ _ (by rfl) B 43 i0 _ 2 16 Tryz.underlying23 hi0 hz0 hz1 hz2 rfl (by omega) (.slice A1 c.bogons.length k1) c.bogons.length (c.bogons.flatMap pfxL) (by rfl) ((HRd.out.rd.r1.alloc _).drew) ⟨V.heap.size, 0, none⟩ 1 1 (pfxL ⟨A, L⟩) (by rfl) (by rfl) (World.news_of_block (cs := #[.int .u32 (A : Nat), .int .i64 L]) (t := 43) (fr := (0, 0)) (heap_alloc_new V _)) (by simp [pfxL, Value.oneCell']) (by omega) (by unfold maxLen; omega) (by omega) (by simp; omega) (V.heap.size + 1) (by simp) ?_; intro gg cap' w7 hown1 hgrow hat hlt; have HF := Lib.hid (row_far (boxed _ _) hgrow HRd.out.row (own_ne HRd.out.rd.r1 HRd.out.gB)); have f0 := frozen_of_row _ _ 1 _ _ HF.out; have d0 : w7.cell? ⟨g, 1, none⟩ = some (.slice A1 c.bogons.length k1) := (cell_of_row _ _ 1 _ _ _ HF.out).trans rfl; have HG := Lib.hid (rcf_grow1 [⟨A, L⟩] HRd.out (boxed _ _) hgrow hown1 (hat.elim (fun h => .inl h.symm) (fun h => .inr (.inr ⟨gg, rfl, by rw [h]; simp⟩)))); have HXs := Lib.hid (fun u => box_far (k := 1) (u := u) (boxed _ _) hgrow HX.out (own_old HR0.out.rd.r1 HB.out.size) HNe.out); clear hown1))
    all_goals (go_wp2_with fail; go_meet)
    all_goals (case rel => exact ⟨rfl, ⟨_, HG.out.1⟩, (Keep.of (g := g) (HV.out.mono HB0.out)).trans HG.out.2, HXs.out _⟩)
  case rest =>
  obtain ⟨rfl, hr, hk, hx⟩ := hcut
  have HRd := Lib.hid hr
  have HK := Lib.hid hk
  have HX := Lib.hid hx
  have HW := Lib.hid (hr.elim fun _ h => h.BW)
  clear hr hk hx
  go_wp2_with (first
    | ((with_reducible refine Mem.load_row w1.heap.size ?_ HX.out Tryz.underlying43 HI.out ?_ ?_); rfl; rfl)
    | (go_at_call 68; (with_reducible refine (KI.out _).mono ?_); rintro e w8 ⟨rfl, hb8⟩; have HK := Lib.hid (HK.out.below hb8 HW.out); have HRd := Lib.hid (rcf_below HRd.out hb8); clear hb8))
  go_ret
  exact rgot_none HZ.out rfl HK.out
set_option maxRecDepth 100000 in
set_option maxHeartbeats 4000000 in
theorem rbogon_ok (g B : Nat) (v0 v1 v2 v3 : Value) (ts : List (NamedM × Value)) (c : ConfM) (l s : Wd) (b o cap : Nat) (W : World) (hcap : 2 ≤ cap) (hsl : s.length < 4294967281) (hr : W.rangeAt b o ([wBogon, s].map fun w => Value.string ⟨w.toArray⟩)) (hR : RcfAt g B v0 v1 v2 v3 ts c W) (hnb : c.bogons.length ≤ 1048576) (p : Pfx) (hp : prefL s = some p) (hf : isF p = true) :
    Calls Tryz.prog 30 #[.pointer (some ⟨g, 0, none⟩), .string ⟨l.toArray⟩, .slice (some ⟨b, o, none⟩) 2 cap] W fun e w' => RLineGot g B (lineL c l ([wBogon, s])) W e w' := by
  have c0 : W.cell? ⟨b, o, none⟩ = some (.string ⟨#[98, 111, 103, 111, 110]⟩) := hr 0 _ rfl
  have c1 : W.cell? ⟨b, o + 1, none⟩ = some (.string ⟨s.toArray⟩) := hr 1 _ rfl
  obtain ⟨A1, k1, e0, -⟩ := own_sl hR.rd.r1
  subst e0
  have KP := fun W' => rpref_any ⟨s.toArray⟩ (by simp [ByteArray.size]; omega) W'
  have e0 : (⟨s.toArray⟩ : ByteArray).data.toList = s := rfl
  obtain ⟨A, L, E, hv, hE, hA, hok⟩ : ∃ (A : Nat) (L E : Int), prefV (prefL s) = .tuple #[.agg #[.int .u32 (A : Nat), .int .i64 L], .int .i64 E] ∧ E = 0 ∧ (⟨A, L⟩ : Pfx) = p ∧ Pfx.ok ⟨A, L⟩ := ⟨p.addr, p.len, 0, by rw [hp]; rfl, rfl, rfl, pref_key s p hp⟩
  subst hE
  subst hA
  have HZ := Lib.hid (show lineL c l [wBogon, s] = some { c with bogons := c.bogons ++ [⟨A, L⟩] } by rw [line_bogon]; simp [prefsOf, prefOK, hp, hf])
  have KI := fun W' => ris_any ⟨A, L⟩ hok W'
  rw [hf] at KI
  have KI := Lib.hid (show ∀ W', Calls Tryz.prog 68 #[.agg #[.int .u32 (A : Nat), .int .i64 L]] W' _ from KI)
  have HI := Lib.hid (show (Tryz.prog.info? 43).map (·.size) = some (#[Value.int .u32 (A : Nat), .int .i64 L] : Array Value).size by kernel_rfl)
  clear hp hf hok
  rw [e0, hv] at KP
  have KP := Lib.hid KP
  have HRd := Lib.hid hR
  have HR0 := Lib.hid hR
  have HB0 := Lib.hid hR.BW
  have hc2 : (2 : Int) ≤ cap := by omega
  clear hr hR e0 hv hsl
  go_enter Tryz.func30, Tryz.ntmps30
  go_upto_region 22 with (first
    | (go_at_call 67; (with_reducible refine (KP.out _).mono ?_); rintro e w1 ⟨rfl, hb1⟩; have HB := Lib.hid hb1; clear hb1))
  have hV := heap_alloc_new w1 (.cells #[.int .u32 (A : Nat), .int .i64 L] 43)
  have hbV := bnew w1 (.cells #[.int .u32 (A : Nat), .int .i64 L] 43)
  have hlV : w1.heap.size < (w1.alloc (.cells #[.int .u32 (A : Nat), .int .i64 L] 43)).heap.size := by simp
  generalize w1.alloc (.cells #[.int .u32 (A : Nat), .int .i64 L] 43) = V at hV hbV hlV ⊢
  go_cut [14] (fun s14 wc => s14 = .int .i64 0 ∧ (∃ v', RcfAt g B v0 v' v2 v3 ts { c with bogons := c.bogons ++ [⟨A, L⟩] } wc) ∧ Keep B g W wc ∧ wc.heap[w1.heap.size]? = some (.cells #[.int .u32 (A : Nat), .int .i64 L] 43 (0, 0)))
  case first =>
    have HV := Lib.hid (bstep HB.out hbV HB.out.size)
    have HRd := Lib.hid (HRd.out.below HV.out)
    have e1 : V.cell? ⟨g, 1, none⟩ = some (.slice A1 c.bogons.length k1) := (cell_of_row _ _ 1 _ _ _ HRd.out.row).trans rfl
    have gl : g < V.heap.size := blk_lt' HRd.out.row
    have BW := HRd.out.BW
    obtain ⟨i0, hi0, hz0, hz1, hz2⟩ := info_parts info2p
    have x0 : V.cell? ⟨w1.heap.size, 0, none⟩ = some (.int .u32 (A : Nat)) := (cell_of_row _ _ 0 _ _ _ hV).trans rfl
    have x1 : V.cell? ⟨w1.heap.size, 1, none⟩ = some (.int .i64 L) := (cell_of_row _ _ 1 _ _ _ hV).trans rfl
    have HX := Lib.hid hV
    have HNe := Lib.hid (show w1.heap.size ≠ g from fun e => by have h1 := blk_lt' HR0.out.row; have h2 := HB.out.size; omega)
    clear hV hbV
    go_region_law ((refine step_append_lies _ (by rfl) _ _ _ (by rfl) B 43 i0 _ 2 16 Tryz.underlying23 hi0 hz0 hz1 hz2 rfl (by omega) (.slice A1 c.bogons.length k1) c.bogons.length (c.bogons.flatMap pfxL) (by rfl) ((HRd.out.rd.r1.alloc _).drew) ⟨V.heap.size, 0, none⟩ 1 1 (pfxL ⟨A, L⟩) (by rfl) (by rfl) (World.news_of_block (cs := #[.int .u32 (A : Nat), .int .i64 L]) (t := 43) (fr := (0, 0)) (heap_alloc_new V _)) (by simp [pfxL, Value.oneCell']) (by omega) (by unfold maxLen; omega) (by omega) (by simp; omega) (V.heap.size + 1) (by simp) ?_; intro gg cap' w7 hown1 hgrow hat hlt; have HF := Lib.hid (row_far (boxed _ _) hgrow HRd.out.row (own_ne HRd.out.rd.r1 HRd.out.gB)); have f0 := frozen_of_row _ _ 1 _ _ HF.out; have d0 : w7.cell? ⟨g, 1, none⟩ = some (.slice A1 c.bogons.length k1) := (cell_of_row _ _ 1 _ _ _ HF.out).trans rfl; have HG := Lib.hid (rcf_grow1 [⟨A, L⟩] HRd.out (boxed _ _) hgrow hown1 (hat.elim (fun h => .inl h.symm) (fun h => .inr (.inr ⟨gg, rfl, by rw [h]; simp⟩)))); have HXs := Lib.hid (fun u => box_far (k := 1) (u := u) (boxed _ _) hgrow HX.out (own_old HR0.out.rd.r1 HB.out.size) HNe.out); clear hown1))
    all_goals (go_wp2_with fail; go_meet)
    all_goals (case rel => exact ⟨rfl, ⟨_, HG.out.1⟩, (Keep.of (g := g) (HV.out.mono HB0.out)).trans HG.out.2, HXs.out _⟩)
  case rest =>
  obtain ⟨rfl, hr, hk, hx⟩ := hcut
  have HRd := Lib.hid hr
  have HK := Lib.hid hk
  have HX := Lib.hid hx
  have HW := Lib.hid (hr.elim fun _ h => h.BW)
  clear hr hk hx
  go_wp2_with (first
    | ((with_reducible refine Mem.load_row w1.heap.size ?_ HX.out Tryz.underlying43 HI.out ?_ ?_); rfl; rfl)
    | (go_at_call 68; (with_reducible refine (KI.out _).mono ?_); rintro e w8 ⟨rfl, hb8⟩; have HK := Lib.hid (HK.out.below hb8 HW.out); have HRd := Lib.hid (rcf_below HRd.out hb8); clear hb8))
  go_ret
  exact (HRd.out.elim fun _ h => rgot_some HZ.out rfl ⟨_, _, _, _, _, h⟩ HK.out)
set_option maxRecDepth 100000 in
set_option maxHeartbeats 4000000 in
theorem rtable_no (g B : Nat) (v0 v1 v2 v3 : Value) (ts : List (NamedM × Value)) (c : ConfM) (l : Wd) (t : List Wd) (b o cap : Nat) (W : World) (hbk : b < W.heap.size) (hcap : t.length + 1 ≤ cap) (hn : t.length ≤ 1048570)
    (hs : ∀ x ∈ t, x.length < 4294967281) (hr : W.rangeAt b o ((wTable :: t).map fun w => Value.string ⟨w.toArray⟩)) (hR : RcfAt g B v0 v1 v2 v3 ts c W) (hl : LibOK W) (hnt : ts.length ≤ 1048576) (ho : tableOf (wTable :: t) = none) :
    Calls Tryz.prog 30 #[.pointer (some ⟨g, 0, none⟩), .string ⟨l.toArray⟩, .slice (some ⟨b, o, none⟩) (t.length + 1 : Nat) cap] W fun e w' => RLineGot g B (lineL c l (wTable :: t)) W e w' := by
  have c0 : W.cell? ⟨b, o, none⟩ = some (.string ⟨#[116, 97, 98, 108, 101]⟩) := hr 0 _ rfl
  obtain ⟨A2, k2, e0, -⟩ := own_sl hR.rd.r2
  subst e0
  have K := (readTable_any (wTable :: t) (by simp; omega) (fun x hx => by
    rcases List.mem_cons.1 hx with rfl | hx
    · decide
    · exact hs x hx) (.slice (some ⟨b, o, none⟩) (wTable :: t).length cap) W ⟨_, _, rfl, by simpa using hcap, .inr ⟨b, o, rfl, hbk, hr⟩⟩ hl).mono fun e w' h => table_lit h
  rw [List.length_cons] at K
  have HZ := Lib.hid (show lineL c l (wTable :: t) = none by rw [line_table, ho]; rfl)
  rw [ho] at K
  have K := Lib.hid K
  have HRd := Lib.hid hR
  have HR0 := Lib.hid hR
  have HB0 := Lib.hid hR.BW
  clear hr hs hR ho
  go_enter Tryz.func30, Tryz.ntmps30
  go_upto_region 26 with (first
    | (go_at_call 69; (with_reducible refine K.out.mono ?_); rintro e w1 ⟨nm, u, l', rfl, hy, hu, hb1⟩; have HB := Lib.hid hb1; have HY := Lib.hid hy; have HU := Lib.hid hu; obtain ⟨A', cp, e3, -⟩ := own_sl hu; subst e3; clear hb1 hy hu))
  have hV := heap_alloc_new w1 (.cells #[.string ⟨nm.toArray⟩, .slice A' l'.length cp] 66)
  have hbV := bnew w1 (.cells #[.string ⟨nm.toArray⟩, .slice A' l'.length cp] 66)
  have hlV : w1.heap.size < (w1.alloc (.cells #[.string ⟨nm.toArray⟩, .slice A' l'.length cp] 66)).heap.size := by simp
  generalize w1.alloc (.cells #[.string ⟨nm.toArray⟩, .slice A' l'.length cp] 66) = V at hV hbV hlV ⊢
  have HU := Lib.hid (own_below HU.out hbV)
  have HV := Lib.hid (bstep HB.out hbV HB.out.size)
  have HRd := Lib.hid (HRd.out.below HV.out)
  have e1 : V.cell? ⟨g, 2, none⟩ = some (.slice A2 ts.length k2) := (cell_of_row _ _ 2 _ _ _ HRd.out.row).trans rfl
  have gl : g < V.heap.size := blk_lt' HRd.out.row
  have BW := HRd.out.BW
  obtain ⟨i0, hi0, hz0, hz1, hz2⟩ := info_parts info_nm
  have x0 : V.cell? ⟨w1.heap.size, 0, none⟩ = some (.string ⟨nm.toArray⟩) := (cell_of_row _ _ 0 _ _ _ hV).trans rfl
  have x1 : V.cell? ⟨w1.heap.size, 1, none⟩ = some (.slice A' l'.length cp) := (cell_of_row _ _ 1 _ _ _ hV).trans rfl
  clear hV hbV
  go_region_law ((refine step_append_lies _ (by rfl) _ _ _ (by rfl) B 66 i0 _ 2 40 Tryz.underlying24 hi0 hz0 hz1 hz2 rfl (by omega) (.slice A2 ts.length k2) ts.length (ts.flatMap nmL) (by rfl) ((HRd.out.rd.r2.alloc _).drew) ⟨V.heap.size, 0, none⟩ 1 1 (nmL (⟨nm, l'⟩, .slice A' l'.length cp)) (by rfl) (by rfl) (World.news_of_block (cs := #[.string ⟨nm.toArray⟩, .slice A' l'.length cp]) (t := 66) (fr := (0, 0)) (heap_alloc_new V _)) (nm_one _ _) (by omega) (by unfold maxLen; omega) (by omega) (by simp; omega) (V.heap.size + 1) (by simp) ?_; intro gg cap' w7 hown1 hgrow hat hlt; have HF := Lib.hid (row_far (boxed _ _) hgrow HRd.out.row (own_ne HRd.out.rd.r2 HRd.out.gB)); have f0 := frozen_of_row _ _ 2 _ _ HF.out; have d0 : w7.cell? ⟨g, 2, none⟩ = some (.slice A2 ts.length k2) := (cell_of_row _ _ 2 _ _ _ HF.out).trans rfl; have HG := Lib.hid (rcf_keep2 (v' := .slice (some ⟨gg, 0, none⟩) (ts.length + 1) cap') HRd.out (boxed _ _) hgrow); clear hown1))
  all_goals go_wp2_with fail
  all_goals go_ret
  all_goals exact rgot_none HZ.out rfl ((Keep.of (g := g) (HV.out.mono HB0.out)).trans HG.out)
set_option maxRecDepth 100000 in
set_option maxHeartbeats 4000000 in
theorem rtable_yes (g B : Nat) (v0 v1 v2 v3 : Value) (ts : List (NamedM × Value)) (c : ConfM) (l : Wd) (t : List Wd) (b o cap : Nat) (W : World) (hbk : b < W.heap.size) (hcap : t.length + 1 ≤ cap) (hn : t.length ≤ 1048570)
    (hs : ∀ x ∈ t, x.length < 4294967281) (hr : W.rangeAt b o ((wTable :: t).map fun w => Value.string ⟨w.toArray⟩)) (hR : RcfAt g B v0 v1 v2 v3 ts c W) (hl : LibOK W) (hnt : ts.length ≤ 1048576) (x : NamedM) (ho : tableOf (wTable :: t) = some x) :
    Calls Tryz.prog 30 #[.pointer (some ⟨g, 0, none⟩), .string ⟨l.toArray⟩, .slice (some ⟨b, o, none⟩) (t.length + 1 : Nat) cap] W fun e w' => RLineGot g B (lineL c l (wTable :: t)) W e w' := by
  have c0 : W.cell? ⟨b, o, none⟩ = some (.string ⟨#[116, 97, 98, 108, 101]⟩) := hr 0 _ rfl
  obtain ⟨A2, k2, e0, -⟩ := own_sl hR.rd.r2
  subst e0
  have K := (readTable_any (wTable :: t) (by simp; omega) (fun x hx => by
    rcases List.mem_cons.1 hx with rfl | hx
    · decide
    · exact hs x hx) (.slice (some ⟨b, o, none⟩) (wTable :: t).length cap) W ⟨_, _, rfl, by simpa using hcap, .inr ⟨b, o, rfl, hbk, hr⟩⟩ hl).mono fun e w' h => table_lit h
  rw [List.length_cons] at K
  have HZ := Lib.hid (show lineL c l (wTable :: t) = some { c with tables := c.tables ++ [x] } by rw [line_table, ho]; rfl)
  rw [ho] at K
  have K := Lib.hid K
  have HRd := Lib.hid hR
  have HR0 := Lib.hid hR
  have HB0 := Lib.hid hR.BW
  clear hr hs hR ho
  go_enter Tryz.func30, Tryz.ntmps30
  go_upto_region 26 with (first
    | (go_at_call 69; (with_reducible refine K.out.mono ?_); rintro e w1 ⟨nm, u, l', rfl, hy, hu, hb1⟩; have HB := Lib.hid hb1; have HY := Lib.hid hy; have HU := Lib.hid hu; obtain ⟨A', cp, e3, -⟩ := own_sl hu; subst e3; clear hb1 hy hu))
  have hV := heap_alloc_new w1 (.cells #[.string ⟨nm.toArray⟩, .slice A' l'.length cp] 66)
  have hbV := bnew w1 (.cells #[.string ⟨nm.toArray⟩, .slice A' l'.length cp] 66)
  have hlV : w1.heap.size < (w1.alloc (.cells #[.string ⟨nm.toArray⟩, .slice A' l'.length cp] 66)).heap.size := by simp
  generalize w1.alloc (.cells #[.string ⟨nm.toArray⟩, .slice A' l'.length cp] 66) = V at hV hbV hlV ⊢
  have HU := Lib.hid (own_below HU.out hbV)
  have HV := Lib.hid (bstep HB.out hbV HB.out.size)
  have HRd := Lib.hid (HRd.out.below HV.out)
  have e1 : V.cell? ⟨g, 2, none⟩ = some (.slice A2 ts.length k2) := (cell_of_row _ _ 2 _ _ _ HRd.out.row).trans rfl
  have gl : g < V.heap.size := blk_lt' HRd.out.row
  have BW := HRd.out.BW
  obtain ⟨i0, hi0, hz0, hz1, hz2⟩ := info_parts info_nm
  have x0 : V.cell? ⟨w1.heap.size, 0, none⟩ = some (.string ⟨nm.toArray⟩) := (cell_of_row _ _ 0 _ _ _ hV).trans rfl
  have x1 : V.cell? ⟨w1.heap.size, 1, none⟩ = some (.slice A' l'.length cp) := (cell_of_row _ _ 1 _ _ _ hV).trans rfl
  clear hV hbV
  go_region_law ((refine step_append_lies _ (by rfl) _ _ _ (by rfl) B 66 i0 _ 2 40 Tryz.underlying24 hi0 hz0 hz1 hz2 rfl (by omega) (.slice A2 ts.length k2) ts.length (ts.flatMap nmL) (by rfl) ((HRd.out.rd.r2.alloc _).drew) ⟨V.heap.size, 0, none⟩ 1 1 (nmL (⟨nm, l'⟩, .slice A' l'.length cp)) (by rfl) (by rfl) (World.news_of_block (cs := #[.string ⟨nm.toArray⟩, .slice A' l'.length cp]) (t := 66) (fr := (0, 0)) (heap_alloc_new V _)) (nm_one _ _) (by omega) (by unfold maxLen; omega) (by omega) (by simp; omega) (V.heap.size + 1) (by simp) ?_; intro gg cap' w7 hown1 hgrow hat hlt; have HF := Lib.hid (row_far (boxed _ _) hgrow HRd.out.row (own_ne HRd.out.rd.r2 HRd.out.gB)); have f0 := frozen_of_row _ _ 2 _ _ HF.out; have d0 : w7.cell? ⟨g, 2, none⟩ = some (.slice A2 ts.length k2) := (cell_of_row _ _ 2 _ _ _ HF.out).trans rfl; have HG := Lib.hid (rcf_grow2 (⟨nm, l'⟩, .slice A' l'.length cp) HRd.out (boxed _ _) hgrow hown1 (own_base HU.out HB0.out) (own_new HR0.out.rd.r1 (Nat.le_refl _) HU.out)); clear hown1))
  all_goals go_wp2_with fail
  all_goals go_ret
  all_goals (have hx := HY.out x rfl; subst hx; exact rgot_some HZ.out rfl ⟨_, _, _, _, _, HG.out.1⟩ ((Keep.of (g := g) (HV.out.mono HB0.out)).trans HG.out.2))
set_option maxRecDepth 100000 in
set_option maxHeartbeats 4000000 in
theorem rrule_bad (KR : ReadSaid) (g B : Nat) (v0 v1 v2 v3 : Value) (ts : List (NamedM × Value)) (c : ConfM) (l : Wd) (h : Wd) (t : List Wd) (b o cap : Nat) (W : World) (hcap : t.length + 1 ≤ cap) (c0 : W.cell? ⟨b, o, none⟩ = some (.string ⟨h.toArray⟩)) (hl : LibOK W) (hR : RcfAt g B v0 v1 v2 v3 ts c W)
    (hnr : c.rules.length ≤ 1048576) (hll : l.length < 4294967281) (hk : h ∉ kinds) (ho : ruleOf (wordsL l) = none) :
    Calls Tryz.prog 30 #[.pointer (some ⟨g, 0, none⟩), .string ⟨l.toArray⟩, .slice (some ⟨b, o, none⟩) (t.length + 1 : Nat) cap] W fun e w' => RLineGot g B (lineL c l (h :: t)) W e w' := by
  obtain ⟨A3, k3, e3, -⟩ := own_sl hR.rd.r3
  subst e3
  have HL := Lib.hid (line_rule c l h t hk)
  simp only [kinds, List.mem_cons, List.not_mem_nil, or_false, not_or] at hk
  obtain ⟨k0, k1, k2, k3', k4⟩ := hk
  have n0 : (h == [102, 108, 111, 119, 115]) = false := wd_ne k0
  have n1 : (h == [101, 114, 114, 111, 114, 115]) = false := wd_ne k1
  have n2 : (h == [105, 102, 97, 99, 101]) = false := wd_ne k2
  have n3 : (h == [98, 111, 103, 111, 110]) = false := wd_ne k3'
  have n4 : (h == [116, 97, 98, 108, 101]) = false := wd_ne k4
  have K1 := read_lit l hll KR W hl
  rw [ruleV_eq, ho] at K1
  have HZ := Lib.hid (show lineL c l (h :: t) = none by rw [HL.out, ho]; rfl)
  have HRd := Lib.hid hR
  have HB0 := Lib.hid hR.BW
  have HI := Lib.hid (info32 ({} : RuleM))
  have H1 := Lib.hid (rule_one ({} : RuleM))
  have HSz : Hid ((ruleC ({} : RuleM)).size = 28) := Lib.hid rfl
  have hbs := rule_fill ({} : RuleM)
  have HC : Hid (ruleC ({} : RuleM) = (rlL ({} : RuleM)).toArray) := Lib.hid (by simp [rlL])
  clear hl hR ho k0 k1 k2 k3' k4 hll HL KR
  have K1 : Calls Tryz.prog 70 #[.string ⟨l.toArray⟩] W fun e w' => e = .returned (.tuple #[.agg (ruleC ({} : RuleM)), .int .i64 2]) ∧ Below W.heap.size W w' := K1
  obtain ⟨cr, hcr⟩ : ∃ cr, cr = ruleC ({} : RuleM) := ⟨_, rfl⟩
  rw [← hcr] at K1 HI H1 HSz hbs HC
  have K1 := Lib.hid K1
  clear hcr
  go_enter Tryz.func30, Tryz.ntmps30
  go_upto_region 29 with (first
    | (go_at_call 70; (with_reducible refine K1.out.mono ?_); rintro e w1 ⟨rfl, hb1⟩; have HB := Lib.hid hb1; clear hb1)
    | ((with_reducible refine store_new cr ?_ ?_ ?_ HI.out H1.out ?_ ?_); rfl; rfl; exact HSz.out; rfl; intro V hV hbV hlV))
  have HV := Lib.hid (bstep HB.out hbV HB.out.size)
  have HRd := Lib.hid (HRd.out.below HV.out)
  have e1 : V.cell? ⟨g, 3, none⟩ = some (.slice A3 c.rules.length k3) := (cell_of_row _ _ 3 _ _ _ HRd.out.row).trans rfl
  have gl : g < V.heap.size := blk_lt' HRd.out.row
  have BW := HRd.out.BW
  obtain ⟨i0, hi0, hz0, hz1, hz2⟩ := info_parts info_rl
  have hi := (heap_row (W := V.drew) (g := w1.heap.size) hV HSz.out).1
  have hj := (heap_row (W := V.drew) (g := w1.heap.size) hV HSz.out).2
  clear hV hbV
  go_region_law ((refine step_append_lies _ (by rfl) _ _ _ (by rfl) B 75 i0 _ 28 248 Tryz.underlying25 hi0 hz0 hz1 hz2 rfl (by omega) (.slice A3 c.rules.length k3) c.rules.length (c.rules.flatMap rlL) (by rfl) ((HRd.out.rd.r3.alloc _).drew) ⟨V.heap.size, 0, none⟩ 1 1 (cr.toList) (by rfl) (by rw [Array.length_toList]; exact HSz.out) (World.news_of_block (cs := cr) (t := 75) (fr := (0, 0)) (heap_alloc_new V _)) (all_one H1.out) (by omega) (by unfold maxLen; omega) (by omega) (by simp; omega) (V.heap.size + 1) (by simp) ?_; intro gg cap' w7 hown1 hgrow hat hlt; have HF := Lib.hid (row_far (boxed _ _) hgrow HRd.out.row (own_ne HRd.out.rd.r3 HRd.out.gB)); have f0 := frozen_of_row _ _ 3 _ _ HF.out; have d0 : w7.cell? ⟨g, 3, none⟩ = some (.slice A3 c.rules.length k3) := (cell_of_row _ _ 3 _ _ _ HF.out).trans rfl; have HG := Lib.hid (rcf_keep3 (v' := .slice (some ⟨gg, 0, none⟩) (c.rules.length + 1) cap') HRd.out (boxed _ _) hgrow); clear hown1))
  all_goals go_wp2_with fail
  all_goals go_ret
  all_goals exact rgot_none HZ.out rfl ((Keep.of (g := g) (HV.out.mono HB0.out)).trans HG.out)
set_option maxRecDepth 100000 in
set_option maxHeartbeats 4000000 in
theorem rrule_ok (KR : ReadSaid) (g B : Nat) (v0 v1 v2 v3 : Value) (ts : List (NamedM × Value)) (c : ConfM) (l : Wd) (h : Wd) (t : List Wd) (b o cap : Nat) (W : World) (hcap : t.length + 1 ≤ cap) (c0 : W.cell? ⟨b, o, none⟩ = some (.string ⟨h.toArray⟩)) (hl : LibOK W) (hR : RcfAt g B v0 v1 v2 v3 ts c W)
    (hnr : c.rules.length ≤ 1048576) (hll : l.length < 4294967281) (hk : h ∉ kinds) (r : RuleM) (ho : ruleOf (wordsL l) = some r) :
    Calls Tryz.prog 30 #[.pointer (some ⟨g, 0, none⟩), .string ⟨l.toArray⟩, .slice (some ⟨b, o, none⟩) (t.length + 1 : Nat) cap] W fun e w' => RLineGot g B (lineL c l (h :: t)) W e w' := by
  obtain ⟨A3, k3, e3, -⟩ := own_sl hR.rd.r3
  subst e3
  have HL := Lib.hid (line_rule c l h t hk)
  simp only [kinds, List.mem_cons, List.not_mem_nil, or_false, not_or] at hk
  obtain ⟨k0, k1, k2, k3', k4⟩ := hk
  have n0 : (h == [102, 108, 111, 119, 115]) = false := wd_ne k0
  have n1 : (h == [101, 114, 114, 111, 114, 115]) = false := wd_ne k1
  have n2 : (h == [105, 102, 97, 99, 101]) = false := wd_ne k2
  have n3 : (h == [98, 111, 103, 111, 110]) = false := wd_ne k3'
  have n4 : (h == [116, 97, 98, 108, 101]) = false := wd_ne k4
  have K1 := read_lit l hll KR W hl
  rw [ruleV_eq, ho] at K1
  have HZ := Lib.hid (show lineL c l (h :: t) = some { c with rules := c.rules ++ [r] } by rw [HL.out, ho]; rfl)
  have HRd := Lib.hid hR
  have HB0 := Lib.hid hR.BW
  have HI := Lib.hid (info32 r)
  have H1 := Lib.hid (rule_one r)
  have HSz : Hid ((ruleC r).size = 28) := Lib.hid rfl
  have hbs := rule_fill r
  have HC : Hid (ruleC r = (rlL r).toArray) := Lib.hid (by simp [rlL])
  clear hl hR ho k0 k1 k2 k3' k4 hll HL KR
  have K1 : Calls Tryz.prog 70 #[.string ⟨l.toArray⟩] W fun e w' => e = .returned (.tuple #[.agg (ruleC r), .int .i64 0]) ∧ Below W.heap.size W w' := K1
  obtain ⟨cr, hcr⟩ : ∃ cr, cr = ruleC r := ⟨_, rfl⟩
  rw [← hcr] at K1 HI H1 HSz hbs HC
  have K1 := Lib.hid K1
  clear hcr
  go_enter Tryz.func30, Tryz.ntmps30
  go_upto_region 29 with (first
    | (go_at_call 70; (with_reducible refine K1.out.mono ?_); rintro e w1 ⟨rfl, hb1⟩; have HB := Lib.hid hb1; clear hb1)
    | ((with_reducible refine store_new cr ?_ ?_ ?_ HI.out H1.out ?_ ?_); rfl; rfl; exact HSz.out; rfl; intro V hV hbV hlV))
  have HV := Lib.hid (bstep HB.out hbV HB.out.size)
  have HRd := Lib.hid (HRd.out.below HV.out)
  have e1 : V.cell? ⟨g, 3, none⟩ = some (.slice A3 c.rules.length k3) := (cell_of_row _ _ 3 _ _ _ HRd.out.row).trans rfl
  have gl : g < V.heap.size := blk_lt' HRd.out.row
  have BW := HRd.out.BW
  obtain ⟨i0, hi0, hz0, hz1, hz2⟩ := info_parts info_rl
  have hi := (heap_row (W := V.drew) (g := w1.heap.size) hV HSz.out).1
  have hj := (heap_row (W := V.drew) (g := w1.heap.size) hV HSz.out).2
  clear hV hbV
  go_region_law ((refine step_append_lies _ (by rfl) _ _ _ (by rfl) B 75 i0 _ 28 248 Tryz.underlying25 hi0 hz0 hz1 hz2 rfl (by omega) (.slice A3 c.rules.length k3) c.rules.length (c.rules.flatMap rlL) (by rfl) ((HRd.out.rd.r3.alloc _).drew) ⟨V.heap.size, 0, none⟩ 1 1 (cr.toList) (by rfl) (by rw [Array.length_toList]; exact HSz.out) (World.news_of_block (cs := cr) (t := 75) (fr := (0, 0)) (heap_alloc_new V _)) (all_one H1.out) (by omega) (by unfold maxLen; omega) (by omega) (by simp; omega) (V.heap.size + 1) (by simp) ?_; intro gg cap' w7 hown1 hgrow hat hlt; have HF := Lib.hid (row_far (boxed _ _) hgrow HRd.out.row (own_ne HRd.out.rd.r3 HRd.out.gB)); have f0 := frozen_of_row _ _ 3 _ _ HF.out; have d0 : w7.cell? ⟨g, 3, none⟩ = some (.slice A3 c.rules.length k3) := (cell_of_row _ _ 3 _ _ _ HF.out).trans rfl; have HG := Lib.hid (rcf_grow3 r HRd.out (boxed _ _) hgrow (by have hh := hown1; rw [HC.out] at hh; simpa using hh)); clear hown1))
  all_goals go_wp2_with fail
  all_goals go_ret
  all_goals exact rgot_some HZ.out rfl ⟨_, _, _, _, _, HG.out.1⟩ ((Keep.of (g := g) (HV.out.mono HB0.out)).trans HG.out.2)
theorem rline_any (KR : ReadSaid) (g B : Nat) (v0 v1 v2 v3 : Value) (ts : List (NamedM × Value)) (c : ConfM) (hni : c.ifaces.length ≤ 1048576) (hnb : c.bogons.length ≤ 1048576) (hnt : ts.length ≤ 1048576) (hnr : c.rules.length ≤ 1048576) (l : Wd) (hll : l.length < 4294967281) (h : Wd) (t : List Wd) (b o cap : Nat) (W : World)
    (hbk : b < W.heap.size) (hcap : t.length + 1 ≤ cap) (hn : t.length ≤ 1048570) (hs : ∀ x ∈ t, x.length < 4294967281) (hr : W.rangeAt b o ((h :: t).map fun w => Value.string ⟨w.toArray⟩)) (hl : LibOK W) (hR : RcfAt g B v0 v1 v2 v3 ts c W) :
    Calls Tryz.prog 30 #[.pointer (some ⟨g, 0, none⟩), .string ⟨l.toArray⟩, .slice (some ⟨b, o, none⟩) (t.length + 1 : Nat) cap] W fun e w' => RLineGot g B (lineL c l (h :: t)) W e w' := by
  by_cases k0 : h = wFlows
  · subst k0
    by_cases h1 : t.length = 1
    · match t, h1 with
      | [s], _ =>
        by_cases ht : c.flows ≠ 0
        · exact rflows_told g B v0 v1 v2 v3 ts c l s b o cap W hcap hr hR ht
        · cases hq : okNum 9 s with
          | false => exact rflows_0 g B v0 v1 v2 v3 ts c l s b o cap W hcap (hs s (by simp)) hr hR ht (.inl hq)
          | true =>
            by_cases h0 : dv s = 0
            · exact rflows_2 g B v0 v1 v2 v3 ts c l s b o cap W hcap (hs s (by simp)) hr hR ht hq h0
            · by_cases h4 : dv s ≤ 64
              · exact rflows_1 g B v0 v1 v2 v3 ts c l s b o cap W hcap (hs s (by simp)) hr hR ht hq (by omega) h4
              · exact rflows_0 g B v0 v1 v2 v3 ts c l s b o cap W hcap (hs s (by simp)) hr hR ht (.inr (by omega))
    · exact rflows_len g B v0 v1 v2 v3 ts c l t b o cap W hbk hcap (by omega) hs hr hR h1
  by_cases k1 : h = wErrors
  · subst k1
    by_cases h1 : t.length = 1
    · match t, h1 with
      | [s], _ =>
        by_cases ht : 0 ≤ c.errors
        · exact rerrors_told g B v0 v1 v2 v3 ts c l s b o cap W hcap hr hR ht
        · cases hq : okNum 9 s with
          | false => exact rerrors_0 g B v0 v1 v2 v3 ts c l s b o cap W hcap (hs s (by simp)) hr hR ht (.inl hq)
          | true =>
            by_cases h4 : dv s ≤ 100
            · exact rerrors_1 g B v0 v1 v2 v3 ts c l s b o cap W hcap (hs s (by simp)) hr hR ht hq (by omega) h4
            · exact rerrors_0 g B v0 v1 v2 v3 ts c l s b o cap W hcap (hs s (by simp)) hr hR ht (.inr (by omega))
    · exact rerrors_len g B v0 v1 v2 v3 ts c l t b o cap W hbk hcap (by omega) hs hr hR h1
  by_cases k2 : h = wIface
  · subst k2
    cases ho : ifaceOf (wIface :: t) with
    | none => exact riface_no g B v0 v1 v2 v3 ts c l t b o cap W hbk hcap (by omega) hs hr hR hni ho
    | some x => exact riface_yes g B v0 v1 v2 v3 ts c l t b o cap W hbk hcap (by omega) hs hr hR hni x ho
  by_cases k3 : h = wBogon
  · subst k3
    by_cases h1 : t.length = 1
    · match t, h1 with
      | [s], _ =>
        cases hp : prefL s with
        | none => exact rbogon_no g B v0 v1 v2 v3 ts c l s b o cap W hcap (hs s (by simp)) hr hR hnb hp
        | some p =>
          cases hf : isF p with
          | false => exact rbogon_bad g B v0 v1 v2 v3 ts c l s b o cap W hcap (hs s (by simp)) hr hR hnb p hp hf
          | true => exact rbogon_ok g B v0 v1 v2 v3 ts c l s b o cap W hcap (hs s (by simp)) hr hR hnb p hp hf
    · exact rbogon_len g B v0 v1 v2 v3 ts c l t b o cap W hbk hcap (by omega) hs hr hR h1
  by_cases k4 : h = wTable
  · subst k4
    cases ho : tableOf (wTable :: t) with
    | none => exact rtable_no g B v0 v1 v2 v3 ts c l t b o cap W hbk hcap (by omega) hs hr hR hl hnt ho
    | some x => exact rtable_yes g B v0 v1 v2 v3 ts c l t b o cap W hbk hcap (by omega) hs hr hR hl hnt x ho
  have hk : h ∉ kinds := by simp [kinds, k0, k1, k2, k3, k4]
  cases ho : ruleOf (wordsL l) with
  | none => exact rrule_bad KR g B v0 v1 v2 v3 ts c l h t b o cap W hcap (hr 0 _ rfl) hl hR hnr hll hk ho
  | some r => exact rrule_ok KR g B v0 v1 v2 v3 ts c l h t b o cap W hcap (hr 0 _ rfl) hl hR hnr hll hk r ho
end Go.Proofs.YtnmbbnhgoedjgaaGreatDoor.Che

