/- rule.Print: the words, one after another. -/
import Derived.Test.YtefhoecdoemgbaaGreatDoorRuD
import Derived.Deep.MidRow
import Derived.BigFrame
import Derived.BigGuardPart
namespace Go.Proofs.YtefhoecdoemgbaaGreatDoor.RuU
open Go Go.RowKit Go.Proofs.YtefhoecdoemgbaaGreatDoor.Ad0 Go.Proofs.YtefhoecdoemgbaaGreatDoor.Ad1 Go.Proofs.YtefhoecdoemgbaaGreatDoor.Ad3 Go.Proofs.YtefhoecdoemgbaaGreatDoor.St0 Go.Proofs.YtefhoecdoemgbaaGreatDoor.St1 Go.Proofs.YtefhoecdoemgbaaGreatDoor.St2 Go.Proofs.YtefhoecdoemgbaaGreatDoor.St3 Go.Proofs.YtefhoecdoemgbaaGreatDoor.St4 Go.Proofs.YtefhoecdoemgbaaGreatDoor.StA Go.Proofs.YtefhoecdoemgbaaGreatDoor.Ru0 Go.Proofs.YtefhoecdoemgbaaGreatDoor.Ru1 Go.Proofs.YtefhoecdoemgbaaGreatDoor.Ru3 Go.Proofs.YtefhoecdoemgbaaGreatDoor.Ru4 Go.Proofs.YtefhoecdoemgbaaGreatDoor.Ru6 Go.Proofs.YtefhoecdoemgbaaGreatDoor.Ru7 Go.Proofs.YtefhoecdoemgbaaGreatDoor.Ru8 Go.Proofs.YtefhoecdoemgbaaGreatDoor.Ru9 Go.Proofs.YtefhoecdoemgbaaGreatDoor.RuB Go.Proofs.YtefhoecdoemgbaaGreatDoor.RuC
set_option linter.unusedVariables false
set_option linter.unusedSimpArgs false
def strs (xs : List Wd) : List Value := xs.map fun x => .string ⟨x.toArray⟩
/-- The words so far, while a rule is printed: a slice in a variable of a block of its own. -/
structure PW (w : World) (r : RuleM) (vb : Nat) (xs : List Wd) (W : World) : Prop where
  row : W.heap[w.heap.size]? = some (.cells (ruleC r) 32 (0, 0))
  own : ∃ v, W.heap[vb]? = some (.cells #[v] 43 (0, 0)) ∧ W.ownsRow (w.heap.size + 1) 9 1 v xs.length (strs xs) ∧ v.ownBlock ≠ some vb
  low : Below w.heap.size w W
  lib : LibOK W
  vlt : w.heap.size < vb
theorem strs_len (xs : List Wd) : (strs xs).length = xs.length := by simp [strs]
theorem strs_append (xs ys : List Wd) : strs (xs ++ ys) = strs xs ++ strs ys := by simp [strs]
theorem PW.below {w W W' : World} {r : RuleM} {vb : Nat} {xs : List Wd} (h : PW w r vb xs W) (hb : Below W.heap.size W W') : PW w r vb xs W' := by
  obtain ⟨v, hv, ho, hne⟩ := h.own
  have hr := Array.getElem?_eq_some_iff.1 h.row |>.1
  have hvl := Array.getElem?_eq_some_iff.1 hv |>.1
  exact ⟨(hb.block _ hr).trans h.row, ⟨v, (hb.block _ hvl).trans hv, B1.own_below ho hb, hne⟩, bstep h.low hb h.low.size, h.lib.below hb, h.vlt⟩
theorem pw_set {w W : World} {r : RuleM} {vb : Nat} {xs : List Wd} {u v : Value} (hrow : W.heap[w.heap.size]? = some (.cells (ruleC r) 32 (0, 0))) (hu : W.heap[vb]? = some (.cells #[u] 43 (0, 0))) (ho : W.ownsRow (w.heap.size + 1) 9 1 v xs.length (strs xs)) (hne : v.ownBlock ≠ some vb) (hlow : Below w.heap.size w W) (hlib : LibOK W) (hlib' : LibOK (W.setCell ⟨vb, 0, none⟩ v)) (hv : w.heap.size < vb) : PW w r vb xs (W.setCell ⟨vb, 0, none⟩ v) := by
  refine ⟨?_, ⟨v, ?_, ?_, hne⟩, ?_, hlib', hv⟩
  · rw [heap_setCell_other _ _ _ _ (by simp; omega)]; exact hrow
  · exact heap_setCell_same W vb 0 #[u] 43 v hu
  · refine ho.kept (row := some vb) ⟨rfl, rfl, rfl, by simp, fun k _ hk => heap_setCell_other W ⟨vb, 0, none⟩ k v (fun e => hk (by simp [e]))⟩ ?_
    cases hb : v.ownBlock with
    | none => exact .inl rfl
    | some k => rw [hb] at hne; exact .inr hne
  · exact set_b hlow (Nat.le_of_lt hv)
theorem row_slice {W : World} {base n vb : Nat} {v v' : Value} {xs : List Value} (ho : W.ownsRow base 9 1 v' n xs) (hn : 0 < n) (hv : W.heap[vb]? = some (.cells #[v] 43 (0, 0))) : ∃ g cap, v' = .slice (some ⟨g, 0, none⟩) n cap ∧ g ≠ vb := by
  rcases ho.2 with ⟨_, h0⟩ | ⟨g, cap, cur, rfl, _, hg, _⟩
  · omega
  · refine ⟨g, cap, rfl, ?_⟩
    rintro rfl
    rw [hv] at hg
    cases hg
set_option maxRecDepth 20000 in
set_option maxHeartbeats 2000000 in
theorem add_any {w W : World} {r : RuleM} {vb : Nat} {xs : List Wd} (h : PW w r vb xs W) (hlw : LibOK w) (yes : Bool) (ys : List Wd) (hy : ys ≠ []) (hn : xs.length + ys.length ≤ 1000) (cs : Array Value) (hcs : cs = (strs ys).toArray) (m : Nat) (hm : ys.length = m) :
    Calls Tryz.prog 43 #[.bool yes, .slice (some ⟨W.heap.size, 0, none⟩) m m, .pointer (some ⟨vb, 0, none⟩)] (W.alloc (.cells cs 9)) fun e w' => e = .returned (.tuple #[]) ∧ PW w r vb (if yes then xs ++ ys else xs) w' := by
  subst hcs hm
  cases yes with
  | false =>
    have HP := Lib.hid (h.below (bnew W (.cells (strs ys).toArray 9)))
    clear h
    go_enter Tryz.func43, Tryz.ntmps43
    go_wp2_with fail
    refine bodyPost_end (results_none rfl _ _ _) rfl ?_
    exact ⟨rfl, HP.out⟩
  | true =>
    obtain ⟨v, hv, ho, hne⟩ := h.own
    have hvl := Array.getElem?_eq_some_iff.1 hv |>.1
    have hrl := Array.getElem?_eq_some_iff.1 h.row |>.1
    have hva : (W.alloc (.cells (strs ys).toArray 9)).heap[vb]? = some (.cells #[v] 43 (0, 0)) := ((bnew W _).block _ hvl).trans hv
    have c0 : (W.alloc (.cells (strs ys).toArray 9)).cell? ⟨vb, 0, none⟩ = some v := cell_of_row _ _ _ _ _ _ hva
    have hyl : 0 < ys.length := List.length_pos_iff.2 hy
    have hb1 := bnew W (.cells (strs ys).toArray 9)
    have hcl : ∀ (j : Nat) (u : Value), (strs ys)[j]? = some u → (W.alloc (.cells (strs ys).toArray 9)).cell? ((⟨W.heap.size, 0, none⟩ : Addr).add j) = some u := by
      intro j u hj
      have hadd : (⟨W.heap.size, 0, none⟩ : Addr).add j = ⟨W.heap.size, j, none⟩ := by unfold Addr.add; split <;> simp_all
      rw [hadd, cell_of_row _ _ _ _ _ _ (heap_alloc_new W (.cells (strs ys).toArray 9))]
      simpa using hj
    have h1c : ∀ u ∈ strs ys, u.oneCell' = true := by
      intro u hu
      obtain ⟨x, _, rfl⟩ := List.mem_map.1 hu
      rfl
    have ho1 := ho.alloc (.cells (strs ys).toArray 9)
    have hp1 := h.below hb1
    have hsz : W.heap.size < (W.alloc (.cells (strs ys).toArray 9)).heap.size := by simp
    generalize (W.alloc (.cells (strs ys).toArray 9)) = W1 at *
    have hws := h.low.size
    have HO := Lib.hid ho1
    have HNE := Lib.hid hne
    have HVA := Lib.hid hva
    have HP := Lib.hid hp1
    have HCL := Lib.hid hcl
    have H1C := Lib.hid h1c
    obtain ⟨i0, hi, hz0, hz1, hz2⟩ := info_parts info9
    have HI := Lib.hid hi
    have HZ0 := Lib.hid hz0
    have HZ1 := Lib.hid hz1
    have HZ2 := Lib.hid hz2
    have HVLT := Lib.hid h.vlt
    have HLW := Lib.hid hlw
    have HF := Lib.hid (show xs.length + ys.length ≤ 1000 ∧ 0 < ys.length ∧ w.heap.size ≤ W.heap.size ∧ W.heap.size < W1.heap.size ∧ vb < W.heap.size ∧ w.heap.size < W.heap.size from ⟨hn, hyl, hws, hsz, hvl, hrl⟩)
    clear h ho hne hva hv hi hz0 hz1 hz2 hcl h1c ho1 hp1 hb1 hn hyl hws hsz hvl hrl hy hlw
    go_enter Tryz.func43, Tryz.ntmps43
    go_wp2_with (at_builtin; refine wpList_append_own _ rfl _ _ 43 rfl (w.heap.size + 1) 9 i0 (.string ByteArray.empty) 1 16 Tryz.underlying43 HI.out HZ0.out HZ1.out HZ2.out rfl (by decide) v xs.length (strs xs) rfl HO.out ⟨W.heap.size, 0, none⟩ ys.length ys.length (strs ys) rfl (by rw [strs_len, Nat.mul_one]) HCL.out H1C.out (by have := HF.out; simp [maxLen]; omega) (by have := HF.out; omega) (by have := HF.out; omega) ?_; intro v' w' ho' hg' hnil; have hvb : w'.heap[vb]? = some (.cells #[v] 43 (0, 0)) := (hg'.block vb (by have := HF.out; omega) (fun e => HNE.out e.symm)).trans HVA.out; have c0' : w'.cell? ⟨vb, 0, none⟩ = some v := cell_of_row _ _ _ _ _ _ hvb; have f0' : w'.frozen? ⟨vb, 0, none⟩ = false := frozen_of_row _ _ _ _ _ hvb; obtain ⟨g', cap', hvv, hgne⟩ := row_slice ho' (by have := HF.out; omega) hvb; subst hvv; have HO' := Lib.hid ho'; have HG' := Lib.hid hg'; have HVB := Lib.hid hvb; have HGN := Lib.hid hgne; clear ho' hg' hnil hvb hgne c0)
    refine bodyPost_end (results_none rfl _ _ _) rfl ?_
    have h1 := HP.out.low
    have hlow : Below w.heap.size w _ := Below.grown h1 HG'.out h1.size (fun k hk => by have := (HO.out.lt k hk).1; omega)
    refine ⟨rfl, ?_⟩
    try rw [if_pos rfl]
    refine pw_set ?_ HVB.out ?_ ?_ hlow (HLW.out.below hlow) (HLW.out.below (set_b hlow (Nat.le_of_lt HVLT.out))) HVLT.out
    · exact (HG'.out.block _ (by have := HF.out; omega) (fun e => by have := (HO.out.lt _ e.symm).1; omega)).trans HP.out.row
    · rw [strs_append, List.length_append]; exact HO'.out
    · intro e
      exact HGN.out (by simpa [Value.ownBlock] using e)
end Go.Proofs.YtefhoecdoemgbaaGreatDoor.RuU
