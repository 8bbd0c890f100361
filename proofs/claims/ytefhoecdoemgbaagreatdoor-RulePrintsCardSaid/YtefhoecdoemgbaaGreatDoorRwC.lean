/- The law RulePrints: walked. -/
import Derived.Test.YtefhoecdoemgbaaGreatDoorRwA
import Derived.Test.YtefhoecdoemgbaaGreatDoorRuZ
import Derived.Deep.RegionHeld3
namespace Go.Proofs.YtefhoecdoemgbaaGreatDoor.RwC
open Go Go.RowKit Go.Proofs.YtefhoecdoemgbaaGreatDoor.Ad0 Go.Proofs.YtefhoecdoemgbaaGreatDoor.Ru0 Go.Proofs.YtefhoecdoemgbaaGreatDoor.Ad1 Go.Proofs.YtefhoecdoemgbaaGreatDoor.St0 Go.Proofs.YtefhoecdoemgbaaGreatDoor.St1 Go.Proofs.YtefhoecdoemgbaaGreatDoor.St2 Go.Proofs.YtefhoecdoemgbaaGreatDoor.St3 Go.Proofs.YtefhoecdoemgbaaGreatDoor.Ru1 Go.Proofs.YtefhoecdoemgbaaGreatDoor.Ru2 Go.Proofs.YtefhoecdoemgbaaGreatDoor.B1 Go.Proofs.YtefhoecdoemgbaaGreatDoor.Ad3 Go.Proofs.YtefhoecdoemgbaaGreatDoor.St4 Go.Proofs.YtefhoecdoemgbaaGreatDoor.St5 Go.Proofs.YtefhoecdoemgbaaGreatDoor.St7 Go.Proofs.YtefhoecdoemgbaaGreatDoor.St8 Go.Proofs.YtefhoecdoemgbaaGreatDoor.St9 Go.Proofs.YtefhoecdoemgbaaGreatDoor.StC Go.Proofs.YtefhoecdoemgbaaGreatDoor.Ru3 Go.Proofs.YtefhoecdoemgbaaGreatDoor.Ru6 Go.Proofs.YtefhoecdoemgbaaGreatDoor.Ru7 Go.Proofs.YtefhoecdoemgbaaGreatDoor.Ru4 Go.Proofs.YtefhoecdoemgbaaGreatDoor.Ru5 Go.Proofs.YtefhoecdoemgbaaGreatDoor.St6 Go.Proofs.YtefhoecdoemgbaaGreatDoor.StA Go.Proofs.YtefhoecdoemgbaaGreatDoor.Ru8 Go.Proofs.YtefhoecdoemgbaaGreatDoor.Ru9 Go.Proofs.YtefhoecdoemgbaaGreatDoor.RuA Go.Proofs.YtefhoecdoemgbaaGreatDoor.RuB Go.Proofs.YtefhoecdoemgbaaGreatDoor.RuC Go.Proofs.YtefhoecdoemgbaaGreatDoor.RuD Go.Proofs.YtefhoecdoemgbaaGreatDoor.RuE Go.Proofs.YtefhoecdoemgbaaGreatDoor.RuF Go.Proofs.YtefhoecdoemgbaaGreatDoor.RuG Go.Proofs.YtefhoecdoemgbaaGreatDoor.RuH Go.Proofs.YtefhoecdoemgbaaGreatDoor.RuI Go.Proofs.YtefhoecdoemgbaaGreatDoor.RuJ Go.Proofs.YtefhoecdoemgbaaGreatDoor.Ad2 Go.Proofs.YtefhoecdoemgbaaGreatDoor.RuQ Go.Proofs.YtefhoecdoemgbaaGreatDoor.RuR Go.Proofs.YtefhoecdoemgbaaGreatDoor.RuS Go.Proofs.YtefhoecdoemgbaaGreatDoor.RuT Go.Proofs.YtefhoecdoemgbaaGreatDoor.RuW Go.Proofs.YtefhoecdoemgbaaGreatDoor.RuY Go.Proofs.YtefhoecdoemgbaaGreatDoor.RuZ Go.Proofs.YtefhoecdoemgbaaGreatDoor.Rw0 Go.Proofs.YtefhoecdoemgbaaGreatDoor.RuVa Go.Proofs.YtefhoecdoemgbaaGreatDoor.RuX Go.Proofs.YtefhoecdoemgbaaGreatDoor.RwA Go.Proofs.YtefhoecdoemgbaaGreatDoor.RuYa
set_option linter.unusedVariables false
set_option linter.unusedSimpArgs false

def isRow (W : World) (g : Nat) : Bool := match W.heap[g]? with
    | some (.cells c t f) => t == 32 && decide (f = (0, 0)) && c.size == 28
    | _ => false
def rowAt (W : World) (g : Nat) : Array Value := match W.heap[g]? with
    | some (.cells c _ _) => c
    | _ => #[]
theorem row_heap {W : World} {g : Nat} (h : isRow W g = true) : W.heap[g]? = some (.cells (rowAt W g) 32 (0, 0)) ∧ (rowAt W g).size = 28 := by
  unfold isRow at h
  unfold rowAt
  try dsimp only at h ⊢
  split at h
  · rename_i c t f he
    simp only [Bool.and_eq_true, beq_iff_eq, decide_eq_true_eq] at h
    obtain ⟨⟨rfl, rfl⟩, hz⟩ := h
    rw [he]
    exact ⟨rfl, hz⟩
  · cases h
theorem heap_row {W : World} {g : Nat} {ca : Array Value} (h : W.heap[g]? = some (.cells ca 32 (0, 0))) (hz : ca.size = 28) : isRow W g = true ∧ rowAt W g = ca := by
  unfold isRow rowAt
  try dsimp only
  rw [h]
  simp [hz]
def ld (a : Addr) : Sem Value := loadVar 32 a
theorem ld_eq (a : Addr) : loadVar 32 a = ld a := rfl
theorem ld_run (W : World) (g : Nat) (h : isRow W g = true) : (ld ⟨g, 0, none⟩).run Tryz.prog W = .ok (.agg (rowAt W g)) W := by
  obtain ⟨h1, h2⟩ := row_heap h
  exact run_loadVar_row W g _ _ _ _ _ h1 Tryz.underlying32 rfl (by rw [h2]; kernel_rfl)
attribute [local go_sem ↓] ld_eq
attribute [local go_sem] ld_run
theorem prints_all {w W : World} {g k : Nat} {ca cb : Array Value} (h : W.heap[g]? = some (.cells ca 32 (0, 0))) (h' : W.heap[k]? = some (.cells cb 32 (0, 0))) (hl : Lo w W) (za : ca.size = 28) (zb : cb.size = 28) : isRow W (g) = true ∧ rowAt W (g) = ca ∧ isRow W (k) = true ∧ rowAt W (k) = cb ∧ Lo w W :=
  ⟨(heap_row h za).1, (heap_row h za).2, (heap_row h' zb).1, (heap_row h' zb).2, hl⟩
theorem prints_keep {w W V : World} {g k : Nat} {ca cb : Array Value} (hb : Below W.heap.size W V)
    (h : isRow W (g) = true ∧ rowAt W (g) = ca ∧ isRow W (k) = true ∧ rowAt W (k) = cb ∧ Lo w W) : isRow V (g) = true ∧ rowAt V (g) = ca ∧ isRow V (k) = true ∧ rowAt V (k) = cb ∧ Lo w V := by
  obtain ⟨h1, rfl, h2, rfl, hl⟩ := h
  obtain ⟨e1, z1⟩ := row_heap h1
  obtain ⟨e2, z2⟩ := row_heap h2
  exact prints_all ((hb.block _ (blk_lt' e1)).trans e1) ((hb.block _ (blk_lt' e2)).trans e2) (hl.below hb) z1 z2
theorem lo5 {A B C D : Prop} {w W : World} (h : A ∧ B ∧ C ∧ D ∧ Lo w W) : Lo w W := h.2.2.2.2
set_option maxRecDepth 100000 in
set_option maxHeartbeats 4000000 in
theorem prints_walk (KS : PrintSaid) (KT : RPrintSaid) (p q : RuleM) (hp : Fits p) (hq : Fits q) (w : World) (hl : LibOK w) :
    Calls Tryz.prog 8 #[.agg (ruleC p), .agg (ruleC q)] w fun e w' => e = .returned (.bool true) ∧ Below w.heap.size w w' := by
  have k1 := fun W => heavy_all p W
  have k2 := fun W => heavy_all q W
  have k3 := fun W hL => KS p hp W hL
  have k4 := fun W hL => KT p hp W hL
  have k5 := fun W => isP_any p hp W
  have k6 := fun W => isR_any p hp W
  rw [rules_same p hp.set.1 hp.set.2] at k5
  have k7 := fun W => same_any p q W
  have k8 := fun W => rsame_any p q W
  have k9 := fun W => same_any p p W
  rw [show decide (p = p) = true from by simp] at k9
  have K10 := Lib.hid (fun W hL => known_any KS W hL)
  have HI := Lib.hid (info32 p)
  have HJ := Lib.hid (info32 q)
  have hra := heap_alloc2_old w (.cells (ruleC p) 32) (.cells (ruleC q) 32)
  have hrb := heap_alloc2_new w (.cells (ruleC p) 32) (.cells (ruleC q) 32)
  have hlo : Lo w ((w.alloc (.cells (ruleC p) 32)).alloc (.cells (ruleC q) 32)) := ⟨bnew2 w _ _, hl.below (bnew2 w _ _)⟩
  generalize ruleR p = bi at k5 k6
  generalize decide (p = q) = be at k7 k8
  generalize heavyF p = h1 at k1
  generalize heavyF q = h2 at k2
  generalize (⟨(printed p).toArray⟩ : ByteArray) = s at k3 k4
  have za : (ruleC p).size = 28 := rfl
  have zb : (ruleC q).size = 28 := rfl
  obtain ⟨ca, hca⟩ : ∃ c, ruleC p = c := ⟨_, rfl⟩
  obtain ⟨cb, hcb⟩ : ∃ c, ruleC q = c := ⟨_, rfl⟩
  rw [hca] at k1 k3 k4 k5 k6 k7 k8 k9 HI hra hrb hlo za ⊢
  rw [hcb] at k2 k7 k8 HJ hra hrb hlo zb ⊢
  have K1 := Lib.hid k1
  have K2 := Lib.hid k2
  have K3 := Lib.hid k3
  have K4 := Lib.hid k4
  have K5 := Lib.hid k5
  have K6 := Lib.hid k6
  have K7 := Lib.hid k7
  have K8 := Lib.hid k8
  have K9 := Lib.hid k9
  have HA := Lib.hid hra
  have HB := Lib.hid hrb
  have HL := Lib.hid hlo
  clear k1 k2 k3 k4 k5 k6 k7 k8 k9 hra hrb hlo KS KT hca hcb hp hq hl
  cases h1 with
  | true =>
    go_enter Tryz.func8, Tryz.ntmps8
    go_wp2_with (first
      | ((with_reducible refine Mem.load_row w.heap.size ?_ HA.out Tryz.underlying32 HI.out ?_ ?_); rfl; rfl)
      | ((with_reducible refine Mem.load_row (w.heap.size + 1) ?_ HB.out Tryz.underlying32 HJ.out ?_ ?_); rfl; rfl)
      | (go_at_call 15; first | ((with_reducible refine (K1.out _).mono ?_); rintro e w1 ⟨rfl, hb1⟩; have HL := Lib.hid (HL.out.below hb1); have HA := row_step HA hb1; have HB := row_step HB hb1; clear hb1)))
    go_ret
    exact ⟨rfl, HL.out.low⟩
  | false =>
    cases h2 with
    | true =>
      go_enter Tryz.func8, Tryz.ntmps8
      go_wp2_with (first
        | ((with_reducible refine Mem.load_row w.heap.size ?_ HA.out Tryz.underlying32 HI.out ?_ ?_); rfl; rfl)
        | ((with_reducible refine Mem.load_row (w.heap.size + 1) ?_ HB.out Tryz.underlying32 HJ.out ?_ ?_); rfl; rfl)
        | (go_at_call 15; (first | (with_reducible refine (K1.out _).mono ?_) | (with_reducible refine (K2.out _).mono ?_)); rintro e w1 ⟨rfl, hb1⟩; have HL := Lib.hid (HL.out.below hb1); have HA := row_step HA hb1; have HB := row_step HB hb1; clear hb1))
      go_ret
      exact ⟨rfl, HL.out.low⟩
    | false =>
      go_enter Tryz.func8, Tryz.ntmps8
      go_upto_region 3 with (first
        | ((with_reducible refine Mem.load_row w.heap.size ?_ HA.out Tryz.underlying32 HI.out ?_ ?_); rfl; rfl)
        | ((with_reducible refine Mem.load_row (w.heap.size + 1) ?_ HB.out Tryz.underlying32 HJ.out ?_ ?_); rfl; rfl)
        | (go_at_call 15; (first | (with_reducible refine (K1.out _).mono ?_) | (with_reducible refine (K2.out _).mono ?_)); rintro e w1 ⟨rfl, hb1⟩; have HL := Lib.hid (HL.out.below hb1); have HA := row_step HA hb1; have HB := row_step HB hb1; clear hb1))
      have D := prints_all HA.out HB.out HL.out za zb
      have hlt : w.heap.size + 1 < w1.heap.size := blk_lt' HB.out
      as_aux_lemma =>
          go_region_held3 (fun w' => isRow w' (w.heap.size) = true ∧ rowAt w' (w.heap.size) = ca ∧ isRow w' (w.heap.size + 1) = true ∧ rowAt w' (w.heap.size + 1) = cb ∧ Lo w w') (first | exact D | exact prints_keep (Below.refl _ _).drew D | exact prints_keep (by assumption) (by assumption))
            (first
              | (go_at_call 17; (with_reducible refine (K3.out _ (lo5 (by assumption)).lib).mono ?_); rintro e v1 ⟨rfl, hb1⟩)
              | (go_at_call 21; (with_reducible refine (K4.out _ (lo5 (by assumption)).lib).mono ?_); rintro e v1 ⟨rfl, hb1⟩)
              | (go_at_call 19; (with_reducible refine (K5.out _).mono ?_); rintro e v1 ⟨rfl, hb1⟩)
              | (go_at_call 16; (with_reducible refine (K6.out _).mono ?_); rintro e v1 ⟨rfl, hb1⟩)
              | (go_at_call 22; (first | (with_reducible refine (K7.out _).mono ?_) | (with_reducible refine (K9.out _).mono ?_)); rintro e v1 ⟨rfl, hb1⟩)
              | (go_at_call 11; (with_reducible refine (K8.out _).mono ?_); rintro e v1 ⟨rfl, hb1⟩)
              | (go_at_call 14; (with_reducible refine (K10.out _ (lo5 (by assumption)).lib).mono ?_); rintro e v1 ⟨rfl, hb1⟩))
          go_wp2_with fail
          go_ret
          exact ⟨rfl, (lo5 (by assumption)).low⟩
end Go.Proofs.YtefhoecdoemgbaaGreatDoor.RwC
