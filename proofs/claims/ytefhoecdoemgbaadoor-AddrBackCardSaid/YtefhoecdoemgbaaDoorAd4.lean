/- known(), and the walks of AddrHas, AddrPairs, AddrNorms and AddrLooks. -/
import Derived.Test.YtefhoecdoemgbaaDoorAd3
import Derived.Test.YtefhoecdoemgbaaDoorAd5
import Derived.Deep.WholeRow
import Derived.Deep.DeepCutAuto
import Derived.Deep.CutBlock
import Derived.Deep.RegionWith
namespace Go.Proofs.YtefhoecdoemgbaaDoor.Ad4
open Go Go.RowKit Go.Proofs.YtefhoecdoemgbaaDoor.Ad0 Go.Proofs.YtefhoecdoemgbaaDoor.Ad1 Go.Proofs.YtefhoecdoemgbaaDoor.Ad2 Go.Proofs.YtefhoecdoemgbaaDoor.Ad3 Go.Proofs.YtefhoecdoemgbaaDoor.Ad5
set_option linter.unusedVariables false
set_option linter.unusedSimpArgs false

theorem print_small (a : Nat) (ha : a < 4294967296) (h0 : octF a 0 < 100) (h1 : octF a 1 < 100) (h2 : octF a 2 < 100) (h3 : octF a 3 < 100) (w : World) :
    Calls Tryd.prog 9 #[.int .u32 a] w fun e w' => e = .returned (.string ⟨(Lib.join ((octL a).map (·.data.toList)) [46]).toArray⟩) ∧ Below w.heap.size w w' := by
  refine print_any a ha w fun j hj W _ => ?_
  have hlt : octF a j < 100 := by
    match j, hj with
    | 0, _ => exact h0
    | 1, _ => exact h1
    | 2, _ => exact h2
    | 3, _ => exact h3
  refine (Tryd.strconv_Itoa_small (octF a j) hlt W).mono ?_
  rintro e w' ⟨rfl, rfl⟩
  exact ⟨by unfold octS; rw [itoa_nat], Below.refl _ _⟩

def kp : Pfx := ⟨167837696, 16⟩
theorem kp_ok : kp.ok := by unfold Pfx.ok kp; decide
theorem kp_wide : wideF kp = 167903231 := by decide +kernel
theorem ka_text : (⟨(Lib.join ((octL 167772161).map (·.data.toList)) [46]).toArray⟩ : ByteArray) = ⟨#[49, 48, 46, 48, 46, 48, 46, 49]⟩ := by decide +kernel

theorem known_any (w : World) : Calls Tryd.prog 13 #[] w fun e w' => e = .returned (.bool true) ∧ Below w.heap.size w w' := by
  have hk := Lib.hid kp_wide
  have ht := Lib.hid ka_text
  go_enter Tryd.func13, Tryd.ntmps13
  go_wp2_with fail
  refine (wide_any kp kp_ok _).mono ?_
  rintro e w1 ⟨rfl, hb1⟩
  rw [hk.out]
  have HB1 := Lib.hid hb1
  clear hb1
  go_wp2_with fail
  refine (print_small 167772161 (by decide) (by decide) (by decide) (by decide) (by decide) _).mono ?_
  rintro e w2 ⟨rfl, hb2⟩
  rw [ht.out]
  have HB2 := Lib.hid (bstep HB1.out hb2 HB1.out.size)
  clear hb2
  go_wp2
  go_ret
  exact ⟨rfl, HB2.out⟩

/-- A cell lives on. -/
theorem kc {W w1 : World} {a : Addr} {c : Value} (h : W.cell? a = some c) (hb : Below W.heap.size W w1) : w1.cell? a = some c := (hb.cell (World.block_lt_of_cell? W _ h)).trans h
/-- Two prefixes in boxes, and that only new memory has turned since w. -/
theorem keep2 {B : Nat} {w : World} {g k : Nat} {c0 c1 d0 d1 : Value} {W w1 : World} (hb : Below W.heap.size W w1)
    (h : W.cell? ⟨g, 0, none⟩ = some c0 ∧ W.cell? ⟨g, 1, none⟩ = some c1 ∧ W.cell? ⟨k, 0, none⟩ = some d0 ∧ W.cell? ⟨k, 1, none⟩ = some d1 ∧ B ≤ W.heap.size ∧ Below B w W) :
    w1.cell? ⟨g, 0, none⟩ = some c0 ∧ w1.cell? ⟨g, 1, none⟩ = some c1 ∧ w1.cell? ⟨k, 0, none⟩ = some d0 ∧ w1.cell? ⟨k, 1, none⟩ = some d1 ∧ B ≤ w1.heap.size ∧ Below B w w1 :=
  ⟨kc h.1 hb, kc h.2.1 hb, kc h.2.2.1 hb, kc h.2.2.2.1 hb, Nat.le_trans h.2.2.2.2.1 hb.size, bstep h.2.2.2.2.2 hb h.2.2.2.2.1⟩
theorem begin2 {B : Nat} {w : World} {g k : Nat} {c0 c1 d0 d1 : Value} {W : World} (h0 : W.cell? ⟨g, 0, none⟩ = some c0) (h1 : W.cell? ⟨g, 1, none⟩ = some c1) (h2 : W.cell? ⟨k, 0, none⟩ = some d0) (h3 : W.cell? ⟨k, 1, none⟩ = some d1) (hs : B ≤ W.heap.size) (hb : Below B w W) :
    W.drew.cell? ⟨g, 0, none⟩ = some c0 ∧ W.drew.cell? ⟨g, 1, none⟩ = some c1 ∧ W.drew.cell? ⟨k, 0, none⟩ = some d0 ∧ W.drew.cell? ⟨k, 1, none⟩ = some d1 ∧ B ≤ W.drew.heap.size ∧ Below B w W.drew :=
  ⟨h0, h1, h2, h3, hs, hb.drew⟩

theorem szs {W w1 : World} {g : Nat} (hb : Below W.heap.size W w1) (h : g + 1 < W.heap.size) : g < w1.heap.size ∧ g + 1 < w1.heap.size := by have := hb.size; omega
/-- Behind 'p, q = Norm(p), Norm(q)'. -/
def Two (w : World) (P Q : Pfx) (W : World) : Prop := W.cell? ⟨w.heap.size, 0, none⟩ = some (.int .u32 P.addr) ∧ W.cell? ⟨w.heap.size, 1, none⟩ = some (.int .i64 P.len) ∧
  W.cell? ⟨w.heap.size + 1, 0, none⟩ = some (.int .u32 Q.addr) ∧ W.cell? ⟨w.heap.size + 1, 1, none⟩ = some (.int .i64 Q.len) ∧ w.heap.size ≤ W.heap.size ∧ Below w.heap.size w W

theorem two_step {w W w1 : World} {P Q : Pfx} (h : Hid (Two w P Q W)) (hb : Below W.heap.size W w1) : Hid (Two w P Q w1) := keep2 hb h
theorem two_end {w v0 v1 : World} {P Q : Pfx} {c0 c1 d0 d1 : Value} {T : TypeId} (hb1 : Below (((w.alloc (.cells #[c0, c1] T)).alloc (.cells #[d0, d1] T)).drew).heap.size ((w.alloc (.cells #[c0, c1] T)).alloc (.cells #[d0, d1] T)).drew v0) (hb2 : Below v0.heap.size v0 v1) :
    Two w P Q ((((v1.setCell ⟨w.heap.size, 0, none⟩ (.int .u32 P.addr)).setCell ⟨w.heap.size, 1, none⟩ (.int .i64 P.len)).setCell ⟨w.heap.size + 1, 0, none⟩ (.int .u32 Q.addr)).setCell ⟨w.heap.size + 1, 1, none⟩ (.int .i64 Q.len)) := by
  have s0 : w.heap.size + 2 ≤ v0.heap.size := by have := hb1.size; simp at this; omega
  have s1 := hb2.size
  have e1 : v1.heap[w.heap.size]? = some (.cells #[c0, c1] T (0, 0)) := by
    rw [hb2.block _ (by omega), hb1.block _ (by simp; omega), heap_drew]
    exact heap_alloc2_old w _ _
  have e2 : v1.heap[w.heap.size + 1]? = some (.cells #[d0, d1] T (0, 0)) := by
    rw [hb2.block _ (by omega), hb1.block _ (by simp), heap_drew]
    exact heap_alloc2_new w _ _
  have bel : Below w.heap.size w v1 := bstep (bstep (bnew2 w _ _).drew hb1 (by simp; omega)) hb2 (by omega)
  have f1 := heap_setCell_same _ _ 0 _ _ (.int .u32 P.addr) e1
  have g1 := (heap_setCell_other v1 ⟨w.heap.size, 0, none⟩ (w.heap.size + 1) (.int .u32 P.addr) (by simp)).trans e2
  have f2 := heap_setCell_same _ _ 1 _ _ (.int .i64 P.len) f1
  have g2 := (heap_setCell_other _ ⟨w.heap.size, 1, none⟩ (w.heap.size + 1) (.int .i64 P.len) (by simp)).trans g1
  have f3 := (heap_setCell_other _ ⟨w.heap.size + 1, 0, none⟩ (w.heap.size) (.int .u32 Q.addr) (by simp)).trans f2
  have g3 := heap_setCell_same _ _ 0 _ _ (.int .u32 Q.addr) g2
  have f4 := (heap_setCell_other _ ⟨w.heap.size + 1, 1, none⟩ (w.heap.size) (.int .i64 Q.len) (by simp)).trans f3
  have g4 := heap_setCell_same _ _ 1 _ _ (.int .i64 Q.len) g3
  refine ⟨(cell_of_row _ _ 0 _ _ _ f4).trans rfl, (cell_of_row _ _ 1 _ _ _ f4).trans rfl, (cell_of_row _ _ 0 _ _ _ g4).trans rfl, (cell_of_row _ _ 1 _ _ _ g4).trans rfl, ?_, ?_⟩
  · simp [World.setCell]; omega
  · exact (((bel.setCell (by simp) _).setCell (by simp) _).setCell (by simp) _).setCell (by simp) _

end Go.Proofs.YtefhoecdoemgbaaDoor.Ad4
