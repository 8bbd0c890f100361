/- known(), and the walks of AddrHas, AddrPairs, AddrNorms and AddrLooks. -/
import Derived.Test.YtfeencjpdfnkhaaDoorAd3
import Derived.Test.YtfeencjpdfnkhaaDoorAd5
import Derived.Deep.WholeRow
import Derived.Deep.DeepCutAuto
import Derived.Deep.CutBlock
import Derived.Deep.RegionWith
namespace Go.Proofs.YtfeencjpdfnkhaaDoor.Ad4
open Go Go.RowKit Go.Proofs.YtfeencjpdfnkhaaDoor.Ad0 Go.Proofs.YtfeencjpdfnkhaaDoor.Ad1 Go.Proofs.YtfeencjpdfnkhaaDoor.Ad2 Go.Proofs.YtfeencjpdfnkhaaDoor.Ad3 Go.Proofs.YtfeencjpdfnkhaaDoor.Ad5
set_option linter.unusedVariables false
set_option linter.unusedSimpArgs false

theorem print_small (a : Nat) (ha : a < 4294967296) (h0 : octF a 0 < 100) (h1 : octF a 1 < 100) (h2 : octF a 2 < 100) (h3 : octF a 3 < 100) (w : World) :
    Calls Tryd.prog 24 #[.int .u32 a] w fun e w' => e = .returned (.string ⟨(Lib.join ((octL a).map (·.data.toList)) [46]).toArray⟩) ∧ Below w.heap.size w w' := by
  refine print_any a ha w fun j hj W _ => ?_
  have hlt : octF a j < 100 := by
    match j, hj with
    | 0, _ => exact h0
    | 1, _ => exact h1
    | 2, _ => exact h2
    | 3, _ => exact h3
  refine (Tryd.strconv_Itoa_small (octF a j) hlt W).mono ?_
  rintro e w' ⟨rfl, rfl⟩
  exact ⟨by unfold octS; rw [itoa_nat], Below.refl _ _⟩

def kp : Pfx := ⟨167837696, 16⟩
theorem kp_ok : kp.ok := by unfold Pfx.ok kp; decide
theorem kp_wide : wideF kp = 167903231 := by decide +kernel
theorem ka_text : (⟨(Lib.join ((octL 167772161).map (·.data.toList)) [46]).toArray⟩ : ByteArray) = ⟨#[49, 48, 46, 48, 46, 48, 46, 49]⟩ := by decide +kernel

theorem known_any (w : World) : Calls Tryd.prog 11 #[] w fun e w' => e = .returned (.bool true) ∧ Below w.heap.size w w' := by
  have hk := Lib.hid kp_wide
  have ht := Lib.hid ka_text
  go_enter Tryd.func11, Tryd.ntmps11
  go_wp2_with fail
  refine (wide_any kp kp_ok _).mono ?_
  rintro e w1 ⟨rfl, hb1⟩
  rw [hk.out]
  have HB1 := Lib.hid hb1
  clear hb1
  go_wp2_with fail
  refine (print_small 167772161 (by decide) (by decide) (by decide) (by decide) (by decide) _).mono ?_
  rintro e w2 ⟨rfl, hb2⟩
  rw [ht.out]
  have HB2 := Lib.hid (bstep HB1.out hb2 HB1.out.size)
  clear hb2
  go_wp2
  go_ret
  exact ⟨rfl, HB2.out⟩

/-- A cell lives on. -/
theorem kc {W w1 : World} {a : Addr} {c : Value} (h : W.cell? a = some c) (hb : Below W.heap.size W w1) : w1.cell? a = some c := (hb.cell (World.block_lt_of_cell? W _ h)).trans h
/-- Two prefixes in boxes, and that only new memory has turned since w. -/
theorem keep2 {B : Nat} {w : World} {g k : Nat} {c0 c1 d0 d1 : Value} {W w1 : World} (hb : Below W.heap.size W w1)
    (h : W.cell? ⟨g, 0, none⟩ = some c0 ∧ W.cell? ⟨g, 1, none⟩ = some c1 ∧ W.cell? ⟨k, 0, none⟩ = some d0 ∧ W.cell? ⟨k, 1, none⟩ = some d1 ∧ B ≤ W.heap.size ∧ Below B w W) :
    w1.cell? ⟨g, 0, none⟩ = some c0 ∧ w1.cell? ⟨g, 1, none⟩ = some c1 ∧ w1.cell? ⟨k, 0, none⟩ = some d0 ∧ w1.cell? ⟨k, 1, none⟩ = some d1 ∧ B ≤ w1.heap.size ∧ Below B w w1 :=
  ⟨kc h.1 hb, kc h.2.1 hb, kc h.2.2.1 hb, kc h.2.2.2.1 hb, Nat.le_trans h.2.2.2.2.1 hb.size, bstep h.2.2.2.2.2 hb h.2.2.2.2.1⟩
theorem begin2 {B : Nat} {w : World} {g k : Nat} {c0 c1 d0 d1 : Value} {W : World} (h0 : W.cell? ⟨g, 0, none⟩ = some c0) (h1 : W.cell? ⟨g, 1, none⟩ = some c1) (h2 : W.cell? ⟨k, 0, none⟩ = some d0) (h3 : W.cell? ⟨k, 1, none⟩ = some d1) (hs : B ≤ W.heap.size) (hb : Below B w W) :
    W.drew.cell? ⟨g, 0, none⟩ = some c0 ∧ W.drew.cell? ⟨g, 1, none⟩ = some c1 ∧ W.drew.cell? ⟨k, 0, none⟩ = some d0 ∧ W.drew.cell? ⟨k, 1, none⟩ = some d1 ∧ B ≤ W.drew.heap.size ∧ Below B w W.drew :=
  ⟨h0, h1, h2, h3, hs, hb.drew⟩

set_option maxRecDepth 100000 in
set_option maxHeartbeats 2000000 in
theorem norms_walk (p : Pfx) (hp : p.ok) (a : Nat) (ha : a < 4294967296) (w : World) :
    Calls Tryd.prog 5 #[.agg #[.int .u32 p.addr, .int .i64 p.len], .int .u32 a] w fun e w' => e = .returned (.bool true) ∧ Below w.heap.size w w' := by
  have hn := norm_lt hp
  have h1 := is_norm p
  have h2 := norm_norm p
  have h3 := has_norm p a
  have h4 := wide_norm p
  generalize hq : normF p = q at hn h1 h2 h3 h4
  have HN : Hid (normF p = q) := hq
  have c1 := Lib.hid (fun W => norm_any q hn W)
  have c2 := Lib.hid (fun W => has_any q a hn ha W)
  have c3 := Lib.hid (fun W => wide_any q hn W)
  have c4 := Lib.hid (fun W => is_any q hn W)
  rw [h2] at c1
  rw [h3] at c2
  rw [h4] at c3
  rw [h1] at c4
  have heq : ∀ W, (binOp .eql 24 (.agg #[.int .u32 q.addr, .int .i64 q.len]) (.agg #[.int .u32 q.addr, .int .i64 q.len])).run Tryd.prog W = .ok (.bool true) W := fun W => by rw [eql_pfx q q]; simp
  clear hq h1 h2 h3 h4
  go_enter Tryd.func5, Tryd.ntmps5
  go_wp2_with fail
  refine (norm_any p hp _).mono ?_
  rintro e w1 ⟨rfl, hb1⟩
  rw [HN.out]
  have HB1 := Lib.hid (bstep (bnew w _) hb1 (by simp))
  have HC0 := Lib.hid (kc (a := ⟨w.heap.size, 0, none⟩) (c := .int .u32 p.addr) (by simp) hb1)
  have HC1 := Lib.hid (kc (a := ⟨w.heap.size, 1, none⟩) (c := .int .i64 p.len) (by simp) hb1)
  clear hb1
  go_wp2
  have D : (w1.alloc (.cells #[.int .u32 q.addr, .int .i64 q.len] 24)).cell? ⟨w.heap.size, 0, none⟩ = some (.int .u32 p.addr) ∧ (w1.alloc (.cells #[.int .u32 q.addr, .int .i64 q.len] 24)).cell? ⟨w.heap.size, 1, none⟩ = some (.int .i64 p.len) ∧
      (w1.alloc (.cells #[.int .u32 q.addr, .int .i64 q.len] 24)).cell? ⟨w1.heap.size, 0, none⟩ = some (.int .u32 q.addr) ∧ (w1.alloc (.cells #[.int .u32 q.addr, .int .i64 q.len] 24)).cell? ⟨w1.heap.size, 1, none⟩ = some (.int .i64 q.len) ∧
      w.heap.size ≤ (w1.alloc (.cells #[.int .u32 q.addr, .int .i64 q.len] 24)).heap.size ∧ Below w.heap.size w (w1.alloc (.cells #[.int .u32 q.addr, .int .i64 q.len] 24)) :=
    ⟨kc HC0.out (bnew _ _), kc HC1.out (bnew _ _), by simp, by simp, by have := HB1.out.size; simp; omega, HB1.out.alloc HB1.out.size _⟩
  generalize w1.alloc (.cells #[.int .u32 q.addr, .int .i64 q.len] 24) = W at D ⊢
  generalize w1.heap.size = k at D ⊢
  obtain ⟨d0, d1, d2, d3, d4, d5⟩ := D
  have D5 := Lib.hid d5
  clear d5
  go_region_held3 (fun w' => w'.cell? ⟨w.heap.size, 0, none⟩ = some (.int .u32 p.addr) ∧ w'.cell? ⟨w.heap.size, 1, none⟩ = some (.int .i64 p.len) ∧ w'.cell? ⟨k, 0, none⟩ = some (.int .u32 q.addr) ∧ w'.cell? ⟨k, 1, none⟩ = some (.int .i64 q.len) ∧ w.heap.size ≤ w'.heap.size ∧ Below w.heap.size w w')
    (first | exact begin2 d0 d1 d2 d3 d4 D5.out | exact keep2 (by assumption) (by assumption))
    (first
      | (go_at_call 13; (with_reducible refine (c4.out _).mono ?_); rintro e v1 ⟨rfl, hb1⟩)
      | (go_at_call 12; (with_reducible refine (c1.out _).mono ?_); rintro e v1 ⟨rfl, hb1⟩)
      | (go_at_call 9; (with_reducible refine (c2.out _).mono ?_); rintro e v1 ⟨rfl, hb1⟩)
      | (go_at_call 9; (with_reducible refine (has_any p a hp ha _).mono ?_); rintro e v1 ⟨rfl, hb1⟩)
      | (go_at_call 8; (with_reducible refine (c3.out _).mono ?_); rintro e v1 ⟨rfl, hb1⟩)
      | (go_at_call 8; (with_reducible refine (wide_any p hp _).mono ?_); rintro e v1 ⟨rfl, hb1⟩)
      | (go_at_call 11; refine (known_any _).mono ?_; rintro e v1 ⟨rfl, hb1⟩))
  go_wp2
  go_ret
  rename_i hh
  exact ⟨rfl, hh.2.2.2.2.2⟩

theorem szs {W w1 : World} {g : Nat} (hb : Below W.heap.size W w1) (h : g + 1 < W.heap.size) : g < w1.heap.size ∧ g + 1 < w1.heap.size := by have := hb.size; omega
/-- Behind 'p, q = Norm(p), Norm(q)'. -/
def Two (w : World) (P Q : Pfx) (W : World) : Prop := W.cell? ⟨w.heap.size, 0, none⟩ = some (.int .u32 P.addr) ∧ W.cell? ⟨w.heap.size, 1, none⟩ = some (.int .i64 P.len) ∧
  W.cell? ⟨w.heap.size + 1, 0, none⟩ = some (.int .u32 Q.addr) ∧ W.cell? ⟨w.heap.size + 1, 1, none⟩ = some (.int .i64 Q.len) ∧ w.heap.size ≤ W.heap.size ∧ Below w.heap.size w W

theorem two_step {w W w1 : World} {P Q : Pfx} (h : Hid (Two w P Q W)) (hb : Below W.heap.size W w1) : Hid (Two w P Q w1) := keep2 hb h
theorem two_end {w v0 v1 : World} {P Q : Pfx} {c0 c1 d0 d1 : Value} {T : TypeId} (hb1 : Below (((w.alloc (.cells #[c0, c1] T)).alloc (.cells #[d0, d1] T)).drew).heap.size ((w.alloc (.cells #[c0, c1] T)).alloc (.cells #[d0, d1] T)).drew v0) (hb2 : Below v0.heap.size v0 v1) :
    Two w P Q ((((v1.setCell ⟨w.heap.size, 0, none⟩ (.int .u32 P.addr)).setCell ⟨w.heap.size, 1, none⟩ (.int .i64 P.len)).setCell ⟨w.heap.size + 1, 0, none⟩ (.int .u32 Q.addr)).setCell ⟨w.heap.size + 1, 1, none⟩ (.int .i64 Q.len)) := by
  have s0 : w.heap.size + 2 ≤ v0.heap.size := by have := hb1.size; simp at this; omega
  have s1 := hb2.size
  have e1 : v1.heap[w.heap.size]? = some (.cells #[c0, c1] T (0, 0)) := by
    rw [hb2.block _ (by omega), hb1.block _ (by simp; omega), heap_drew]
    exact heap_alloc2_old w _ _
  have e2 : v1.heap[w.heap.size + 1]? = some (.cells #[d0, d1] T (0, 0)) := by
    rw [hb2.block _ (by omega), hb1.block _ (by simp), heap_drew]
    exact heap_alloc2_new w _ _
  have bel : Below w.heap.size w v1 := bstep (bstep (bnew2 w _ _).drew hb1 (by simp; omega)) hb2 (by omega)
  have f1 := heap_setCell_same _ _ 0 _ _ (.int .u32 P.addr) e1
  have g1 := (heap_setCell_other v1 ⟨w.heap.size, 0, none⟩ (w.heap.size + 1) (.int .u32 P.addr) (by simp)).trans e2
  have f2 := heap_setCell_same _ _ 1 _ _ (.int .i64 P.len) f1
  have g2 := (heap_setCell_other _ ⟨w.heap.size, 1, none⟩ (w.heap.size + 1) (.int .i64 P.len) (by simp)).trans g1
  have f3 := (heap_setCell_other _ ⟨w.heap.size + 1, 0, none⟩ (w.heap.size) (.int .u32 Q.addr) (by simp)).trans f2
  have g3 := heap_setCell_same _ _ 0 _ _ (.int .u32 Q.addr) g2
  have f4 := (heap_setCell_other _ ⟨w.heap.size + 1, 1, none⟩ (w.heap.size) (.int .i64 Q.len) (by simp)).trans f3
  have g4 := heap_setCell_same _ _ 1 _ _ (.int .i64 Q.len) g3
  refine ⟨(cell_of_row _ _ 0 _ _ _ f4).trans rfl, (cell_of_row _ _ 1 _ _ _ f4).trans rfl, (cell_of_row _ _ 0 _ _ _ g4).trans rfl, (cell_of_row _ _ 1 _ _ _ g4).trans rfl, ?_, ?_⟩
  · simp [World.setCell]; omega
  · exact (((bel.setCell (by simp) _).setCell (by simp) _).setCell (by simp) _).setCell (by simp) _

set_option maxRecDepth 100000 in
set_option maxHeartbeats 2000000 in
theorem pairs_walk (p q : Pfx) (hp : p.ok) (hq : q.ok) (a : Nat) (ha : a < 4294967296) (w : World) :
    Calls Tryd.prog 4 #[.agg #[.int .u32 p.addr, .int .i64 p.len], .agg #[.int .u32 q.addr, .int .i64 q.len], .int .u32 a] w fun e w' => e = .returned (.bool true) ∧ Below w.heap.size w w' := by
  have hnp := norm_lt hp
  have hnq := norm_lt hq
  have hz : w.heap.size < w.heap.size + 1 + 1 := by omega
  go_enter Tryd.func4, Tryd.ntmps4
  go_upto_region 1 with (fail)
  go_cut [7, 8, 9, 10] (fun v7 v8 v9 v10 wc => Two w (normF p) (normF q) wc)
  case first =>
    go_region_with (first
      | (go_at_call 7; (with_reducible refine (rnorm_any p hp _).mono ?_); rintro e v1 ⟨rfl, hb1⟩; obtain ⟨hc1, hf1⟩ := bcell hb1; obtain ⟨hz1, hy1⟩ := szs (g := w.heap.size) hb1 (by first | assumption | (simp <;> omega)))
      | (go_at_call 7; (with_reducible refine (rnorm_any q hq _).mono ?_); rintro e v1 ⟨rfl, hb1⟩; obtain ⟨hc1, hf1⟩ := bcell hb1; obtain ⟨hz1, hy1⟩ := szs (g := w.heap.size) hb1 (by first | assumption | (simp <;> omega))))
    all_goals
      go_wp2
      go_meet
      case rel =>
        exact two_end (by assumption) (by assumption)
  case rest =>
    have HT := Lib.hid hcut
    have k1 := Lib.hid (fun W => covers_any (normF p) (normF q) hnp hnq W)
    have k2 := Lib.hid (fun W => covers_any (normF q) (normF p) hnq hnp W)
    have k3 := Lib.hid (fun W => has_any (normF p) a hnp ha W)
    have k4 := Lib.hid (fun W => has_any (normF q) a hnq ha W)
    have k5 := Lib.hid (fun W => has_any (normF p) (normF q).addr hnp hnq W)
    have k6 := Lib.hid (fun W => has_any (normF q) (normF p).addr hnq hnp W)
    have he := pair_eq p q
    have hn := pair_not (normF p) (normF q) a
    have heq := eql_pfx (normF p) (normF q)
    generalize normF p = P at *
    generalize normF q = Q at *
    obtain ⟨d0, d1, d2, d3, -⟩ := HT.out
    clear hcut
    cases h1 : coversF P Q <;> cases h2 : coversF Q P
    case true.true =>
      obtain rfl := he h1 h2
      rw [h1] at k1 k2
      have heq' : ∀ W, (binOp .eql 24 (.agg #[.int .u32 P.addr, .int .i64 P.len]) (.agg #[.int .u32 P.addr, .int .i64 P.len])).run Tryd.prog W = .ok (.bool true) W := fun W => by rw [heq W]; simp
      clear heq hn he h1 h2
      go_wp2_with (first
        | (go_at_call 10; (with_reducible refine (k1.out _).mono ?_); rintro e v1 ⟨rfl, hb1⟩; have HT := two_step HT hb1; clear hb1; obtain ⟨d0, d1, d2, d3, -⟩ := HT.out)
        | (go_at_call 11; (with_reducible refine (known_any _).mono ?_); rintro e v1 ⟨rfl, hb1⟩; have HT := two_step HT hb1; clear hb1; obtain ⟨d0, d1, d2, d3, -⟩ := HT.out))
      go_ret
      exact ⟨rfl, HT.out.2.2.2.2.2⟩
    case false.false =>
      obtain ⟨n1, n2, n3⟩ := hn h1 h2
      rw [h1] at k1
      rw [h2] at k2
      rw [n2] at k5
      rw [n3] at k6
      clear heq hn he h1 h2
      cases e1 : hasF P a <;> cases e2 : hasF Q a
      case true.true => rw [e1, e2] at n1; cases n1
      all_goals
        rw [e1] at k3
        rw [e2] at k4
        clear n1 e1 e2
        go_wp2_with (first
          | (go_at_call 10; (with_reducible refine (k1.out _).mono ?_); rintro e v1 ⟨rfl, hb1⟩; have HT := two_step HT hb1; clear hb1; obtain ⟨d0, d1, d2, d3, -⟩ := HT.out)
          | (go_at_call 10; (with_reducible refine (k2.out _).mono ?_); rintro e v1 ⟨rfl, hb1⟩; have HT := two_step HT hb1; clear hb1; obtain ⟨d0, d1, d2, d3, -⟩ := HT.out)
          | (go_at_call 9; (with_reducible refine (k3.out _).mono ?_); rintro e v1 ⟨rfl, hb1⟩; have HT := two_step HT hb1; clear hb1; obtain ⟨d0, d1, d2, d3, -⟩ := HT.out)
          | (go_at_call 9; (with_reducible refine (k4.out _).mono ?_); rintro e v1 ⟨rfl, hb1⟩; have HT := two_step HT hb1; clear hb1; obtain ⟨d0, d1, d2, d3, -⟩ := HT.out)
          | (go_at_call 9; (with_reducible refine (k5.out _).mono ?_); rintro e v1 ⟨rfl, hb1⟩; have HT := two_step HT hb1; clear hb1; obtain ⟨d0, d1, d2, d3, -⟩ := HT.out)
          | (go_at_call 9; (with_reducible refine (k6.out _).mono ?_); rintro e v1 ⟨rfl, hb1⟩; have HT := two_step HT hb1; clear hb1; obtain ⟨d0, d1, d2, d3, -⟩ := HT.out)
          | (go_at_call 11; (with_reducible refine (known_any _).mono ?_); rintro e v1 ⟨rfl, hb1⟩; have HT := two_step HT hb1; clear hb1; obtain ⟨d0, d1, d2, d3, -⟩ := HT.out))
        go_ret
        exact ⟨rfl, HT.out.2.2.2.2.2⟩
    all_goals
      rw [h1] at k1
      rw [h2] at k2
      clear heq hn he h1 h2
      go_wp2_with (first
        | (go_at_call 10; (with_reducible refine (k1.out _).mono ?_); rintro e v1 ⟨rfl, hb1⟩; have HT := two_step HT hb1; clear hb1; obtain ⟨d0, d1, d2, d3, -⟩ := HT.out)
        | (go_at_call 10; (with_reducible refine (k2.out _).mono ?_); rintro e v1 ⟨rfl, hb1⟩; have HT := two_step HT hb1; clear hb1; obtain ⟨d0, d1, d2, d3, -⟩ := HT.out)
        | (go_at_call 11; (with_reducible refine (known_any _).mono ?_); rintro e v1 ⟨rfl, hb1⟩; have HT := two_step HT hb1; clear hb1; obtain ⟨d0, d1, d2, d3, -⟩ := HT.out))
      go_ret
      exact ⟨rfl, HT.out.2.2.2.2.2⟩
end Go.Proofs.YtfeencjpdfnkhaaDoor.Ad4
