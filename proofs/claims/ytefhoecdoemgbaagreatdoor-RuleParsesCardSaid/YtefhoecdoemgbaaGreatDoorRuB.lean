/- rule.words.side: an end of a rule, read. -/
import Derived.Test.YtefhoecdoemgbaaGreatDoorRu5
import Derived.Test.YtefhoecdoemgbaaGreatDoorRu7
import Derived.Test.YtefhoecdoemgbaaGreatDoorRu9
import Derived.RegionTactic
import Derived.BigRegion
import Derived.Deep.DeepCutAuto
namespace Go.Proofs.YtefhoecdoemgbaaGreatDoor.RuB
open Go Go.RowKit Go.Proofs.YtefhoecdoemgbaaGreatDoor.Ad0 Go.Proofs.YtefhoecdoemgbaaGreatDoor.Ad1 Go.Proofs.YtefhoecdoemgbaaGreatDoor.Ad3 Go.Proofs.YtefhoecdoemgbaaGreatDoor.St0 Go.Proofs.YtefhoecdoemgbaaGreatDoor.St1 Go.Proofs.YtefhoecdoemgbaaGreatDoor.St2 Go.Proofs.YtefhoecdoemgbaaGreatDoor.St3 Go.Proofs.YtefhoecdoemgbaaGreatDoor.St4 Go.Proofs.YtefhoecdoemgbaaGreatDoor.StA Go.Proofs.YtefhoecdoemgbaaGreatDoor.Ru0 Go.Proofs.YtefhoecdoemgbaaGreatDoor.Ru1 Go.Proofs.YtefhoecdoemgbaaGreatDoor.Ru6 Go.Proofs.YtefhoecdoemgbaaGreatDoor.Ru7 Go.Proofs.YtefhoecdoemgbaaGreatDoor.Ru8 Go.Proofs.YtefhoecdoemgbaaGreatDoor.Ru9
set_option linter.unusedVariables false
set_option linter.unusedSimpArgs false

/-- An end's cells. -/
def sideC (s : SideM) : Array Value := #[.bool s.any, .string ⟨s.table.toArray⟩, .int .u32 (s.pfx.addr : Nat), .int .i64 s.pfx.len, .int .i64 s.low, .int .i64 s.high]
theorem box6 {w : World} {g : Nat} {a b c d e f : Value} {T : TypeId} (h : w.heap[g]? = some (.cells #[a, b, c, d, e, f] T (0, 0))) :
    w.cell? ⟨g, 0, none⟩ = some a ∧ w.cell? ⟨g, 1, none⟩ = some b ∧ w.cell? ⟨g, 2, none⟩ = some c ∧ w.cell? ⟨g, 3, none⟩ = some d ∧ w.cell? ⟨g, 4, none⟩ = some e ∧ w.cell? ⟨g, 5, none⟩ = some f ∧
    w.frozen? ⟨g, 0, none⟩ = false ∧ w.frozen? ⟨g, 1, none⟩ = false ∧ w.frozen? ⟨g, 2, none⟩ = false ∧ w.frozen? ⟨g, 3, none⟩ = false ∧ w.frozen? ⟨g, 4, none⟩ = false ∧ w.frozen? ⟨g, 5, none⟩ = false :=
  ⟨(cell_of_row _ _ 0 _ _ _ h).trans rfl, (cell_of_row _ _ 1 _ _ _ h).trans rfl, (cell_of_row _ _ 2 _ _ _ h).trans rfl, (cell_of_row _ _ 3 _ _ _ h).trans rfl, (cell_of_row _ _ 4 _ _ _ h).trans rfl, (cell_of_row _ _ 5 _ _ _ h).trans rfl,
    frozen_of_row _ _ 0 _ _ h, frozen_of_row _ _ 1 _ _ h, frozen_of_row _ _ 2 _ _ h, frozen_of_row _ _ 3 _ _ h, frozen_of_row _ _ 4 _ _ h, frozen_of_row _ _ 5 _ _ h⟩

/-- While an end is read: the reader, the end so far, the box of the result. -/
structure SideSt (W : World) (g : Nat) (s : SideM) (ws : Ws) (W2 : World) : Prop where
  rd : Rd 53 W2 g ws
  box : W2.heap[W.heap.size + 1]? = some (.cells (sideC s) 28 (0, 0))
  res : W2.heap[W.heap.size]? = some (.cells (sideC {}) 28 (0, 0))
  upto : Upto g W W2
  lib : LibOK W2
  big : W.heap.size + 1 < W2.heap.size
theorem SideSt.call {W W2 W3 : World} {g : Nat} {s : SideM} {ws ws' : Ws} (h : SideSt W g s ws W2) (hg : g < W.heap.size) (hG : LibLow g) (hr : Rd 53 W3 g ws') (hu : Upto g W2 W3) : SideSt W g s ws' W3 :=
  ⟨hr, hu.row h.box (by omega), hu.row h.res (by omega), h.upto.trans hu, lib_upto h.lib hu hG (Nat.le_of_lt h.rd.lt), Nat.lt_of_lt_of_le h.big hu.size⟩
theorem SideSt.below {W W2 W3 : World} {g : Nat} {s : SideM} {ws : Ws} (h : SideSt W g s ws W2) (hb : Below W2.heap.size W2 W3) : SideSt W g s ws W3 :=
  ⟨h.rd.below hb, (hb.block _ h.big).trans h.box, (hb.block _ (Nat.lt_of_succ_lt h.big)).trans h.res, h.upto.trans (Upto.of_below hb), h.lib.below hb, Nat.lt_of_lt_of_le h.big hb.size⟩
theorem SideSt.bad {W W2 : World} {g : Nat} {s : SideM} {ws : Ws} (h : SideSt W g s ws W2) (hg : g < W.heap.size) (hG : LibLow g) (b : Bool) : SideSt W g s ⟨ws.l, b⟩ (W2.setCell ⟨g, 1, none⟩ (.bool b)) :=
  h.call hg hG (h.rd.bad b) (Upto.refl _ _).set
theorem SideSt.put {W W2 : World} {g k : Nat} {s s' : SideM} {ws : Ws} {v : Value} (h : SideSt W g s ws W2) (hg : g < W.heap.size) (hG : LibLow g) (he : (sideC s).setIfInBounds k v = sideC s') : SideSt W g s' ws (W2.setCell ⟨W.heap.size + 1, k, none⟩ v) :=
  ⟨h.rd.above (set_b (Below.refl _ _) (by omega)), by rw [← he]; exact set_at h.box, by rw [heap_setCell_other _ _ _ _ (by simp)]; exact h.res, h.upto.set_new (by omega), lib_low h.lib (set_b (Below.refl _ _) (by omega)) hG, by rw [size_set]; exact h.big⟩
theorem SideSt.draw {W W2 : World} {g : Nat} {s : SideM} {ws : Ws} (h : SideSt W g s ws W2) (n : Nat) : SideSt W g s ws (W2.drewN n) := h.below (bdrewN (Below.refl _ _) n)
theorem SideSt.facts {W W2 : World} {g : Nat} {s : SideM} {ws : Ws} (h : SideSt W g s ws W2) : (W2.cell? ⟨g, 1, none⟩ = some (.bool ws.bad) ∧ W2.frozen? ⟨g, 1, none⟩ = false) ∧
    (W2.cell? ⟨W.heap.size + 1, 0, none⟩ = some (.bool s.any) ∧ W2.cell? ⟨W.heap.size + 1, 1, none⟩ = some (.string ⟨s.table.toArray⟩) ∧ W2.cell? ⟨W.heap.size + 1, 2, none⟩ = some (.int .u32 (s.pfx.addr : Nat)) ∧ W2.cell? ⟨W.heap.size + 1, 3, none⟩ = some (.int .i64 s.pfx.len) ∧ W2.cell? ⟨W.heap.size + 1, 4, none⟩ = some (.int .i64 s.low) ∧ W2.cell? ⟨W.heap.size + 1, 5, none⟩ = some (.int .i64 s.high)) ∧
    (W2.frozen? ⟨W.heap.size + 1, 0, none⟩ = false ∧ W2.frozen? ⟨W.heap.size + 1, 1, none⟩ = false ∧ W2.frozen? ⟨W.heap.size + 1, 2, none⟩ = false ∧ W2.frozen? ⟨W.heap.size + 1, 3, none⟩ = false ∧ W2.frozen? ⟨W.heap.size + 1, 4, none⟩ = false ∧ W2.frozen? ⟨W.heap.size + 1, 5, none⟩ = false) := by
  obtain ⟨a0, a1, a2, a3, a4, a5, b0, b1, b2, b3, b4, b5⟩ := box6 h.box
  exact ⟨h.rd.cells, ⟨a0, a1, a2, a3, a4, a5⟩, b0, b1, b2, b3, b4, b5⟩
def startS : SideM := { high := 65535 }
theorem side_start (W : World) (g : Nat) (ws : Ws) (h : Rd 53 W g ws) (hl : LibOK W) : SideSt W g startS ws ((W.alloc (.cells (sideC {}) 28)).alloc (.cells (sideC startS) 28)) := by
  have hb := bnew2 W (.cells (sideC {}) 28) (.cells (sideC startS) 28)
  exact ⟨h.below hb, heap_alloc2_new _ _ _, heap_alloc2_old _ _ _, Upto.of_below hb, hl.below hb, by simp⟩
theorem isTab_pre (x : Wd) : isTab x = (Lib.hasPrefix x [60] && Lib.hasSuffix x [62]) := by
  unfold isTab Lib.hasPrefix Lib.hasSuffix
  rw [Bool.eq_iff_iff]
  simp only [Bool.and_eq_true, decide_eq_true_eq, List.isPrefixOf_iff_prefix, List.isSuffixOf_iff_suffix]
  constructor
  · rintro ⟨⟨h0, h1⟩, h2⟩
    rw [beq_iff_eq] at h1 h2
    constructor
    · cases x with
      | nil => cases h1
      | cons a t => simp at h1; subst h1; exact ⟨t, rfl⟩
    · obtain ⟨t, rfl⟩ := List.getLast?_eq_some_iff.1 h2
      exact ⟨t, rfl⟩
  · rintro ⟨⟨t, rfl⟩, ⟨u, hu⟩⟩
    refine ⟨⟨?_, by simp⟩, ?_⟩
    · cases t with
      | nil => cases u with
        | nil => simp at hu
        | cons a v => simp at hu
      | cons a v => simp
    · rw [← hu]; simp
theorem inner_ext (x : Wd) (h : isTab x = true) : (⟨x.toArray⟩ : ByteArray).extract 1 (x.length - 1) = ⟨(inner x).toArray⟩ := by
  apply ByteArray.ext
  rw [ByteArray.data_extract]
  apply Array.ext'
  unfold inner
  simp only [Array.toList_extract, List.toList_toArray, List.extract_eq_take_drop]
  congr 1

/-- The end is handed back. -/
theorem side_done {W W2 : World} {g : Nat} {s : SideM} {ws : Ws} (h : SideSt W g s ws W2) (hg : g < W.heap.size) (hG : LibLow g) {v0 v1 v2 v3 v4 v5 : Value} (hv : #[v0, v1, v2, v3, v4, v5] = sideC s) :
    ((((((W2.setCell ⟨W.heap.size, 0, none⟩ v0).setCell ⟨W.heap.size, 1, none⟩ v1).setCell ⟨W.heap.size, 2, none⟩ v2).setCell ⟨W.heap.size, 3, none⟩ v3).setCell ⟨W.heap.size, 4, none⟩ v4).setCell ⟨W.heap.size, 5, none⟩ v5).heap[W.heap.size]? = some (.cells (sideC s) 28 (0, 0)) ∧
    Rd 53 ((((((W2.setCell ⟨W.heap.size, 0, none⟩ v0).setCell ⟨W.heap.size, 1, none⟩ v1).setCell ⟨W.heap.size, 2, none⟩ v2).setCell ⟨W.heap.size, 3, none⟩ v3).setCell ⟨W.heap.size, 4, none⟩ v4).setCell ⟨W.heap.size, 5, none⟩ v5) g ws ∧
    Upto g W ((((((W2.setCell ⟨W.heap.size, 0, none⟩ v0).setCell ⟨W.heap.size, 1, none⟩ v1).setCell ⟨W.heap.size, 2, none⟩ v2).setCell ⟨W.heap.size, 3, none⟩ v3).setCell ⟨W.heap.size, 4, none⟩ v4).setCell ⟨W.heap.size, 5, none⟩ v5) := by
  refine ⟨?_, h.rd.above ?_, ?_⟩
  · have := set_at (k := 5) (v := v5) (set_at (k := 4) (v := v4) (set_at (k := 3) (v := v3) (set_at (k := 2) (v := v2) (set_at (k := 1) (v := v1) (set_at (k := 0) (v := v0) h.res)))))
    rw [← hv]
    exact this
  · exact set_b (set_b (set_b (set_b (set_b (set_b (Below.refl _ _) (by omega)) (by omega)) (by omega)) (by omega)) (by omega)) (by omega)
  · exact ((((((h.upto.set_new (Nat.le_refl _)).set_new (Nat.le_refl _)).set_new (Nat.le_refl _)).set_new (Nat.le_refl _)).set_new (Nat.le_refl _)).set_new (Nat.le_refl _))
theorem cut_short (l : Wd) (c : UInt8) : (Lib.cut l [c]).1.length ≤ l.length ∧ (Lib.cut l [c]).2.1.length ≤ l.length := by
  by_cases h : c ∈ l
  · obtain ⟨a, r, rfl, hn⟩ := first_at c l h
    rw [cut_hit c a r hn]
    simp
    omega
  · rw [cut_none c l h]
    simp
theorem cut_two (s : Wd) (c : UInt8) (hs : s.length < 4294967281) (W : World) (hl : LibOK W) : Calls Tryz.prog 61 #[.string ⟨s.toArray⟩, .string ⟨#[c]⟩] W fun e w' => e = .returned (.tuple #[.string ⟨(Lib.cut s [c]).1.toArray⟩, .string ⟨(Lib.cut s [c]).2.1.toArray⟩, .bool (Lib.cut s [c]).2.2]) ∧ ∃ n, w' = W.drewN n := by
  obtain ⟨m, hm⟩ := hl.maxLen
  exact Tryz.strings_Cut ⟨s.toArray⟩ ⟨#[c]⟩ m W (by rw [wd_size]; exact hs) hm
/-- Who an end is, by its first word. -/
def whoF (x : Wd) (w : Ws) : SideM × Ws :=
  if x = wAny then ({ any := true, high := 65535 }, w)
  else if isTab x then ({ table := inner x, high := 65535 }, w.orBad (inner x).isEmpty)
  else ({ pfx := pfxOf (prefL x), high := 65535 }, w.orBad (prefL x).isNone)
theorem portsP_eq (s : SideM) (w : Ws) : portsP s w = (let t := takesP w wPort
  if t.1 then
    let n := nextF t.2
    let c := Lib.cut n.1 [58]
    let a := numP n.2 c.1
    if c.2.2 then
      let b := numP a.2 c.2.1
      ({ s with low := a.1, high := b.1 }, b.2.orBad (b.1 == a.1))
    else ({ s with low := a.1, high := a.1 }, a.2)
  else (s, t.2)) := rfl
theorem whoP_eq (ws : Ws) : whoP ws = whoF (nextF ws).1 (nextF ws).2 := rfl
/-- A text as a prefix, its two ways told. -/
theorem pref_two (s : Wd) (hs : s.length < 4294967281) (W : World) (hl : LibOK W) : Calls Tryz.prog 60 #[.string ⟨s.toArray⟩] W fun e w' => e = .returned (.tuple #[.agg #[.int .u32 ((pfxOf (prefL s)).addr : Nat), .int .i64 (pfxOf (prefL s)).len], .int .i64 (if (prefL s).isNone then 2 else 0)]) ∧ Below W.heap.size W w' := by
  refine (pref_any ⟨s.toArray⟩ (by rw [wd_size]; exact hs) W hl).mono ?_
  rintro e w' ⟨rfl, hb⟩
  refine ⟨?_, hb⟩
  have : (⟨s.toArray⟩ : ByteArray).data.toList = s := rfl
  rw [this]
  cases prefL s <;> rfl

set_option maxRecDepth 100000 in
set_option maxHeartbeats 2000000 in
theorem side_any (g : Nat) (ws : Ws) (W : World) (h : Rd 53 W g ws) (hl : LibOK W) (hG : LibLow g) :
    Calls Tryz.prog 28 #[.pointer (some ⟨g, 0, none⟩)] W fun e w' => e = .returned (.agg (sideC (sideF ws).1)) ∧ Rd 53 w' g (sideF ws).2 ∧ Upto g W w' := by
  have HS0 := Lib.hid (side_start W g ws h hl)
  have hlt := h.lt
  have KN := Lib.hid (fun W' hr => next_any g ws W' hr)
  have KS := Lib.hid (nextF_short h)
  clear h hl
  unfold sideF
  rw [whoP_eq]
  generalize nextF ws = n at KN KS ⊢
  obtain ⟨x, w1⟩ := n
  dsimp only at KN KS ⊢
  go_enter Tryz.func28, Tryz.ntmps28
  go_wp2_with fail
  refine (KN.out _ HS0.out.rd).mono ?_
  rintro e W1 ⟨rfl, hr1, hu1⟩
  have HS1 := Lib.hid (HS0.out.call hlt hG hr1 hu1)
  clear hr1 hu1
  go_upto_block 0 with fail
  go_cut [] (fun wc => SideSt W g (whoF x w1).1 (whoF x w1).2 wc)
  case first =>
    obtain ⟨⟨c1, f1⟩, ⟨a0, a1, a2, a3, a4, a5⟩, b0, b1, b2, b3, b4, b5⟩ := HS1.out.facts
    by_cases h1 : x = wAny
    · subst h1
      have hw : whoF wAny w1 = ({ any := true, high := 65535 }, w1) := by unfold whoF; rw [if_pos rfl]
      have HW := Lib.hid hw
      clear hw
      have q1 : (wAny == [97, 110, 121]) = true := rfl
      go_wp2_with fail
      go_meet
      case rel => rw [HW.out]; exact HS1.out.put hlt hG rfl
    · have q1 : (x == [97, 110, 121]) = false := by rw [beq_eq_false_iff_ne]; exact h1
      have KP := Lib.hid (fun W' => Tryz.strings_HasPrefix ⟨x.toArray⟩ ⟨#[60]⟩ W')
      have KQ := Lib.hid (fun W' => Tryz.strings_HasSuffix ⟨x.toArray⟩ ⟨#[62]⟩ W' (by rw [wd_size]; have := KS.out; omega))
      have hx : (⟨x.toArray⟩ : ByteArray).data.toList = x := rfl
      have hx1 : (⟨#[60]⟩ : ByteArray).data.toList = [60] := rfl
      have hx2 : (⟨#[62]⟩ : ByteArray).data.toList = [62] := rfl
      rw [hx, hx1] at KP
      rw [hx, hx2] at KQ
      have ht := isTab_pre x
      generalize Lib.hasPrefix x [60] = p1 at KP ht
      generalize Lib.hasSuffix x [62] = p2 at KQ ht
      clear hx hx1 hx2
      by_cases hpp : p1 = true ∧ p2 = true
      · obtain ⟨rfl, rfl⟩ := hpp
        have hl2 : 2 ≤ x.length := by
          have h := ht
          unfold isTab at h
          simp only [Bool.and_eq_true, decide_eq_true_eq, Bool.and_self] at h
          exact h.1.1
        have hw : whoF x w1 = ({ table := inner x, high := 65535 }, w1.orBad (inner x).isEmpty) := by unfold whoF; rw [if_neg h1, if_pos (by rw [ht]; rfl)]
        have HW := Lib.hid hw
        clear hw
        have HI := Lib.hid (inner_ext x ht)
        clear h1 ht
        have hi := HI.out
        have hxl := KS.out
        cases hbad : w1.bad <;> cases hem : (inner x).isEmpty
        all_goals
          have HBAD := Lib.hid hbad
          have HEM := Lib.hid hem
          rw [hbad] at c1
          clear hbad
          go_wp2_with (first
            | (go_at_call 58; refine (KP.out _).mono ?_; rintro e W3 ⟨rfl, rfl⟩)
            | (go_at_call 59; refine (KQ.out _).mono ?_; rintro e W3 ⟨rfl, rfl⟩))
          go_meet
          case rel =>
            rw [HW.out, orBad_eq, HBAD.out, HEM.out]
            exact (HS1.out.put (k := 1) (s' := { table := inner x, high := 65535 }) hlt hG rfl).bad hlt hG _
      have hpq : p1 = false ∨ (p1 = true ∧ p2 = false) := by cases p1 <;> cases p2 <;> simp at hpp ⊢
      have hpf : (p1 && p2) = false := by cases p1 <;> cases p2 <;> simp at hpp ⊢
      rw [hpf] at ht
      clear hpp hpf
      rcases hpq with rfl | ⟨rfl, rfl⟩
      all_goals
        have hw : whoF x w1 = ({ pfx := pfxOf (prefL x), high := 65535 }, w1.orBad (prefL x).isNone) := by unfold whoF; rw [if_neg h1, if_neg (by rw [ht]; simp)]
        have HW := Lib.hid hw
        clear hw
        clear h1 ht
        have KF := Lib.hid (fun W' hl => pref_two x KS.out W' hl)
        generalize pfxOf (prefL x) = px at KF HW
        generalize (prefL x).isNone = no at KF HW
        cases no <;> cases hbad : w1.bad
        all_goals
          have HBAD := Lib.hid hbad
          rw [hbad] at c1
          clear hbad
          go_wp2_with (first
            | (go_at_call 58; refine (KP.out _).mono ?_; rintro e W3 ⟨rfl, rfl⟩)
            | (go_at_call 59; refine (KQ.out _).mono ?_; rintro e W3 ⟨rfl, rfl⟩)
            | (go_at_call 60; refine (KF.out _ HS1.out.lib).mono ?_; rintro e W2 ⟨rfl, hb⟩; have HS2 := Lib.hid (HS1.out.below hb); clear hb; clear c1 f1 a0 a1 a2 a3 a4 a5 b0 b1 b2 b3 b4 b5; obtain ⟨⟨c1, f1⟩, ⟨a0, a1, a2, a3, a4, a5⟩, b0, b1, b2, b3, b4, b5⟩ := HS2.out.facts; rw [HBAD.out] at c1))
          clear KN KP KQ KF c1 f1 a0 a1 a2 a3 a4 a5 b0 b1 b2 b3 b4 b5
          have HS3 := Lib.hid (HS2.out.below (bnew W2 (.cells #[.int .u32 (px.addr : Nat), .int .i64 px.len] 24)))
          obtain ⟨⟨c1, f1⟩, ⟨a0, a1, a2, a3, a4, a5⟩, b0, b1, b2, b3, b4, b5⟩ := HS3.out.facts
          obtain ⟨p0, p1, p2, p3⟩ := box2 (heap_alloc_new W2 (.cells #[.int .u32 (px.addr : Nat), .int .i64 px.len] 24))
          have hk := HS2.out.big
          rw [HBAD.out] at c1
          clear HS2
          generalize (W2.alloc (.cells #[.int .u32 (px.addr : Nat), .int .i64 px.len] 24)) = W3 at *
          generalize W2.heap.size = k at *
          have d1 : k ≠ g := by omega
          have d2 : k ≠ W.heap.size + 1 := by omega
          have d3 : g ≠ W.heap.size + 1 := by omega
          have d4 : g ≠ k := by omega
          go_region
          all_goals (go_wp2_with fail; go_meet)
          case rel =>
            rw [HW.out, orBad_eq, HBAD.out]
            exact (((HS3.out.put (k := 2) (s' := { pfx := ⟨px.addr, 0⟩, high := 65535 }) hlt hG rfl).put (k := 3) (s' := { pfx := px, high := 65535 }) hlt hG rfl).bad hlt hG _).draw 1
  case rest =>
    have hS := hcut
    generalize hq : whoF x w1 = q at hS
    have HQ := Lib.hid hq
    obtain ⟨s1, v1⟩ := q
    dsimp only at hS
    have HS2 := Lib.hid hS
    clear hS hcut hq HS1 HS0 KN KS
    have KT := Lib.hid (fun W' hr => takes_any g v1 #[112, 111, 114, 116] W' hr)
    have hwp : (#[112, 111, 114, 116] : Array UInt8).toList = wPort := rfl
    rw [hwp] at KT
    have HP := Lib.hid (portsP_eq s1 v1)
    generalize takesP v1 wPort = tk at KT HP
    obtain ⟨tb, v2⟩ := tk
    dsimp only at KT HP
    cases tb with
    | false =>
      have hP : portsP s1 v1 = (s1, v2) := HP.out
      have HPF := Lib.hid hP
      clear hP
      go_wp2_with (go_at_call 25; refine (KT.out _ HS2.out.rd).mono ?_; rintro e W3 ⟨rfl, hr1, hu1⟩; have HS3 := Lib.hid (HS2.out.call hlt hG hr1 hu1); clear hr1 hu1; obtain ⟨⟨c1, f1⟩, ⟨a0, a1, a2, a3, a4, a5⟩, b0, b1, b2, b3, b4, b5⟩ := HS3.out.facts; obtain ⟨r0, r1, r2, r3, r4, r5, e0, e1, e2, e3, e4, e5⟩ := box6 HS3.out.res)
      obtain ⟨g1, g2, g3⟩ := side_done HS3.out hlt hG (v0 := _) (v1 := _) (v2 := _) (v3 := _) (v4 := _) (v5 := _) rfl
      exact box_ret1 g1 rfl rfl Tryz.underlying28 (by kernel_rfl) rfl ⟨by rw [HQ.out, HPF.out], by rw [HQ.out, HPF.out]; exact g2, g3⟩
    | true =>
      have KN := Lib.hid (fun W' hr => next_any g v2 W' hr)
      have KS := Lib.hid (fun W' (hr : Rd 53 W' g v2) => nextF_short hr)
      generalize nextF v2 = n at KN KS HP
      obtain ⟨y, v3⟩ := n
      dsimp only at KN KS HP
      have KC := Lib.hid (fun W' hs hl => cut_two y 58 hs W' hl)
      have KL := Lib.hid (cut_short y 58)
      generalize Lib.cut y [58] = c at KC KL HP
      obtain ⟨x1, x2, ok⟩ := c
      dsimp only at KC KL HP
      have KM := Lib.hid (fun W' hs hr => number_any g v3 ⟨x1.toArray⟩ hs W' hr)
      have hx1 : (⟨x1.toArray⟩ : ByteArray).data.toList = x1 := rfl
      rw [hx1] at KM
      generalize numP v3 x1 = m at KM HP
      obtain ⟨lo, v4⟩ := m
      dsimp only at KM HP
      have KM2 := Lib.hid (fun W' hs hr => number_any g v4 ⟨x2.toArray⟩ hs W' hr)
      have hx2 : (⟨x2.toArray⟩ : ByteArray).data.toList = x2 := rfl
      rw [hx2] at KM2
      generalize numP v4 x2 = m2 at KM2 HP
      obtain ⟨hi, v5⟩ := m2
      dsimp only at KM2 HP
      clear hx1 hx2 hwp
      cases ok with
      | false =>
        have hP : portsP s1 v1 = ({ s1 with low := lo, high := lo }, v4) := HP.out
        have HPF := Lib.hid hP
        clear hP
        go_wp2_with (first
          | (go_at_call 25; refine (KT.out _ HS2.out.rd).mono ?_; rintro e W3 ⟨rfl, hr1, hu1⟩; have HS3 := Lib.hid (HS2.out.call hlt hG hr1 hu1); clear hr1 hu1)
          | (go_at_call 26; refine (KN.out _ HS3.out.rd).mono ?_; rintro e W4 ⟨rfl, hr1, hu1⟩; have KS4 := Lib.hid (KS.out _ HS3.out.rd); have HS4 := Lib.hid (HS3.out.call hlt hG hr1 hu1); clear hr1 hu1)
          | (go_at_call 61; refine (KC.out _ KS4.out HS4.out.lib).mono ?_; rintro e W5 ⟨rfl, nd, rfl⟩; have HS5 := Lib.hid (HS4.out.draw nd))
          | (go_at_call 31; refine (KM.out _ (by rw [wd_size]; have h1 := KL.out; have h2 := KS4.out; omega) HS5.out.rd).mono ?_; rintro e W6 ⟨rfl, hr1, hu1⟩; have HS6 := Lib.hid (HS5.out.call hlt hG hr1 hu1); clear hr1 hu1; obtain ⟨⟨c1, f1⟩, ⟨a0, a1, a2, a3, a4, a5⟩, b0, b1, b2, b3, b4, b5⟩ := HS6.out.facts; obtain ⟨r0, r1, r2, r3, r4, r5, e0, e1, e2, e3, e4, e5⟩ := box6 HS6.out.res))
        have HS7 := (HS6.out.put (k := 4) (s' := { s1 with low := lo }) hlt hG rfl).put (k := 5) (s' := { s1 with low := lo, high := lo }) hlt hG rfl
        obtain ⟨g1, g2, g3⟩ := side_done HS7 hlt hG (v0 := _) (v1 := _) (v2 := _) (v3 := _) (v4 := _) (v5 := _) rfl
        exact box_ret1 g1 rfl rfl Tryz.underlying28 (by kernel_rfl) rfl ⟨by rw [HQ.out, HPF.out], by rw [HQ.out, HPF.out]; exact g2, g3⟩
      | true =>
        have hP : portsP s1 v1 = ({ s1 with low := lo, high := hi }, v5.orBad (hi == lo)) := HP.out
        have HPF := Lib.hid hP
        clear hP
        have hdec : ∃ b : Bool, v5.bad = b := ⟨_, rfl⟩
        cases hbad : v5.bad <;> cases heq : (hi == lo)
        all_goals
          have HBAD := Lib.hid hbad
          have HEQ := Lib.hid heq
          clear hbad
          go_wp2_with fail
          refine (KT.out _ HS2.out.rd).mono ?_; rintro e W3 ⟨rfl, hr1, hu1⟩; have HS3 := Lib.hid (HS2.out.call hlt hG hr1 hu1); clear hr1 hu1
          go_wp2_with fail
          refine (KN.out _ HS3.out.rd).mono ?_; rintro e W4 ⟨rfl, hr1, hu1⟩; have KS4 := Lib.hid (KS.out _ HS3.out.rd); have HS4 := Lib.hid (HS3.out.call hlt hG hr1 hu1); clear hr1 hu1
          go_wp2_with fail
          refine (KC.out _ KS4.out HS4.out.lib).mono ?_; rintro e W5 ⟨rfl, nd, rfl⟩; have HS5 := Lib.hid (HS4.out.draw nd)
          go_wp2_with fail
          refine (KM.out _ (by rw [wd_size]; have h1 := KL.out; have h2 := KS4.out; omega) HS5.out.rd).mono ?_; rintro e W6 ⟨rfl, hr1, hu1⟩; have HS6 := Lib.hid (HS5.out.call hlt hG hr1 hu1); clear hr1 hu1; obtain ⟨⟨c1, f1⟩, ⟨a0, a1, a2, a3, a4, a5⟩, b0, b1, b2, b3, b4, b5⟩ := HS6.out.facts
          go_wp2_with fail
          have HS7 := Lib.hid ((HS6.out.put (k := 4) (s' := { s1 with low := lo }) hlt hG rfl).put (k := 5) (s' := { s1 with low := lo, high := lo }) hlt hG rfl)
          clear c1 f1 a0 a1 a2 a3 a4 a5 b0 b1 b2 b3 b4 b5
          refine (KM2.out _ (by rw [wd_size]; have h1 := KL.out; have h2 := KS4.out; omega) HS7.out.rd).mono ?_; rintro e W8 ⟨rfl, hr1, hu1⟩; have HS8 := Lib.hid (HS7.out.call hlt hG hr1 hu1); clear hr1 hu1; obtain ⟨⟨c1, f1⟩, ⟨a0, a1, a2, a3, a4, a5⟩, b0, b1, b2, b3, b4, b5⟩ := HS8.out.facts; obtain ⟨r0, r1, r2, r3, r4, r5, e0, e1, e2, e3, e4, e5⟩ := box6 HS8.out.res; rw [HBAD.out] at c1
          go_wp2_with fail
          have HS9 := (HS8.out.put (k := 5) (s' := { s1 with low := lo, high := hi }) hlt hG rfl).bad hlt hG (v5.bad || (hi == lo))
          rw [HBAD.out, HEQ.out] at HS9
          obtain ⟨g1, g2, g3⟩ := side_done HS9 hlt hG (v0 := _) (v1 := _) (v2 := _) (v3 := _) (v4 := _) (v5 := _) rfl
          exact box_ret1 g1 rfl rfl Tryz.underlying28 (by kernel_rfl) rfl ⟨by rw [HQ.out, HPF.out], by rw [HQ.out, HPF.out, orBad_eq, HBAD.out, HEQ.out]; exact g2, g3⟩
end Go.Proofs.YtefhoecdoemgbaaGreatDoor.RuB
