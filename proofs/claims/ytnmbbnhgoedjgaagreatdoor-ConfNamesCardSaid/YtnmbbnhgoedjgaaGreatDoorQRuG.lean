/- rule.words.side: an end of a rule, read. rule.words.look: flags and a type, read. '==' of pins, ports, ends and rules; rule.isPin, isSide. rule.isSide, isPass, isLook, Is. -/
import Derived.Test.YtnmbbnhgoedjgaaGreatDoorQRu5
import Derived.Test.YtnmbbnhgoedjgaaGreatDoorQCf3
import Derived.RegionTactic
import Derived.BigRegion
import Derived.Deep.DeepCutAuto
namespace Go.Proofs.YtnmbbnhgoedjgaaGreatDoor.RuB
open Go Go.RowKit Go.Proofs.YtnmbbnhgoedjgaaGreatDoor.Ad0 Go.Proofs.YtnmbbnhgoedjgaaGreatDoor.Ad1 Go.Proofs.YtnmbbnhgoedjgaaGreatDoor.St0 Go.Proofs.YtnmbbnhgoedjgaaGreatDoor.St2 Go.Proofs.YtnmbbnhgoedjgaaGreatDoor.St3 Go.Proofs.YtnmbbnhgoedjgaaGreatDoor.Ru0 Go.Proofs.YtnmbbnhgoedjgaaGreatDoor.Ru1 Go.Proofs.YtnmbbnhgoedjgaaGreatDoor.Ru6 Go.Proofs.YtnmbbnhgoedjgaaGreatDoor.Ru7 Go.Proofs.YtnmbbnhgoedjgaaGreatDoor.Ru9
set_option linter.unusedVariables false
set_option linter.unusedSimpArgs false
/-- An end's cells. -/
def sideC (s : SideM) : Array Value := #[.bool s.any, .string ⟨s.table.toArray⟩, .int .u32 (s.pfx.addr : Nat), .int .i64 s.pfx.len, .int .i64 s.low, .int .i64 s.high]
theorem box6 {w : World} {g : Nat} {a b c d e f : Value} {T : TypeId} (h : w.heap[g]? = some (.cells #[a, b, c, d, e, f] T (0, 0))) :
    w.cell? ⟨g, 0, none⟩ = some a ∧ w.cell? ⟨g, 1, none⟩ = some b ∧ w.cell? ⟨g, 2, none⟩ = some c ∧ w.cell? ⟨g, 3, none⟩ = some d ∧ w.cell? ⟨g, 4, none⟩ = some e ∧ w.cell? ⟨g, 5, none⟩ = some f ∧
    w.frozen? ⟨g, 0, none⟩ = false ∧ w.frozen? ⟨g, 1, none⟩ = false ∧ w.frozen? ⟨g, 2, none⟩ = false ∧ w.frozen? ⟨g, 3, none⟩ = false ∧ w.frozen? ⟨g, 4, none⟩ = false ∧ w.frozen? ⟨g, 5, none⟩ = false :=
  ⟨(cell_of_row _ _ 0 _ _ _ h).trans rfl, (cell_of_row _ _ 1 _ _ _ h).trans rfl, (cell_of_row _ _ 2 _ _ _ h).trans rfl, (cell_of_row _ _ 3 _ _ _ h).trans rfl, (cell_of_row _ _ 4 _ _ _ h).trans rfl, (cell_of_row _ _ 5 _ _ _ h).trans rfl,
    frozen_of_row _ _ 0 _ _ h, frozen_of_row _ _ 1 _ _ h, frozen_of_row _ _ 2 _ _ h, frozen_of_row _ _ 3 _ _ h, frozen_of_row _ _ 4 _ _ h, frozen_of_row _ _ 5 _ _ h⟩
/-- While an end is read: the reader, the end so far, the box of the result. -/
structure SideSt (W : World) (g : Nat) (s : SideM) (ws : Ws) (W2 : World) : Prop where
  rd : Rd 150 W2 g ws
  box : W2.heap[W.heap.size + 1]? = some (.cells (sideC s) 71 (0, 0))
  res : W2.heap[W.heap.size]? = some (.cells (sideC {}) 71 (0, 0))
  upto : Upto g W W2
  lib : LibOK W2
  big : W.heap.size + 1 < W2.heap.size
theorem SideSt.call {W W2 W3 : World} {g : Nat} {s : SideM} {ws ws' : Ws} (h : SideSt W g s ws W2) (hg : g < W.heap.size) (hG : LibLow g) (hr : Rd 150 W3 g ws') (hu : Upto g W2 W3) : SideSt W g s ws' W3 :=
  ⟨hr, hu.row h.box (by omega), hu.row h.res (by omega), h.upto.trans hu, lib_upto h.lib hu hG (Nat.le_of_lt h.rd.lt), Nat.lt_of_lt_of_le h.big hu.size⟩
theorem SideSt.below {W W2 W3 : World} {g : Nat} {s : SideM} {ws : Ws} (h : SideSt W g s ws W2) (hb : Below W2.heap.size W2 W3) : SideSt W g s ws W3 :=
  ⟨h.rd.below hb, (hb.block _ h.big).trans h.box, (hb.block _ (Nat.lt_of_succ_lt h.big)).trans h.res, h.upto.trans (Upto.of_below hb), h.lib.below hb, Nat.lt_of_lt_of_le h.big hb.size⟩
theorem SideSt.bad {W W2 : World} {g : Nat} {s : SideM} {ws : Ws} (h : SideSt W g s ws W2) (hg : g < W.heap.size) (hG : LibLow g) (b : Bool) : SideSt W g s ⟨ws.l, b⟩ (W2.setCell ⟨g, 1, none⟩ (.bool b)) :=
  h.call hg hG (h.rd.bad b) (Upto.refl _ _).set
theorem SideSt.put {W W2 : World} {g k : Nat} {s s' : SideM} {ws : Ws} {v : Value} (h : SideSt W g s ws W2) (hg : g < W.heap.size) (hG : LibLow g) (he : (sideC s).setIfInBounds k v = sideC s') : SideSt W g s' ws (W2.setCell ⟨W.heap.size + 1, k, none⟩ v) :=
  ⟨h.rd.above (set_b (Below.refl _ _) (by omega)), by rw [← he]; exact set_at h.box, by rw [heap_setCell_other _ _ _ _ (by simp)]; exact h.res, h.upto.set_new (by omega), lib_low h.lib (set_b (Below.refl _ _) (by omega)) hG, by rw [size_set]; exact h.big⟩
theorem SideSt.draw {W W2 : World} {g : Nat} {s : SideM} {ws : Ws} (h : SideSt W g s ws W2) (n : Nat) : SideSt W g s ws (W2.drewN n) := h.below (bdrewN (Below.refl _ _) n)
theorem SideSt.facts {W W2 : World} {g : Nat} {s : SideM} {ws : Ws} (h : SideSt W g s ws W2) : (W2.cell? ⟨g, 1, none⟩ = some (.bool ws.bad) ∧ W2.frozen? ⟨g, 1, none⟩ = false) ∧
    (W2.cell? ⟨W.heap.size + 1, 0, none⟩ = some (.bool s.any) ∧ W2.cell? ⟨W.heap.size + 1, 1, none⟩ = some (.string ⟨s.table.toArray⟩) ∧ W2.cell? ⟨W.heap.size + 1, 2, none⟩ = some (.int .u32 (s.pfx.addr : Nat)) ∧ W2.cell? ⟨W.heap.size + 1, 3, none⟩ = some (.int .i64 s.pfx.len) ∧ W2.cell? ⟨W.heap.size + 1, 4, none⟩ = some (.int .i64 s.low) ∧ W2.cell? ⟨W.heap.size + 1, 5, none⟩ = some (.int .i64 s.high)) ∧
    (W2.frozen? ⟨W.heap.size + 1, 0, none⟩ = false ∧ W2.frozen? ⟨W.heap.size + 1, 1, none⟩ = false ∧ W2.frozen? ⟨W.heap.size + 1, 2, none⟩ = false ∧ W2.frozen? ⟨W.heap.size + 1, 3, none⟩ = false ∧ W2.frozen? ⟨W.heap.size + 1, 4, none⟩ = false ∧ W2.frozen? ⟨W.heap.size + 1, 5, none⟩ = false) := by
  obtain ⟨a0, a1, a2, a3, a4, a5, b0, b1, b2, b3, b4, b5⟩ := box6 h.box
  exact ⟨h.rd.cells, ⟨a0, a1, a2, a3, a4, a5⟩, b0, b1, b2, b3, b4, b5⟩
def startS : SideM := { high := 65535 }
theorem side_start (W : World) (g : Nat) (ws : Ws) (h : Rd 150 W g ws) (hl : LibOK W) : SideSt W g startS ws ((W.alloc (.cells (sideC {}) 71)).alloc (.cells (sideC startS) 71)) := by
  have hb := bnew2 W (.cells (sideC {}) 71) (.cells (sideC startS) 71)
  exact ⟨h.below hb, heap_alloc2_new _ _ _, heap_alloc2_old _ _ _, Upto.of_below hb, hl.below hb, by simp⟩
theorem isTab_pre (x : Wd) : isTab x = (Lib.hasPrefix x [60] && Lib.hasSuffix x [62]) := by
  unfold isTab Lib.hasPrefix Lib.hasSuffix
  rw [Bool.eq_iff_iff]
  simp only [Bool.and_eq_true, decide_eq_true_eq, List.isPrefixOf_iff_prefix, List.isSuffixOf_iff_suffix]
  constructor
  · rintro ⟨⟨h0, h1⟩, h2⟩
    rw [beq_iff_eq] at h1 h2
    constructor
    · cases x with
      | nil => cases h1
      | cons a t => simp at h1; subst h1; exact ⟨t, rfl⟩
    · obtain ⟨t, rfl⟩ := List.getLast?_eq_some_iff.1 h2
      exact ⟨t, rfl⟩
  · rintro ⟨⟨t, rfl⟩, ⟨u, hu⟩⟩
    refine ⟨⟨?_, by simp⟩, ?_⟩
    · cases t with
      | nil => cases u with
        | nil => simp at hu
        | cons a v => simp at hu
      | cons a v => simp
    · rw [← hu]; simp
theorem inner_ext (x : Wd) (h : isTab x = true) : (⟨x.toArray⟩ : ByteArray).extract 1 (x.length - 1) = ⟨(inner x).toArray⟩ := by
  apply ByteArray.ext
  rw [ByteArray.data_extract]
  apply Array.ext'
  unfold inner
  simp only [Array.toList_extract, List.toList_toArray, List.extract_eq_take_drop]
  congr 1
/-- The end is handed back. -/
theorem side_done {W W2 : World} {g : Nat} {s : SideM} {ws : Ws} (h : SideSt W g s ws W2) (hg : g < W.heap.size) (hG : LibLow g) {v0 v1 v2 v3 v4 v5 : Value} (hv : #[v0, v1, v2, v3, v4, v5] = sideC s) :
    ((((((W2.setCell ⟨W.heap.size, 0, none⟩ v0).setCell ⟨W.heap.size, 1, none⟩ v1).setCell ⟨W.heap.size, 2, none⟩ v2).setCell ⟨W.heap.size, 3, none⟩ v3).setCell ⟨W.heap.size, 4, none⟩ v4).setCell ⟨W.heap.size, 5, none⟩ v5).heap[W.heap.size]? = some (.cells (sideC s) 71 (0, 0)) ∧
    Rd 150 ((((((W2.setCell ⟨W.heap.size, 0, none⟩ v0).setCell ⟨W.heap.size, 1, none⟩ v1).setCell ⟨W.heap.size, 2, none⟩ v2).setCell ⟨W.heap.size, 3, none⟩ v3).setCell ⟨W.heap.size, 4, none⟩ v4).setCell ⟨W.heap.size, 5, none⟩ v5) g ws ∧
    Upto g W ((((((W2.setCell ⟨W.heap.size, 0, none⟩ v0).setCell ⟨W.heap.size, 1, none⟩ v1).setCell ⟨W.heap.size, 2, none⟩ v2).setCell ⟨W.heap.size, 3, none⟩ v3).setCell ⟨W.heap.size, 4, none⟩ v4).setCell ⟨W.heap.size, 5, none⟩ v5) := by
  refine ⟨?_, h.rd.above ?_, ?_⟩
  · have := set_at (k := 5) (v := v5) (set_at (k := 4) (v := v4) (set_at (k := 3) (v := v3) (set_at (k := 2) (v := v2) (set_at (k := 1) (v := v1) (set_at (k := 0) (v := v0) h.res)))))
    rw [← hv]
    exact this
  · exact set_b (set_b (set_b (set_b (set_b (set_b (Below.refl _ _) (by omega)) (by omega)) (by omega)) (by omega)) (by omega)) (by omega)
  · exact ((((((h.upto.set_new (Nat.le_refl _)).set_new (Nat.le_refl _)).set_new (Nat.le_refl _)).set_new (Nat.le_refl _)).set_new (Nat.le_refl _)).set_new (Nat.le_refl _))
theorem cut_short (l : Wd) (c : UInt8) : (Lib.cut l [c]).1.length ≤ l.length ∧ (Lib.cut l [c]).2.1.length ≤ l.length := by
  by_cases h : c ∈ l
  · obtain ⟨a, r, rfl, hn⟩ := first_at c l h
    rw [cut_hit c a r hn]
    simp
    omega
  · rw [cut_none c l h]
    simp
theorem cut_two (s : Wd) (c : UInt8) (hs : s.length < 4294967281) (W : World) (hl : LibOK W) : Calls Tryz.prog 145 #[.string ⟨s.toArray⟩, .string ⟨#[c]⟩] W fun e w' => e = .returned (.tuple #[.string ⟨(Lib.cut s [c]).1.toArray⟩, .string ⟨(Lib.cut s [c]).2.1.toArray⟩, .bool (Lib.cut s [c]).2.2]) ∧ ∃ n, w' = W.drewN n := by
  obtain ⟨m, hm⟩ := hl.maxLen
  exact Tryz.strings_Cut ⟨s.toArray⟩ ⟨#[c]⟩ m W (by rw [wd_size]; exact hs) hm
/-- Who an end is, by its first word. -/
def whoF (x : Wd) (w : Ws) : SideM × Ws :=
  if x = wAny then ({ any := true, high := 65535 }, w)
  else if isTab x then ({ table := inner x, high := 65535 }, w.orBad (inner x).isEmpty)
  else ({ pfx := pfxOf (prefL x), high := 65535 }, w.orBad (prefL x).isNone)
theorem portsP_eq (s : SideM) (w : Ws) : portsP s w = (let t := takesP w wPort
  if t.1 then
    let n := nextF t.2
    let c := Lib.cut n.1 [58]
    let a := numP n.2 c.1
    if c.2.2 then
      let b := numP a.2 c.2.1
      ({ s with low := a.1, high := b.1 }, b.2.orBad (b.1 == a.1))
    else ({ s with low := a.1, high := a.1 }, a.2)
  else (s, t.2)) := rfl
theorem whoP_eq (ws : Ws) : whoP ws = whoF (nextF ws).1 (nextF ws).2 := rfl
/-- A text as a prefix, its two ways told. -/
theorem pref_two (s : Wd) (hs : s.length < 4294967281) (W : World) (hl : LibOK W) : Calls Tryz.prog 103 #[.string ⟨s.toArray⟩] W fun e w' => e = .returned (.tuple #[.agg #[.int .u32 ((pfxOf (prefL s)).addr : Nat), .int .i64 (pfxOf (prefL s)).len], .int .i64 (if (prefL s).isNone then 2 else 0)]) ∧ Below W.heap.size W w' := by
  refine (pref_any ⟨s.toArray⟩ (by rw [wd_size]; exact hs) W hl).mono ?_
  rintro e w' ⟨rfl, hb⟩
  refine ⟨?_, hb⟩
  have : (⟨s.toArray⟩ : ByteArray).data.toList = s := rfl
  rw [this]
  cases prefL s <;> rfl
set_option maxRecDepth 100000 in
set_option maxHeartbeats 2000000 in
theorem side_any (g : Nat) (ws : Ws) (W : World) (h : Rd 150 W g ws) (hl : LibOK W) (hG : LibLow g) :
    Calls Tryz.prog 110 #[.pointer (some ⟨g, 0, none⟩)] W fun e w' => e = .returned (.agg (sideC (sideF ws).1)) ∧ Rd 150 w' g (sideF ws).2 ∧ Upto g W w' := by
  have HS0 := Lib.hid (side_start W g ws h hl)
  have hlt := h.lt
  have KN := Lib.hid (fun W' hr => next_any g ws W' hr)
  have KS := Lib.hid (nextF_short h)
  clear h hl
  unfold sideF
  rw [whoP_eq]
  generalize nextF ws = n at KN KS ⊢
  obtain ⟨x, w1⟩ := n
  dsimp only at KN KS ⊢
  go_enter Tryz.func110, Tryz.ntmps110
  go_wp2_with fail
  refine (KN.out _ HS0.out.rd).mono ?_
  rintro e W1 ⟨rfl, hr1, hu1⟩
  have HS1 := Lib.hid (HS0.out.call hlt hG hr1 hu1)
  clear hr1 hu1
  go_upto_block 0 with fail
  go_cut [] (fun wc => SideSt W g (whoF x w1).1 (whoF x w1).2 wc)
  case first =>
    obtain ⟨⟨c1, f1⟩, ⟨a0, a1, a2, a3, a4, a5⟩, b0, b1, b2, b3, b4, b5⟩ := HS1.out.facts
    by_cases h1 : x = wAny
    · subst h1
      have hw : whoF wAny w1 = ({ any := true, high := 65535 }, w1) := by unfold whoF; rw [if_pos rfl]
      have HW := Lib.hid hw
      clear hw
      have q1 : (wAny == [97, 110, 121]) = true := rfl
      go_wp2_with fail
      go_meet
      case rel => rw [HW.out]; exact HS1.out.put hlt hG rfl
    · have q1 : (x == [97, 110, 121]) = false := by rw [beq_eq_false_iff_ne]; exact h1
      have KP := Lib.hid (fun W' => Tryz.strings_HasPrefix ⟨x.toArray⟩ ⟨#[60]⟩ W')
      have KQ := Lib.hid (fun W' => Tryz.strings_HasSuffix ⟨x.toArray⟩ ⟨#[62]⟩ W' (by rw [wd_size]; have := KS.out; omega))
      have hx : (⟨x.toArray⟩ : ByteArray).data.toList = x := rfl
      have hx1 : (⟨#[60]⟩ : ByteArray).data.toList = [60] := rfl
      have hx2 : (⟨#[62]⟩ : ByteArray).data.toList = [62] := rfl
      rw [hx, hx1] at KP
      rw [hx, hx2] at KQ
      have ht := isTab_pre x
      generalize Lib.hasPrefix x [60] = p1 at KP ht
      generalize Lib.hasSuffix x [62] = p2 at KQ ht
      clear hx hx1 hx2
      by_cases hpp : p1 = true ∧ p2 = true
      · obtain ⟨rfl, rfl⟩ := hpp
        have hl2 : 2 ≤ x.length := by
          have h := ht
          unfold isTab at h
          simp only [Bool.and_eq_true, decide_eq_true_eq, Bool.and_self] at h
          exact h.1.1
        have hw : whoF x w1 = ({ table := inner x, high := 65535 }, w1.orBad (inner x).isEmpty) := by unfold whoF; rw [if_neg h1, if_pos (by rw [ht]; rfl)]
        have HW := Lib.hid hw
        clear hw
        have HI := Lib.hid (inner_ext x ht)
        clear h1 ht
        have hi := HI.out
        have hxl := KS.out
        cases hbad : w1.bad <;> cases hem : (inner x).isEmpty
        all_goals
          have HBAD := Lib.hid hbad
          have HEM := Lib.hid hem
          rw [hbad] at c1
          clear hbad
          go_wp2_with (first
            | (go_at_call 155; refine (KP.out _).mono ?_; rintro e W3 ⟨rfl, rfl⟩)
            | (go_at_call 156; refine (KQ.out _).mono ?_; rintro e W3 ⟨rfl, rfl⟩))
          go_meet
          case rel =>
            rw [HW.out, orBad_eq, HBAD.out, HEM.out]
            exact (HS1.out.put (k := 1) (s' := { table := inner x, high := 65535 }) hlt hG rfl).bad hlt hG _
      have hpq : p1 = false ∨ (p1 = true ∧ p2 = false) := by cases p1 <;> cases p2 <;> simp at hpp ⊢
      have hpf : (p1 && p2) = false := by cases p1 <;> cases p2 <;> simp at hpp ⊢
      rw [hpf] at ht
      clear hpp hpf
      rcases hpq with rfl | ⟨rfl, rfl⟩
      all_goals
        have hw : whoF x w1 = ({ pfx := pfxOf (prefL x), high := 65535 }, w1.orBad (prefL x).isNone) := by unfold whoF; rw [if_neg h1, if_neg (by rw [ht]; simp)]
        have HW := Lib.hid hw
        clear hw
        clear h1 ht
        have KF := Lib.hid (fun W' hl => pref_two x KS.out W' hl)
        generalize pfxOf (prefL x) = px at KF HW
        generalize (prefL x).isNone = no at KF HW
        cases no <;> cases hbad : w1.bad
        all_goals
          have HBAD := Lib.hid hbad
          rw [hbad] at c1
          clear hbad
          go_wp2_with (first
            | (go_at_call 155; refine (KP.out _).mono ?_; rintro e W3 ⟨rfl, rfl⟩)
            | (go_at_call 156; refine (KQ.out _).mono ?_; rintro e W3 ⟨rfl, rfl⟩)
            | (go_at_call 103; refine (KF.out _ HS1.out.lib).mono ?_; rintro e W2 ⟨rfl, hb⟩; have HS2 := Lib.hid (HS1.out.below hb); clear hb; clear c1 f1 a0 a1 a2 a3 a4 a5 b0 b1 b2 b3 b4 b5; obtain ⟨⟨c1, f1⟩, ⟨a0, a1, a2, a3, a4, a5⟩, b0, b1, b2, b3, b4, b5⟩ := HS2.out.facts; rw [HBAD.out] at c1))
          clear KN KP KQ KF c1 f1 a0 a1 a2 a3 a4 a5 b0 b1 b2 b3 b4 b5
          have HS3 := Lib.hid (HS2.out.below (bnew W2 (.cells #[.int .u32 (px.addr : Nat), .int .i64 px.len] 43)))
          obtain ⟨⟨c1, f1⟩, ⟨a0, a1, a2, a3, a4, a5⟩, b0, b1, b2, b3, b4, b5⟩ := HS3.out.facts
          obtain ⟨p0, p1, p2, p3⟩ := box2 (heap_alloc_new W2 (.cells #[.int .u32 (px.addr : Nat), .int .i64 px.len] 43))
          have hk := HS2.out.big
          rw [HBAD.out] at c1
          clear HS2
          generalize (W2.alloc (.cells #[.int .u32 (px.addr : Nat), .int .i64 px.len] 43)) = W3 at *
          generalize W2.heap.size = k at *
          have d1 : k ≠ g := by omega
          have d2 : k ≠ W.heap.size + 1 := by omega
          have d3 : g ≠ W.heap.size + 1 := by omega
          have d4 : g ≠ k := by omega
          go_region
          all_goals (go_wp2_with fail; go_meet)
          case rel =>
            rw [HW.out, orBad_eq, HBAD.out]
            exact (((HS3.out.put (k := 2) (s' := { pfx := ⟨px.addr, 0⟩, high := 65535 }) hlt hG rfl).put (k := 3) (s' := { pfx := px, high := 65535 }) hlt hG rfl).bad hlt hG _).draw 1
  case rest =>
    have hS := hcut
    generalize hq : whoF x w1 = q at hS
    have HQ := Lib.hid hq
    obtain ⟨s1, v1⟩ := q
    dsimp only at hS
    have HS2 := Lib.hid hS
    clear hS hcut hq HS1 HS0 KN KS
    have KT := Lib.hid (fun W' hr => takes_any g v1 #[112, 111, 114, 116] W' hr)
    have hwp : (#[112, 111, 114, 116] : Array UInt8).toList = wPort := rfl
    rw [hwp] at KT
    have HP := Lib.hid (portsP_eq s1 v1)
    generalize takesP v1 wPort = tk at KT HP
    obtain ⟨tb, v2⟩ := tk
    dsimp only at KT HP
    cases tb with
    | false =>
      have hP : portsP s1 v1 = (s1, v2) := HP.out
      have HPF := Lib.hid hP
      clear hP
      go_wp2_with (go_at_call 107; refine (KT.out _ HS2.out.rd).mono ?_; rintro e W3 ⟨rfl, hr1, hu1⟩; have HS3 := Lib.hid (HS2.out.call hlt hG hr1 hu1); clear hr1 hu1; obtain ⟨⟨c1, f1⟩, ⟨a0, a1, a2, a3, a4, a5⟩, b0, b1, b2, b3, b4, b5⟩ := HS3.out.facts; obtain ⟨r0, r1, r2, r3, r4, r5, e0, e1, e2, e3, e4, e5⟩ := box6 HS3.out.res)
      obtain ⟨g1, g2, g3⟩ := side_done HS3.out hlt hG (v0 := _) (v1 := _) (v2 := _) (v3 := _) (v4 := _) (v5 := _) rfl
      exact box_ret1 g1 rfl rfl Tryz.underlying71 (by kernel_rfl) rfl ⟨by rw [HQ.out, HPF.out], by rw [HQ.out, HPF.out]; exact g2, g3⟩
    | true =>
      have KN := Lib.hid (fun W' hr => next_any g v2 W' hr)
      have KS := Lib.hid (fun W' (hr : Rd 150 W' g v2) => nextF_short hr)
      generalize nextF v2 = n at KN KS HP
      obtain ⟨y, v3⟩ := n
      dsimp only at KN KS HP
      have KC := Lib.hid (fun W' hs hl => cut_two y 58 hs W' hl)
      have KL := Lib.hid (cut_short y 58)
      generalize Lib.cut y [58] = c at KC KL HP
      obtain ⟨x1, x2, ok⟩ := c
      dsimp only at KC KL HP
      have KM := Lib.hid (fun W' hs hr => number_any g v3 ⟨x1.toArray⟩ hs W' hr)
      have hx1 : (⟨x1.toArray⟩ : ByteArray).data.toList = x1 := rfl
      rw [hx1] at KM
      generalize numP v3 x1 = m at KM HP
      obtain ⟨lo, v4⟩ := m
      dsimp only at KM HP
      have KM2 := Lib.hid (fun W' hs hr => number_any g v4 ⟨x2.toArray⟩ hs W' hr)
      have hx2 : (⟨x2.toArray⟩ : ByteArray).data.toList = x2 := rfl
      rw [hx2] at KM2
      generalize numP v4 x2 = m2 at KM2 HP
      obtain ⟨hi, v5⟩ := m2
      dsimp only at KM2 HP
      clear hx1 hx2 hwp
      cases ok with
      | false =>
        have hP : portsP s1 v1 = ({ s1 with low := lo, high := lo }, v4) := HP.out
        have HPF := Lib.hid hP
        clear hP
        go_wp2_with (first
          | (go_at_call 107; refine (KT.out _ HS2.out.rd).mono ?_; rintro e W3 ⟨rfl, hr1, hu1⟩; have HS3 := Lib.hid (HS2.out.call hlt hG hr1 hu1); clear hr1 hu1)
          | (go_at_call 108; refine (KN.out _ HS3.out.rd).mono ?_; rintro e W4 ⟨rfl, hr1, hu1⟩; have KS4 := Lib.hid (KS.out _ HS3.out.rd); have HS4 := Lib.hid (HS3.out.call hlt hG hr1 hu1); clear hr1 hu1)
          | (go_at_call 145; refine (KC.out _ KS4.out HS4.out.lib).mono ?_; rintro e W5 ⟨rfl, nd, rfl⟩; have HS5 := Lib.hid (HS4.out.draw nd))
          | (go_at_call 113; refine (KM.out _ (by rw [wd_size]; have h1 := KL.out; have h2 := KS4.out; omega) HS5.out.rd).mono ?_; rintro e W6 ⟨rfl, hr1, hu1⟩; have HS6 := Lib.hid (HS5.out.call hlt hG hr1 hu1); clear hr1 hu1; obtain ⟨⟨c1, f1⟩, ⟨a0, a1, a2, a3, a4, a5⟩, b0, b1, b2, b3, b4, b5⟩ := HS6.out.facts; obtain ⟨r0, r1, r2, r3, r4, r5, e0, e1, e2, e3, e4, e5⟩ := box6 HS6.out.res))
        have HS7 := (HS6.out.put (k := 4) (s' := { s1 with low := lo }) hlt hG rfl).put (k := 5) (s' := { s1 with low := lo, high := lo }) hlt hG rfl
        obtain ⟨g1, g2, g3⟩ := side_done HS7 hlt hG (v0 := _) (v1 := _) (v2 := _) (v3 := _) (v4 := _) (v5 := _) rfl
        exact box_ret1 g1 rfl rfl Tryz.underlying71 (by kernel_rfl) rfl ⟨by rw [HQ.out, HPF.out], by rw [HQ.out, HPF.out]; exact g2, g3⟩
      | true =>
        have hP : portsP s1 v1 = ({ s1 with low := lo, high := hi }, v5.orBad (hi == lo)) := HP.out
        have HPF := Lib.hid hP
        clear hP
        have hdec : ∃ b : Bool, v5.bad = b := ⟨_, rfl⟩
        cases hbad : v5.bad <;> cases heq : (hi == lo)
        all_goals
          have HBAD := Lib.hid hbad
          have HEQ := Lib.hid heq
          clear hbad
          go_wp2_with fail
          refine (KT.out _ HS2.out.rd).mono ?_; rintro e W3 ⟨rfl, hr1, hu1⟩; have HS3 := Lib.hid (HS2.out.call hlt hG hr1 hu1); clear hr1 hu1
          go_wp2_with fail
          refine (KN.out _ HS3.out.rd).mono ?_; rintro e W4 ⟨rfl, hr1, hu1⟩; have KS4 := Lib.hid (KS.out _ HS3.out.rd); have HS4 := Lib.hid (HS3.out.call hlt hG hr1 hu1); clear hr1 hu1
          go_wp2_with fail
          refine (KC.out _ KS4.out HS4.out.lib).mono ?_; rintro e W5 ⟨rfl, nd, rfl⟩; have HS5 := Lib.hid (HS4.out.draw nd)
          go_wp2_with fail
          refine (KM.out _ (by rw [wd_size]; have h1 := KL.out; have h2 := KS4.out; omega) HS5.out.rd).mono ?_; rintro e W6 ⟨rfl, hr1, hu1⟩; have HS6 := Lib.hid (HS5.out.call hlt hG hr1 hu1); clear hr1 hu1; obtain ⟨⟨c1, f1⟩, ⟨a0, a1, a2, a3, a4, a5⟩, b0, b1, b2, b3, b4, b5⟩ := HS6.out.facts
          go_wp2_with fail
          have HS7 := Lib.hid ((HS6.out.put (k := 4) (s' := { s1 with low := lo }) hlt hG rfl).put (k := 5) (s' := { s1 with low := lo, high := lo }) hlt hG rfl)
          clear c1 f1 a0 a1 a2 a3 a4 a5 b0 b1 b2 b3 b4 b5
          refine (KM2.out _ (by rw [wd_size]; have h1 := KL.out; have h2 := KS4.out; omega) HS7.out.rd).mono ?_; rintro e W8 ⟨rfl, hr1, hu1⟩; have HS8 := Lib.hid (HS7.out.call hlt hG hr1 hu1); clear hr1 hu1; obtain ⟨⟨c1, f1⟩, ⟨a0, a1, a2, a3, a4, a5⟩, b0, b1, b2, b3, b4, b5⟩ := HS8.out.facts; obtain ⟨r0, r1, r2, r3, r4, r5, e0, e1, e2, e3, e4, e5⟩ := box6 HS8.out.res; rw [HBAD.out] at c1
          go_wp2_with fail
          have HS9 := (HS8.out.put (k := 5) (s' := { s1 with low := lo, high := hi }) hlt hG rfl).bad hlt hG (v5.bad || (hi == lo))
          rw [HBAD.out, HEQ.out] at HS9
          obtain ⟨g1, g2, g3⟩ := side_done HS9 hlt hG (v0 := _) (v1 := _) (v2 := _) (v3 := _) (v4 := _) (v5 := _) rfl
          exact box_ret1 g1 rfl rfl Tryz.underlying71 (by kernel_rfl) rfl ⟨by rw [HQ.out, HPF.out], by rw [HQ.out, HPF.out, orBad_eq, HBAD.out, HEQ.out]; exact g2, g3⟩
end Go.Proofs.YtnmbbnhgoedjgaaGreatDoor.RuB

namespace Go.Proofs.YtnmbbnhgoedjgaaGreatDoor.RuC
open Go Go.RowKit Go.Proofs.YtnmbbnhgoedjgaaGreatDoor.Ad0 Go.Proofs.YtnmbbnhgoedjgaaGreatDoor.Ad1 Go.Proofs.YtnmbbnhgoedjgaaGreatDoor.St0 Go.Proofs.YtnmbbnhgoedjgaaGreatDoor.St2 Go.Proofs.YtnmbbnhgoedjgaaGreatDoor.St3 Go.Proofs.YtnmbbnhgoedjgaaGreatDoor.Ru0 Go.Proofs.YtnmbbnhgoedjgaaGreatDoor.Ru1 Go.Proofs.YtnmbbnhgoedjgaaGreatDoor.Ru6 Go.Proofs.YtnmbbnhgoedjgaaGreatDoor.Ru7 Go.Proofs.YtnmbbnhgoedjgaaGreatDoor.Ru9 Go.Proofs.YtnmbbnhgoedjgaaGreatDoor.RuB
set_option linter.unusedVariables false
set_option linter.unusedSimpArgs false
/-- A rule's cells. -/
def ruleC (r : RuleM) : Array Value := #[.bool r.pass, .bool r.ret, .bool r.quick, .string ⟨r.on.toArray⟩, .int .i64 r.proto,
  .bool r.frm.any, .string ⟨r.frm.table.toArray⟩, .int .u32 (r.frm.pfx.addr : Nat), .int .i64 r.frm.pfx.len, .int .i64 r.frm.low, .int .i64 r.frm.high,
  .bool r.dst.any, .string ⟨r.dst.table.toArray⟩, .int .u32 (r.dst.pfx.addr : Nat), .int .i64 r.dst.pfx.len, .int .i64 r.dst.low, .int .i64 r.dst.high,
  .int .i64 r.set, .int .i64 r.mask, .int .i64 r.typ, .bool r.keep, .bool r.routeTo.on, .string ⟨r.routeTo.iface.toArray⟩, .int .u32 (r.routeTo.gate : Nat), .bool r.replyTo.on, .string ⟨r.replyTo.iface.toArray⟩, .int .u32 (r.replyTo.gate : Nat), .int .i64 r.table]
/-- While a rule is read: the reader, the rule so far; what lay before is as it was. -/
structure PSt (W0 : World) (g gr : Nat) (r : RuleM) (ws : Ws) (W : World) : Prop where
  rd : Rd 150 W g ws
  row : W.heap[gr]? = some (.cells (ruleC r) 75 (0, 0))
  low : Below g W0 W
  lib : LibOK W
  hg : g < gr
  G : LibLow g
theorem PSt.call {W0 W W3 : World} {g gr : Nat} {r : RuleM} {ws ws' : Ws} (h : PSt W0 g gr r ws W) (hr : Rd 150 W3 g ws') (hu : Upto g W W3) : PSt W0 g gr r ws' W3 :=
  ⟨hr, hu.row h.row (Nat.ne_of_gt h.hg), h.low.trans (hu.low (Nat.le_of_lt h.rd.lt)), lib_upto h.lib hu h.G (Nat.le_of_lt h.rd.lt), h.hg, h.G⟩
theorem PSt.below {W0 W W3 : World} {g gr : Nat} {r : RuleM} {ws : Ws} (h : PSt W0 g gr r ws W) (hb : Below W.heap.size W W3) : PSt W0 g gr r ws W3 :=
  h.call (h.rd.below hb) (Upto.of_below hb)
theorem PSt.draw {W0 W : World} {g gr : Nat} {r : RuleM} {ws : Ws} (h : PSt W0 g gr r ws W) (n : Nat) : PSt W0 g gr r ws (W.drewN n) := h.below (bdrewN (Below.refl _ _) n)
theorem PSt.bad {W0 W : World} {g gr : Nat} {r : RuleM} {ws : Ws} (h : PSt W0 g gr r ws W) (b : Bool) : PSt W0 g gr r ⟨ws.l, b⟩ (W.setCell ⟨g, 1, none⟩ (.bool b)) := h.call (h.rd.bad b) (Upto.refl _ _).set
theorem PSt.put {W0 W : World} {g gr k : Nat} {r r' : RuleM} {ws : Ws} {v : Value} (h : PSt W0 g gr r ws W) (he : (ruleC r).setIfInBounds k v = ruleC r') : PSt W0 g gr r' ws (W.setCell ⟨gr, k, none⟩ v) :=
  ⟨h.rd.above (set_b (Below.refl _ _) h.hg), by rw [← he]; exact set_at h.row, set_b h.low (Nat.le_of_lt h.hg), lib_low h.lib (set_b (Below.refl _ _) (Nat.le_of_lt h.hg)) h.G, h.hg, h.G⟩
theorem PSt.cell {W0 W : World} {g gr : Nat} {r : RuleM} {ws : Ws} (h : PSt W0 g gr r ws W) (k : Nat) : W.cell? ⟨gr, k, none⟩ = (ruleC r)[k]? := cell_of_row _ _ _ _ _ _ h.row
theorem PSt.free {W0 W : World} {g gr : Nat} {r : RuleM} {ws : Ws} (h : PSt W0 g gr r ws W) (k : Nat) : W.frozen? ⟨gr, k, none⟩ = false := frozen_of_row _ _ _ _ _ h.row
def lookF (r : RuleM) (w : Ws) : RuleM × Ws := ({ r with set := (flagsP w).1.1, mask := (flagsP w).1.2, typ := (typeP (flagsP w).2).1 }, (typeP (flagsP w).2).2)
theorem flagsP_eq (w : Ws) : flagsP w = (if (takesP w wFlags).1 then ((((bitsF (nextF (takesP w wFlags).2).2 (Lib.cut (nextF (takesP w wFlags).2).1 [47]).1)).1, (bitsF (bitsF (nextF (takesP w wFlags).2).2 (Lib.cut (nextF (takesP w wFlags).2).1 [47]).1).2 (Lib.cut (nextF (takesP w wFlags).2).1 [47]).2.1).1),
  (bitsF (bitsF (nextF (takesP w wFlags).2).2 (Lib.cut (nextF (takesP w wFlags).2).1 [47]).1).2 (Lib.cut (nextF (takesP w wFlags).2).1 [47]).2.1).2.orBad ((bitsF (bitsF (nextF (takesP w wFlags).2).2 (Lib.cut (nextF (takesP w wFlags).2).1 [47]).1).2 (Lib.cut (nextF (takesP w wFlags).2).1 [47]).2.1).1 == 0)) else ((0, 0), (takesP w wFlags).2)) := rfl
theorem typeP_eq (w : Ws) : typeP w = (if (takesP w wType).1 then numP (nextF (takesP w wType).2).2 (nextF (takesP w wType).2).1 else (-1, (takesP w wType).2)) := rfl
set_option maxHeartbeats 2000000 in
theorem look_any (W0 : World) (g gr : Nat) (r : RuleM) (ws : Ws) (W : World) (h : PSt W0 g gr r ws W) (h0 : r.set = 0) (h1 : r.mask = 0) :
    Calls Tryz.prog 111 #[.pointer (some ⟨g, 0, none⟩), .pointer (some ⟨gr, 0, none⟩)] W fun e w' => e = .returned (.tuple #[]) ∧ PSt W0 g gr (lookF r ws).1 (lookF r ws).2 w' := by
  have HS0 := Lib.hid h
  have KT := Lib.hid (fun W' hr => takes_any g ws #[102, 108, 97, 103, 115] W' hr)
  have hw : (#[102, 108, 97, 103, 115] : Array UInt8).toList = wFlags := rfl
  rw [hw] at KT
  have HF := Lib.hid (flagsP_eq ws)
  have hne := Nat.ne_of_gt h.hg
  have hne2 := Nat.ne_of_lt h.hg
  have c19 := h.cell 19
  have f19 := h.free 19
  have e19 : (ruleC r)[19]? = some (.int .i64 r.typ) := rfl
  rw [e19] at c19
  clear h e19 hw
  generalize takesP ws wFlags = tk at KT HF
  obtain ⟨tb, w1⟩ := tk
  dsimp only at KT HF
  go_enter Tryz.func111, Tryz.ntmps111
  go_wp2_with fail
  have HS1 := Lib.hid (HS0.out.put (k := 19) (r' := { r with typ := -1 }) rfl)
  clear c19 f19
  refine (KT.out _ HS1.out.rd).mono ?_
  rintro e W1 ⟨rfl, hr1, hu1⟩
  have HS2 := Lib.hid (HS1.out.call hr1 hu1)
  clear hr1 hu1
  go_upto_if 11 with fail
  go_cut [] (fun wc => PSt W0 g gr { r with set := (flagsP ws).1.1, mask := (flagsP ws).1.2, typ := -1 } (flagsP ws).2 wc)
  case first =>
    cases tb with
    | false =>
      have hF : flagsP ws = ((0, 0), w1) := HF.out
      have HFF := Lib.hid hF
      clear hF
      go_wp2_with fail
      go_meet
      case rel =>
        rw [HFF.out]
        have hh := HS2.out
        rw [show ({ r with set := 0, mask := 0, typ := -1 } : RuleM) = { r with typ := -1 } from by cases r; simp only at h0 h1; subst h0; subst h1; rfl]
        exact hh
    | true =>
      have KN := Lib.hid (fun W' hr => next_any g w1 W' hr)
      have KS := Lib.hid (fun W' (hr : Rd 150 W' g w1) => nextF_short hr)
      generalize nextF w1 = n at KN KS HF
      obtain ⟨y, w2⟩ := n
      dsimp only at KN KS HF
      have KC := Lib.hid (fun W' hs hl => cut_two y 47 hs W' hl)
      generalize Lib.cut y [47] = c at KC HF
      obtain ⟨x1, x2, ok⟩ := c
      dsimp only at KC HF
      have KM := Lib.hid (fun W' hr => bits_any g w2 ⟨x1.toArray⟩ W' hr)
      have hx1 : (⟨x1.toArray⟩ : ByteArray).data.toList = x1 := rfl
      rw [hx1] at KM
      generalize bitsF w2 x1 = m at KM HF
      obtain ⟨a, w3⟩ := m
      dsimp only at KM HF
      have KM2 := Lib.hid (fun W' hr => bits_any g w3 ⟨x2.toArray⟩ W' hr)
      have hx2 : (⟨x2.toArray⟩ : ByteArray).data.toList = x2 := rfl
      rw [hx2] at KM2
      generalize bitsF w3 x2 = m2 at KM2 HF
      obtain ⟨b, w4⟩ := m2
      dsimp only at KM2 HF
      clear hx1 hx2
      have hF : flagsP ws = ((a, b), w4.orBad (b == 0)) := HF.out
      have HFF := Lib.hid hF
      clear hF HF
      cases hbad : w4.bad <;> cases hz : (b == 0)
      all_goals
        have HBAD := Lib.hid hbad
        have HZ := Lib.hid hz
        clear hbad
        go_wp2_with fail
        refine (KN.out _ HS2.out.rd).mono ?_; rintro e W3 ⟨rfl, hr1, hu1⟩; have KS3 := Lib.hid (KS.out _ HS2.out.rd); have HS3 := Lib.hid (HS2.out.call hr1 hu1); clear hr1 hu1
        go_wp2_with fail
        refine (KC.out _ KS3.out HS3.out.lib).mono ?_; rintro e W4 ⟨rfl, nd, rfl⟩; have HS4 := Lib.hid (HS3.out.draw nd)
        go_wp2_with fail
        refine (KM.out _ HS4.out.rd).mono ?_; rintro e W5 ⟨rfl, hr1, hu1⟩; have HS5 := Lib.hid (HS4.out.call hr1 hu1); clear hr1 hu1
        go_wp2_with fail
        refine (KM2.out _ HS5.out.rd).mono ?_; rintro e W6 ⟨rfl, hr1, hu1⟩; have HS6 := Lib.hid (HS5.out.call hr1 hu1); clear hr1 hu1
        have c17 : W6.cell? ⟨gr, 17, none⟩ = some (.int .i64 r.set) := HS6.out.cell 17
        have c18 : W6.cell? ⟨gr, 18, none⟩ = some (.int .i64 r.mask) := HS6.out.cell 18
        have f17 := HS6.out.free 17
        have f18 := HS6.out.free 18
        obtain ⟨c1, f1⟩ := HS6.out.rd.cells
        rw [HBAD.out] at c1
        go_wp2_with fail
        go_meet
        case rel =>
          rw [HFF.out, orBad_eq, HBAD.out, HZ.out]
          exact ((HS6.out.put (k := 17) (r' := { r with typ := -1, set := a }) rfl).put (k := 18) (r' := { r with typ := -1, set := a, mask := b }) rfl).bad _
  case rest =>
    have HS3 := Lib.hid hcut
    clear hcut HS2 HS1 HS0 HF KT
    have hL : lookF r ws = ({ r with set := (flagsP ws).1.1, mask := (flagsP ws).1.2, typ := (typeP (flagsP ws).2).1 }, (typeP (flagsP ws).2).2) := rfl
    have HL := Lib.hid hL
    clear hL
    generalize flagsP ws = fl at HS3 HL
    obtain ⟨⟨a, b⟩, w5⟩ := fl
    dsimp only at HS3 HL
    have HT := Lib.hid (typeP_eq w5)
    have KT := Lib.hid (fun W' hr => takes_any g w5 #[116, 121, 112, 101] W' hr)
    have hw : (#[116, 121, 112, 101] : Array UInt8).toList = wType := rfl
    rw [hw] at KT
    clear hw
    generalize takesP w5 wType = tk at KT HT
    obtain ⟨tb, w6⟩ := tk
    dsimp only at KT HT
    cases tb with
    | false =>
      have hT : typeP w5 = (-1, w6) := HT.out
      have HTT := Lib.hid hT
      clear hT
      go_wp2_with fail
      refine (KT.out _ HS3.out.rd).mono ?_; rintro e W7 ⟨rfl, hr1, hu1⟩; have HS4 := Lib.hid (HS3.out.call hr1 hu1); clear hr1 hu1
      go_wp2_with fail
      refine bodyPost_end (results_none rfl _ _ _) rfl ?_
      exact ⟨rfl, by rw [HL.out, HTT.out]; exact HS4.out⟩
    | true =>
      have KN := Lib.hid (fun W' hr => next_any g w6 W' hr)
      have KS := Lib.hid (fun W' (hr : Rd 150 W' g w6) => nextF_short hr)
      generalize nextF w6 = n at KN KS HT
      obtain ⟨y, w7⟩ := n
      dsimp only at KN KS HT
      have KM := Lib.hid (fun W' hs hr => number_any g w7 ⟨y.toArray⟩ hs W' hr)
      have hx1 : (⟨y.toArray⟩ : ByteArray).data.toList = y := rfl
      rw [hx1] at KM
      generalize numP w7 y = m at KM HT
      obtain ⟨v, w8⟩ := m
      dsimp only at KM HT
      have hT : typeP w5 = (v, w8) := HT.out
      have HTT := Lib.hid hT
      clear hT hx1
      go_wp2_with fail
      refine (KT.out _ HS3.out.rd).mono ?_; rintro e W7 ⟨rfl, hr1, hu1⟩; have HS4 := Lib.hid (HS3.out.call hr1 hu1); clear hr1 hu1
      go_wp2_with fail
      refine (KN.out _ HS4.out.rd).mono ?_; rintro e W8 ⟨rfl, hr1, hu1⟩; have KS4 := Lib.hid (KS.out _ HS4.out.rd); have HS5 := Lib.hid (HS4.out.call hr1 hu1); clear hr1 hu1
      go_wp2_with fail
      refine (KM.out _ (by rw [wd_size]; have := KS4.out; omega) HS5.out.rd).mono ?_; rintro e W9 ⟨rfl, hr1, hu1⟩; have HS6 := Lib.hid (HS5.out.call hr1 hu1); clear hr1 hu1
      have c19 : W9.cell? ⟨gr, 19, none⟩ = some (.int .i64 (-1)) := HS6.out.cell 19
      have f19 := HS6.out.free 19
      go_wp2_with fail
      refine bodyPost_end (results_none rfl _ _ _) rfl ?_
      exact ⟨rfl, by rw [HL.out, HTT.out]; exact HS6.out.put (k := 19) rfl⟩
end Go.Proofs.YtnmbbnhgoedjgaaGreatDoor.RuC
/- A rule by value: its cells; rule.Name, isPin, isSide, isPass, isLook and Is. -/
namespace Go.Proofs.YtnmbbnhgoedjgaaGreatDoor.RuD
open Go Go.RowKit Go.Proofs.YtnmbbnhgoedjgaaGreatDoor.Ad0 Go.Proofs.YtnmbbnhgoedjgaaGreatDoor.Ad1 Go.Proofs.YtnmbbnhgoedjgaaGreatDoor.St0 Go.Proofs.YtnmbbnhgoedjgaaGreatDoor.St2 Go.Proofs.YtnmbbnhgoedjgaaGreatDoor.St3 Go.Proofs.YtnmbbnhgoedjgaaGreatDoor.Ru0 Go.Proofs.YtnmbbnhgoedjgaaGreatDoor.Ru1 Go.Proofs.YtnmbbnhgoedjgaaGreatDoor.Ru6 Go.Proofs.YtnmbbnhgoedjgaaGreatDoor.Ru7 Go.Proofs.YtnmbbnhgoedjgaaGreatDoor.Ru9 Go.Proofs.YtnmbbnhgoedjgaaGreatDoor.RuB Go.Proofs.YtnmbbnhgoedjgaaGreatDoor.RuC
set_option linter.unusedVariables false
set_option linter.unusedSimpArgs false
theorem rc0 (r : RuleM) : (ruleC r)[0]? = some (.bool r.pass) := rfl
theorem rc1 (r : RuleM) : (ruleC r)[1]? = some (.bool r.ret) := rfl
theorem rc2 (r : RuleM) : (ruleC r)[2]? = some (.bool r.quick) := rfl
theorem rc3 (r : RuleM) : (ruleC r)[3]? = some (.string ⟨r.on.toArray⟩) := rfl
theorem rc4 (r : RuleM) : (ruleC r)[4]? = some (.int .i64 r.proto) := rfl
theorem rc5 (r : RuleM) : (ruleC r)[5]? = some (.bool r.frm.any) := rfl
theorem rc6 (r : RuleM) : (ruleC r)[6]? = some (.string ⟨r.frm.table.toArray⟩) := rfl
theorem rc7 (r : RuleM) : (ruleC r)[7]? = some (.int .u32 (r.frm.pfx.addr : Nat)) := rfl
theorem rc8 (r : RuleM) : (ruleC r)[8]? = some (.int .i64 r.frm.pfx.len) := rfl
theorem rc9 (r : RuleM) : (ruleC r)[9]? = some (.int .i64 r.frm.low) := rfl
theorem rc10 (r : RuleM) : (ruleC r)[10]? = some (.int .i64 r.frm.high) := rfl
theorem rc11 (r : RuleM) : (ruleC r)[11]? = some (.bool r.dst.any) := rfl
theorem rc12 (r : RuleM) : (ruleC r)[12]? = some (.string ⟨r.dst.table.toArray⟩) := rfl
theorem rc13 (r : RuleM) : (ruleC r)[13]? = some (.int .u32 (r.dst.pfx.addr : Nat)) := rfl
theorem rc14 (r : RuleM) : (ruleC r)[14]? = some (.int .i64 r.dst.pfx.len) := rfl
theorem rc15 (r : RuleM) : (ruleC r)[15]? = some (.int .i64 r.dst.low) := rfl
theorem rc16 (r : RuleM) : (ruleC r)[16]? = some (.int .i64 r.dst.high) := rfl
theorem rc17 (r : RuleM) : (ruleC r)[17]? = some (.int .i64 r.set) := rfl
theorem rc18 (r : RuleM) : (ruleC r)[18]? = some (.int .i64 r.mask) := rfl
theorem rc19 (r : RuleM) : (ruleC r)[19]? = some (.int .i64 r.typ) := rfl
theorem rc20 (r : RuleM) : (ruleC r)[20]? = some (.bool r.keep) := rfl
theorem rc21 (r : RuleM) : (ruleC r)[21]? = some (.bool r.routeTo.on) := rfl
theorem rc22 (r : RuleM) : (ruleC r)[22]? = some (.string ⟨r.routeTo.iface.toArray⟩) := rfl
theorem rc23 (r : RuleM) : (ruleC r)[23]? = some (.int .u32 (r.routeTo.gate : Nat)) := rfl
theorem rc24 (r : RuleM) : (ruleC r)[24]? = some (.bool r.replyTo.on) := rfl
theorem rc25 (r : RuleM) : (ruleC r)[25]? = some (.string ⟨r.replyTo.iface.toArray⟩) := rfl
theorem rc26 (r : RuleM) : (ruleC r)[26]? = some (.int .u32 (r.replyTo.gate : Nat)) := rfl
theorem rc27 (r : RuleM) : (ruleC r)[27]? = some (.int .i64 r.table) := rfl
def signs : Wd := [97, 98, 99, 100, 101, 102, 103, 104, 105, 106, 107, 108, 109, 110, 111, 112, 113, 114, 115, 116, 117, 118, 119, 120, 121, 122, 48, 49, 50, 51, 52, 53, 54, 55, 56, 57]
theorem signs_has (b : UInt8) : signs.contains b = isSign b := by
  have : ∀ n : Fin 256, signs.contains (UInt8.ofNat n.val) = isSign (UInt8.ofNat n.val) := by decide +kernel
  have h := this ⟨b.toNat, b.toNat_lt⟩
  simpa using h
theorem trim_signs (l : Wd) : (Lib.trimS l signs).isEmpty = l.all isSign := by
  have hf : (fun b => signs.contains b) = isSign := by funext b; exact signs_has b
  have key : Lib.trimS l signs = [] ↔ l.all isSign = true := by
    unfold Lib.trimS Lib.trimLeftS Lib.trimRightS
    simp only [hf]
    rw [dropWhile_nil]
    constructor
    · intro h
      have h1 : ∀ x ∈ l.reverse.dropWhile isSign, isSign x = true := fun x hx => (List.all_eq_true.1 h) x (by simpa using hx)
      have h2 : l.reverse.dropWhile isSign = [] := by
        cases hd : l.reverse.dropWhile isSign with
        | nil => rfl
        | cons b t =>
          have hb : isSign b = true := h1 b (by rw [hd]; simp)
          have := List.head_dropWhile_not (p := isSign) (l := l.reverse) (by rw [hd]; simp)
          simp [hd, hb] at this
      rw [dropWhile_nil] at h2
      simpa using h2
    · intro h
      have h2 : l.reverse.dropWhile isSign = [] := by rw [dropWhile_nil]; simpa using h
      rw [h2]; rfl
  rw [Bool.eq_iff_iff, List.isEmpty_iff]
  exact key
theorem trim_name (s : Wd) (w : World) (hs : s.length ≤ 9223372036854775807) :
    Calls Tryz.prog 105 #[.string ⟨s.toArray⟩, .string ⟨#[97, 98, 99, 100, 101, 102, 103, 104, 105, 106, 107, 108, 109, 110, 111, 112, 113, 114, 115, 116, 117, 118, 119, 120, 121, 122, 48, 49, 50, 51, 52, 53, 54, 55, 56, 57]⟩] w fun e w' => e = .returned (.string ⟨(Lib.trimS s signs).toArray⟩) ∧ Below w.heap.size w w' := by
  have h := Any.strings_Trim_laid Tryz.lays160 (by kernel_rfl) ⟨s.toArray⟩ ⟨#[97, 98, 99, 100, 101, 102, 103, 104, 105, 106, 107, 108, 109, 110, 111, 112, 113, 114, 115, 116, 117, 118, 119, 120, 121, 122, 48, 49, 50, 51, 52, 53, 54, 55, 56, 57]⟩ w (by rw [wd_size]; exact hs) (by decide) (ascii_of_all (by decide))
  exact h
theorem name_any (s : Wd) (hs : s.length ≤ 9223372036854775807) (w : World) :
    Calls Tryz.prog 63 #[.string ⟨s.toArray⟩] w fun e w' => e = .returned (.bool (nameL s)) ∧ Below w.heap.size w w' := by
  have HT := Lib.hid (trim_name s w hs)
  have HS := Lib.hid (trim_signs s)
  unfold nameL
  rw [← HS.out]
  generalize Lib.trimS s signs = tr at HT ⊢
  cases h0 : s.isEmpty with
  | true =>
    go_enter Tryz.func63, Tryz.ntmps63
    go_wp2_with fail
    go_ret
    exact ⟨rfl, Below.refl _ _⟩
  | false =>
    by_cases h8 : s.length ≤ 8
    · have hd : decide (s.length ≤ 8) = true := by simpa using h8
      rw [hd]
      clear hd
      cases h1 : tr.isEmpty
      all_goals
        go_enter Tryz.func63, Tryz.ntmps63
        go_wp2_with (go_at_call 105; refine HT.out.mono ?_; rintro e w1 ⟨rfl, hb1⟩)
        go_ret
        exact ⟨by simp [h1], hb1⟩
    · have hd : decide (s.length ≤ 8) = false := by simpa using h8
      rw [hd]
      go_enter Tryz.func63, Tryz.ntmps63
      go_wp2_with fail
      go_ret
      exact ⟨rfl, Below.refl _ _⟩
end Go.Proofs.YtnmbbnhgoedjgaaGreatDoor.RuD

namespace Go.Proofs.YtnmbbnhgoedjgaaGreatDoor.RuE
open Go Go.RowKit Go.Proofs.YtnmbbnhgoedjgaaGreatDoor.Ad0 Go.Proofs.YtnmbbnhgoedjgaaGreatDoor.Ad1 Go.Proofs.YtnmbbnhgoedjgaaGreatDoor.St1 Go.Proofs.YtnmbbnhgoedjgaaGreatDoor.Ru0 Go.Proofs.YtnmbbnhgoedjgaaGreatDoor.Ru6 Go.Proofs.YtnmbbnhgoedjgaaGreatDoor.RuB Go.Proofs.YtnmbbnhgoedjgaaGreatDoor.RuC Go.Proofs.YtnmbbnhgoedjgaaGreatDoor.RuD
set_option linter.unusedVariables false
set_option linter.unusedSimpArgs false
section
open Go.Proofs.YtnmbbnhgoedjgaaGreatDoor.Eq
def pinC (p : PinM) : Array Value := #[.bool p.on, .string ⟨p.iface.toArray⟩, .int .u32 (p.gate : Nat)]
theorem lst (x : Wd) : (⟨x.toArray⟩ : ByteArray).toList = x := by rw [toList_data]
theorem fb {d : Nat} {xs ys : Array Value} {f : Field} {fs : List Field} {a b : Bool} {s : Bool} {w : World} (hn : (f.name == "_") = false) (ht : f.type = 4) (ha : xs[f.offset]? = some (.bool a)) (hb : ys[f.offset]? = some (.bool b))
    (hr : (Op.eqFields (d + 1) xs ys fs).run Tryz.prog w = .ok s w) : (Op.eqFields (d + 1) xs ys (f :: fs)).run Tryz.prog w = .ok ((a == b) && s) w := by
  have hu : Tryz.prog.underlying f.type = some .bool := by rw [ht]; exact Tryz.underlying4
  exact eqf_cons hn (part_plain _ _ _ hu rfl ha w) (part_plain _ _ _ hu rfl hb w) (run_equalIn_bool w d _ _ _ hu) hr
theorem fs {d : Nat} {xs ys : Array Value} {f : Field} {fs : List Field} {a b : Wd} {s : Bool} {w : World} (hn : (f.name == "_") = false) (ht : f.type = 9) (ha : xs[f.offset]? = some (.string ⟨a.toArray⟩)) (hb : ys[f.offset]? = some (.string ⟨b.toArray⟩))
    (hr : (Op.eqFields (d + 1) xs ys fs).run Tryz.prog w = .ok s w) : (Op.eqFields (d + 1) xs ys (f :: fs)).run Tryz.prog w = .ok ((a == b) && s) w := by
  have hu : Tryz.prog.underlying f.type = some .string := by rw [ht]; exact Tryz.underlying9
  have h := run_equalIn_string w d f.type (⟨a.toArray⟩ : ByteArray) ⟨b.toArray⟩ hu
  rw [lst, lst] at h
  exact eqf_cons hn (part_plain _ _ _ hu rfl ha w) (part_plain _ _ _ hu rfl hb w) h hr
theorem fi {d : Nat} {xs ys : Array Value} {f : Field} {fs : List Field} {a b : Int} {s : Bool} {w : World} (hn : (f.name == "_") = false) (ht : f.type = 3) (ha : xs[f.offset]? = some (.int .i64 a)) (hb : ys[f.offset]? = some (.int .i64 b))
    (hr : (Op.eqFields (d + 1) xs ys fs).run Tryz.prog w = .ok s w) : (Op.eqFields (d + 1) xs ys (f :: fs)).run Tryz.prog w = .ok ((a == b) && s) w := by
  have hu : Tryz.prog.underlying f.type = some (.int .i64) := by rw [ht]; exact Tryz.underlying3
  exact eqf_cons hn (part_plain _ _ _ hu rfl ha w) (part_plain _ _ _ hu rfl hb w) (run_equalIn_int w d _ .i64 _ _ _ hu) hr
theorem fu {d : Nat} {xs ys : Array Value} {f : Field} {fs : List Field} {a b : Nat} {s : Bool} {w : World} (hn : (f.name == "_") = false) (ht : f.type = 41) (ha : xs[f.offset]? = some (.int .u32 (a : Nat))) (hb : ys[f.offset]? = some (.int .u32 (b : Nat)))
    (hr : (Op.eqFields (d + 1) xs ys fs).run Tryz.prog w = .ok s w) : (Op.eqFields (d + 1) xs ys (f :: fs)).run Tryz.prog w = .ok ((a == b) && s) w := by
  have hu : Tryz.prog.underlying f.type = some (.int .u32) := by rw [ht]; exact Tryz.underlying41
  have h := run_equalIn_int w d f.type .u32 .u32 (a : Int) (b : Int) hu
  have e : ((a : Int) == (b : Int)) = (a == b) := by rw [Bool.eq_iff_iff]; simp; omega
  rw [e] at h
  exact eqf_cons hn (part_plain _ _ _ hu rfl ha w) (part_plain _ _ _ hu rfl hb w) h hr
/-- A field that is a struct. -/
theorem fr {d : Nat} {xs ys : Array Value} {f : Field} {fs : List Field} {T n : Nat} {ff : Array Field} {a b : Array Value} {r s : Bool} {w : World} (hn : (f.name == "_") = false) (ht : f.type = T) (hu : Tryz.prog.underlying T = some (.struct ff)) (hi : (Tryz.prog.info? T).map (·.size) = some n) (ha : xs.extract f.offset (f.offset + n) = a) (hb : ys.extract f.offset (f.offset + n) = b)
    (he : (Op.equalIn d T (.agg a) (.agg b)).run Tryz.prog w = .ok r w) (hr : (Op.eqFields d xs ys fs).run Tryz.prog w = .ok s w) : (Op.eqFields d xs ys (f :: fs)).run Tryz.prog w = .ok (r && s) w := by
  subst ha hb ht
  exact eqf_cons hn (part_row _ _ _ hu rfl hi w) (part_row _ _ _ hu rfl hi w) he hr
theorem equalIn_pin (d : Nat) (p q : PinM) (W : World) : (Op.equalIn (d + 2) 73 (.agg (pinC p)) (.agg (pinC q))).run Tryz.prog W = .ok (decide (p = q)) W := by
  have e : decide (p = q) = ((p.on == q.on) && ((p.iface == q.iface) && ((p.gate == q.gate) && true))) := by
    obtain ⟨a, b, c⟩ := p
    obtain ⟨a', b', c'⟩ := q
    rw [Bool.eq_iff_iff]
    simp
  rw [e]
  exact eq_struct Tryz.underlying73 (by kernel_rfl) (fb (by rfl) rfl rfl rfl (fs (by rfl) rfl rfl rfl (fu (by rfl) rfl rfl rfl eqf_nil)))
theorem equalIn_ports (d : Nat) (a b a' b' : Int) (W : World) : (Op.equalIn (d + 2) 69 (.agg #[.int .i64 a, .int .i64 b]) (.agg #[.int .i64 a', .int .i64 b'])).run Tryz.prog W = .ok ((a == a') && ((b == b') && true)) W :=
  eq_struct Tryz.underlying69 (by kernel_rfl) (fi (by rfl) rfl rfl rfl (fi (by rfl) rfl rfl rfl eqf_nil))
theorem ex_pfx (p : SideM) : (sideC p).extract 2 (2 + 2) = #[.int .u32 (p.pfx.addr : Nat), .int .i64 p.pfx.len] := by
  unfold sideC; simp
theorem ex_ports (p : SideM) : (sideC p).extract 4 (4 + 2) = #[.int .i64 p.low, .int .i64 p.high] := by
  unfold sideC; simp
theorem ex_frm (p : RuleM) : (ruleC p).extract 5 (5 + 6) = sideC p.frm := by
  unfold ruleC sideC; simp
theorem ex_dst (p : RuleM) : (ruleC p).extract 11 (11 + 6) = sideC p.dst := by
  unfold ruleC sideC; simp
theorem ex_route (p : RuleM) : (ruleC p).extract 21 (21 + 3) = pinC p.routeTo := by
  unfold ruleC pinC; simp
theorem ex_reply (p : RuleM) : (ruleC p).extract 24 (24 + 3) = pinC p.replyTo := by
  unfold ruleC pinC; simp
theorem side_dec (p q : SideM) : decide (p = q) = ((p.any == q.any) && ((p.table == q.table) && (decide (p.pfx = q.pfx) && (((p.low == q.low) && ((p.high == q.high) && true)) && true)))) := by
  obtain ⟨a, b, c, e, f⟩ := p
  obtain ⟨a', b', c', e', f'⟩ := q
  rw [Bool.eq_iff_iff]
  simp
theorem rule_dec (p q : RuleM) : decide (p = q) = ((p.pass == q.pass) && ((p.ret == q.ret) && ((p.quick == q.quick) && ((p.on == q.on) && ((p.proto == q.proto) && (decide (p.frm = q.frm) && (decide (p.dst = q.dst) &&
      ((p.set == q.set) && ((p.mask == q.mask) && ((p.typ == q.typ) && ((p.keep == q.keep) && (decide (p.routeTo = q.routeTo) && (decide (p.replyTo = q.replyTo) && ((p.table == q.table) && true)))))))))))))) := by
  obtain ⟨a1, a2, a3, a4, a5, a6, a7, a8, a9, a10, a11, a12, a13, a14⟩ := p
  obtain ⟨b1, b2, b3, b4, b5, b6, b7, b8, b9, b10, b11, b12, b13, b14⟩ := q
  rw [Bool.eq_iff_iff]
  simp only [decide_eq_true_eq, RuleM.mk.injEq, Bool.and_eq_true, beq_iff_eq, and_true]
theorem equalIn_side (d : Nat) (p q : SideM) (W : World) : (Op.equalIn (d + 3) 71 (.agg (sideC p)) (.agg (sideC q))).run Tryz.prog W = .ok (decide (p = q)) W := by
  rw [side_dec]
  exact eq_struct Tryz.underlying71 (by kernel_rfl) (fb (by rfl) rfl rfl rfl (fs (by rfl) rfl rfl rfl (fr (by rfl) rfl Tryz.underlying43 (by kernel_rfl) (ex_pfx p) (ex_pfx q) (equalIn_pfx d p.pfx q.pfx W)
    (fr (by rfl) rfl Tryz.underlying69 (by kernel_rfl) (ex_ports p) (ex_ports q) (equalIn_ports d _ _ _ _ W) eqf_nil))))
set_option maxHeartbeats 1000000 in
theorem equalIn_rule (d : Nat) (p q : RuleM) (W : World) : (Op.equalIn (d + 4) 75 (.agg (ruleC p)) (.agg (ruleC q))).run Tryz.prog W = .ok (decide (p = q)) W := by
  rw [rule_dec]
  exact eq_struct Tryz.underlying75 (by kernel_rfl) (fb (by rfl) rfl (rc0 p) (rc0 q) (fb (by rfl) rfl (rc1 p) (rc1 q) (fb (by rfl) rfl (rc2 p) (rc2 q) (fs (by rfl) rfl (rc3 p) (rc3 q) (fi (by rfl) rfl (rc4 p) (rc4 q)
    (fr (by rfl) rfl Tryz.underlying71 (by kernel_rfl) (ex_frm p) (ex_frm q) (equalIn_side d p.frm q.frm W) (fr (by rfl) rfl Tryz.underlying71 (by kernel_rfl) (ex_dst p) (ex_dst q) (equalIn_side d p.dst q.dst W)
    (fi (by rfl) rfl (rc17 p) (rc17 q) (fi (by rfl) rfl (rc18 p) (rc18 q) (fi (by rfl) rfl (rc19 p) (rc19 q) (fb (by rfl) rfl (rc20 p) (rc20 q)
    (fr (by rfl) rfl Tryz.underlying73 (by kernel_rfl) (ex_route p) (ex_route q) (equalIn_pin (d + 1) p.routeTo q.routeTo W) (fr (by rfl) rfl Tryz.underlying73 (by kernel_rfl) (ex_reply p) (ex_reply q) (equalIn_pin (d + 1) p.replyTo q.replyTo W) (fi (by rfl) rfl (rc27 p) (rc27 q) eqf_nil))))))))))))))
theorem eql_rule (p q : RuleM) (W : World) : (binOp .eql 75 (.agg (ruleC p)) (.agg (ruleC q))).run Tryz.prog W = .ok (.bool (decide (p = q))) W := eql_struct (equalIn_rule 9996 p q W)
end
set_option maxHeartbeats 1000000 in
theorem isPin_any (p : PinM) (hs : p.iface.length ≤ 9223372036854775807) (w : World) :
    Calls Tryz.prog 95 #[.agg (pinC p)] w fun e w' => e = .returned (.bool (pinP p)) ∧ Below w.heap.size w w' := by
  have KN := Lib.hid (fun W => name_any p.iface hs W)
  obtain ⟨on, iface, gate⟩ := p
  unfold pinP pinC
  dsimp only at KN ⊢
  cases on
  all_goals
    cases hn : nameL iface
    all_goals
      rw [hn] at KN
      go_enter Tryz.func95, Tryz.ntmps95
      go_wp2_with (go_at_call 63; refine (KN.out _).mono ?_; rintro e w1 ⟨rfl, hb1⟩; have HB1 := Lib.hid (bstep (bnew w _) hb1 (bnew w _).size); obtain ⟨c1, f1⟩ := bcell hb1; clear hb1)
      all_goals go_ret
      all_goals first | exact ⟨by simp_all, bnew _ _⟩ | exact ⟨by simp_all, HB1.out⟩
end Go.Proofs.YtnmbbnhgoedjgaaGreatDoor.RuE

namespace Go.Proofs.YtnmbbnhgoedjgaaGreatDoor.RuF
open Go Go.RowKit Go.Proofs.YtnmbbnhgoedjgaaGreatDoor.Ad0 Go.Proofs.YtnmbbnhgoedjgaaGreatDoor.Ad1 Go.Proofs.YtnmbbnhgoedjgaaGreatDoor.St3 Go.Proofs.YtnmbbnhgoedjgaaGreatDoor.Ru0 Go.Proofs.YtnmbbnhgoedjgaaGreatDoor.Ru6 Go.Proofs.YtnmbbnhgoedjgaaGreatDoor.RuB Go.Proofs.YtnmbbnhgoedjgaaGreatDoor.RuC Go.Proofs.YtnmbbnhgoedjgaaGreatDoor.RuD
set_option linter.unusedVariables false
set_option linter.unusedSimpArgs false
theorem ported_any (p : Int) (w : World) : Calls Tryz.prog 138 #[.int .i64 p] w fun e w' => e = .returned (.bool (portedF p)) ∧ w' = w := by
  go_enter Tryz.func138, Tryz.ntmps138
  go_wp2
  all_goals go_ret
  all_goals exact ⟨by simp_all [portedF], rfl⟩
set_option maxHeartbeats 2000000 in
theorem isPass_any (r : RuleM) (w : World) :
    Calls Tryz.prog 92 #[.agg (ruleC r)] w fun e w' => e = .returned (.bool (passP r)) ∧ Below w.heap.size w w' := by
  have h0 := rc0 r
  have h20 := rc20 r
  have h21 := rc21 r
  have h24 := rc24 r
  have h27 := rc27 r
  unfold passP
  cases ha : r.pass <;> cases hb : r.keep <;> cases hc : r.routeTo.on <;> cases hd : r.replyTo.on
  all_goals
    rw [ha] at h0
    rw [hb] at h20
    rw [hc] at h21
    rw [hd] at h24
    clear ha hb hc hd
    go_enter Tryz.func92, Tryz.ntmps92
    go_wp2
    all_goals go_ret
    all_goals exact ⟨by simp_all, bnew _ _⟩
def flB (r : RuleM) : Bool := decide (0 ≤ r.mask) && decide (r.mask ≤ 63) && (bits .andNot .i64 r.set r.mask == 0) && (r.mask == 0 || r.proto == 6)
def tyB (r : RuleM) : Bool := decide (-1 ≤ r.typ) && decide (r.typ ≤ 255) && (r.typ == -1 || r.proto == 1)
theorem lookP_eq (r : RuleM) : lookP r = (decide (0 ≤ r.proto) && decide (r.proto ≤ 255) && flB r && tyB r) := rfl
set_option maxHeartbeats 2000000 in
theorem isLook_any (r : RuleM) (w : World) :
    Calls Tryz.prog 93 #[.agg (ruleC r)] w fun e w' => e = .returned (.bool (lookP r)) ∧ Below w.heap.size w w' := by
  have h4 := rc4 r
  have h17 := rc17 r
  have h18 := rc18 r
  have h19 := rc19 r
  rw [lookP_eq]
  go_enter Tryz.func93, Tryz.ntmps93
  go_upto_region 1 with fail
  go_cut [3] (fun s3 wc => s3 = .bool (flB r) ∧ wc = w.alloc (.cells (ruleC r) 75))
  case first =>
    go_wp2
    all_goals go_meet
    all_goals (case rel => exact ⟨by simp_all [flB] <;> (try intros) <;> omega, rfl⟩)
  case rest =>
    obtain ⟨rfl, rfl⟩ := hcut
    go_upto_region 2 with fail
    go_cut [4] (fun s4 wc => s4 = .bool (tyB r) ∧ wc = w.alloc (.cells (ruleC r) 75))
    case first =>
      go_wp2
      all_goals go_meet
      all_goals (case rel => exact ⟨by simp_all [tyB] <;> (try intros) <;> omega, rfl⟩)
    case rest =>
      obtain ⟨rfl, rfl⟩ := hcut
      cases ha : flB r <;> cases hb : tyB r
      all_goals
        have HA := Lib.hid ha
        have HB := Lib.hid hb
        clear ha hb
        go_wp2
        all_goals go_ret
        all_goals exact ⟨by rw [HA.out, HB.out]; simp_all <;> (try intros) <;> omega, bnew _ _⟩
end Go.Proofs.YtnmbbnhgoedjgaaGreatDoor.RuF
/- rule.isSide. -/
namespace Go.Proofs.YtnmbbnhgoedjgaaGreatDoor.RuG
open Go Go.RowKit Go.Proofs.YtnmbbnhgoedjgaaGreatDoor.Ad0 Go.Proofs.YtnmbbnhgoedjgaaGreatDoor.Ad1 Go.Proofs.YtnmbbnhgoedjgaaGreatDoor.St3 Go.Proofs.YtnmbbnhgoedjgaaGreatDoor.Ru0 Go.Proofs.YtnmbbnhgoedjgaaGreatDoor.Ru6 Go.Proofs.YtnmbbnhgoedjgaaGreatDoor.RuB Go.Proofs.YtnmbbnhgoedjgaaGreatDoor.RuC Go.Proofs.YtnmbbnhgoedjgaaGreatDoor.RuD Go.Proofs.YtnmbbnhgoedjgaaGreatDoor.RuF
set_option linter.unusedVariables false
set_option linter.unusedSimpArgs false
/-- Is the who of an end not so? -/
def whoBad (s : SideM) : Bool := (s.any && (decide (s.table ≠ []) || !decide (s.pfx = ⟨0, 0⟩))) || (decide (s.table ≠ []) && (!nameL s.table || !decide (s.pfx = ⟨0, 0⟩))) || !isF s.pfx
theorem sideP_eq (s : SideM) (p : Int) : sideP s p = if whoBad s then false else (decide (0 ≤ s.low) && decide (s.low ≤ s.high) && decide (s.high ≤ 65535) && (allP s || portedF p)) := rfl
theorem sc (s : SideM) : (sideC s)[0]? = some (.bool s.any) ∧ (sideC s)[1]? = some (.string ⟨s.table.toArray⟩) ∧ (sideC s)[2]? = some (.int .u32 (s.pfx.addr : Nat)) ∧ (sideC s)[3]? = some (.int .i64 s.pfx.len) ∧ (sideC s)[4]? = some (.int .i64 s.low) ∧ (sideC s)[5]? = some (.int .i64 s.high) := ⟨rfl, rfl, rfl, rfl, rfl, rfl⟩
theorem pfx_zero (p : Pfx) : decide (p = ⟨0, 0⟩) = (decide (p.addr = 0) && decide (p.len = 0)) := by
  obtain ⟨a, b⟩ := p
  rw [Bool.eq_iff_iff]
  simp
set_option maxRecDepth 100000 in
set_option maxHeartbeats 4000000 in
theorem isSide_any (s : SideM) (p : Int) (hs : s.table.length ≤ 9223372036854775807) (hp : s.pfx.ok) (w : World) :
    Calls Tryz.prog 94 #[.agg (sideC s), .int .i64 p] w fun e w' => e = .returned (.bool (sideP s p)) ∧ Below w.heap.size w w' := by
  have KN := Lib.hid (fun W => name_any s.table hs W)
  have KI := Lib.hid (fun W => is_any s.pfx hp W)
  have KP := Lib.hid (fun W => ported_any p W)
  have HB0 := Lib.hid (bnew w (.cells (sideC s) 71))
  have HR0 := Lib.hid (heap_alloc_new w (.cells (sideC s) 71))
  obtain ⟨s0, s1, s2, s3, s4, s5⟩ := sc s
  have hz := pfx_zero s.pfx
  have HZ := Lib.hid hz
  clear hz
  go_enter Tryz.func94, Tryz.ntmps94
  go_upto_region 1 with fail
  go_cut [5] (fun s5 wc => s5 = .bool (decide (s.pfx = ⟨0, 0⟩)) ∧ wc = w.alloc (.cells (sideC s) 71))
  case first =>
    go_wp2
    all_goals go_meet
    all_goals (case rel => exact ⟨by rw [HZ.out]; simp_all, rfl⟩)
  case rest =>
    obtain ⟨rfl, rfl⟩ := hcut
    go_upto_region 2 with fail
    generalize hz : decide (s.pfx = ⟨0, 0⟩) = z
    have HZ2 := Lib.hid hz
    clear hz
    go_cut [5, 42] (fun s5 s42 wc => s42 = .bool (whoBad s) ∧ Below w.heap.size w wc ∧ wc.heap[w.heap.size]? = some (.cells (sideC s) 71 (0, 0)))
    case first =>
      go_wp2_with (first
        | (go_at_call 63; refine (KN.out _).mono ?_; rintro e w1 ⟨rfl, hb1⟩; have HB1 := Lib.hid (bstep HB0.out hb1 HB0.out.size); have HR1 := row_step HR0 hb1; obtain ⟨c1, f1⟩ := bcell hb1; clear hb1)
        | (go_at_call 88; refine (KI.out _).mono ?_; rintro e w2 ⟨rfl, hb2⟩; have HX := Lib.hid hb2; clear hb2))
      all_goals go_meet
      all_goals (case rel => first | exact ⟨by unfold whoBad; rw [HZ2.out]; simp_all, HB0.out, HR0.out⟩ | exact ⟨by unfold whoBad; rw [HZ2.out]; simp_all, HB1.out, HR1.out⟩ | exact ⟨by unfold whoBad; rw [HZ2.out]; simp_all, bstep HB0.out HX.out HB0.out.size, row_step HR0 HX.out⟩ | exact ⟨by unfold whoBad; rw [HZ2.out]; simp_all, bstep HB1.out HX.out HB1.out.size, row_step HR1 HX.out⟩ | (trace_state; fail ))
    case rest =>
      obtain ⟨rfl, hbw, hrw⟩ := hcut
      have HB2 := Lib.hid hbw
      have HR2 := Lib.hid hrw
      obtain ⟨a0, a1, a2, a3, a4, a5, b0, b1, b2, b3, b4, b5⟩ := box6 hrw
      clear hbw hrw
      cases hwb : whoBad s with
      | true =>
        have HW := Lib.hid hwb
        clear hwb
        go_wp2
        go_ret
        exact ⟨by rw [sideP_eq, HW.out]; rfl, HB2.out⟩
      | false =>
        have HW := Lib.hid hwb
        clear hwb
        go_upto_region 4 with fail
        go_cut [6] (fun s6 wx => s6 = .bool (allP s) ∧ wx = wc)
        case first =>
          go_wp2
          all_goals go_meet
          all_goals (case rel => exact ⟨by simp_all [allP], rfl⟩)
        case rest =>
          obtain ⟨rfl, rfl⟩ := hcut
          generalize hap : allP s = ap
          have HAP := Lib.hid hap
          clear hap
          generalize hpo : portedF p = po at KP
          have HPO := Lib.hid hpo
          clear hpo
          go_wp2_with (go_at_call 138; refine (KP.out _).mono ?_; rintro e w3 ⟨rfl, rfl⟩)
          all_goals go_ret
          all_goals exact ⟨by rw [sideP_eq, HW.out, HAP.out, HPO.out]; simp_all <;> (try intros) <;> omega, HB2.out⟩
end Go.Proofs.YtnmbbnhgoedjgaaGreatDoor.RuG

