/- castellanref14.reader: end. castellanref20.wrong. conf.Same. conf.Same. rule.Print: the words, one after another. -/
import Derived.Test.YtnmbbnhgoedjgaaGreatDoorPRuM
import Derived.Test.YtnmbbnhgoedjgaaGreatDoorPCh5
import Derived.Test.YtnmbbnhgoedjgaaGreatDoorPCgR
import Derived.Test.YtnmbbnhgoedjgaaGreatDoorPCf9
import Derived.Test.YtnmbbnhgoedjgaaGreatDoorPCg1
import Derived.Test.YtnmbbnhgoedjgaaGreatDoorPCg4
import Derived.Test.YtnmbbnhgoedjgaaGreatDoorPCgM
import Derived.Test.YtnmbbnhgoedjgaaGreatDoorPEq
import Derived.Test.YtnmbbnhgoedjgaaGreatDoorPRuG
import Derived.Deep.MidRow
import Derived.BigFrame
import Derived.BigGuardPart
namespace Go.Proofs.YtnmbbnhgoedjgaaGreatDoor.RuN
open Go Go.RowKit Go.Proofs.YtnmbbnhgoedjgaaGreatDoor.Ad1 Go.Proofs.YtnmbbnhgoedjgaaGreatDoor.St0 Go.Proofs.YtnmbbnhgoedjgaaGreatDoor.St1 Go.Proofs.YtnmbbnhgoedjgaaGreatDoor.St2 Go.Proofs.YtnmbbnhgoedjgaaGreatDoor.St3 Go.Proofs.YtnmbbnhgoedjgaaGreatDoor.St7 Go.Proofs.YtnmbbnhgoedjgaaGreatDoor.Ru0 Go.Proofs.YtnmbbnhgoedjgaaGreatDoor.Ru1 Go.Proofs.YtnmbbnhgoedjgaaGreatDoor.Ru5 Go.Proofs.YtnmbbnhgoedjgaaGreatDoor.Ru6 Go.Proofs.YtnmbbnhgoedjgaaGreatDoor.Ru9 Go.Proofs.YtnmbbnhgoedjgaaGreatDoor.RuB Go.Proofs.YtnmbbnhgoedjgaaGreatDoor.RuC Go.Proofs.YtnmbbnhgoedjgaaGreatDoor.RuK
set_option linter.unusedVariables false
set_option linter.unusedSimpArgs false
/-- While an end is read: the reader, the end so far, the box of the result. -/
structure EndSt (W : World) (g : Nat) (s : SideM) (ws : Ws) (W2 : World) : Prop where
  rd : Rd 162 W2 g ws
  box : W2.heap[W.heap.size + 1]? = some (.cells (sideC s) 71 (0, 0))
  res : W2.heap[W.heap.size]? = some (.cells (sideC {}) 71 (0, 0))
  upto : Upto g W W2
  lib : LibOK W2
  big : W.heap.size + 1 < W2.heap.size
theorem EndSt.call {W W2 W3 : World} {g : Nat} {s : SideM} {ws ws' : Ws} (h : EndSt W g s ws W2) (hg : g < W.heap.size) (hG : LibLow g) (hr : Rd 162 W3 g ws') (hu : Upto g W2 W3) : EndSt W g s ws' W3 :=
  ⟨hr, hu.row h.box (by omega), hu.row h.res (by omega), h.upto.trans hu, lib_upto h.lib hu hG (Nat.le_of_lt h.rd.lt), Nat.lt_of_lt_of_le h.big hu.size⟩
theorem EndSt.below {W W2 W3 : World} {g : Nat} {s : SideM} {ws : Ws} (h : EndSt W g s ws W2) (hb : Below W2.heap.size W2 W3) : EndSt W g s ws W3 :=
  ⟨h.rd.below hb, (hb.block _ h.big).trans h.box, (hb.block _ (Nat.lt_of_succ_lt h.big)).trans h.res, h.upto.trans (Upto.of_below hb), h.lib.below hb, Nat.lt_of_lt_of_le h.big hb.size⟩
theorem EndSt.bad {W W2 : World} {g : Nat} {s : SideM} {ws : Ws} (h : EndSt W g s ws W2) (hg : g < W.heap.size) (hG : LibLow g) (b : Bool) : EndSt W g s ⟨ws.l, b⟩ (W2.setCell ⟨g, 1, none⟩ (.bool b)) :=
  h.call hg hG (h.rd.bad b) (Upto.refl _ _).set
theorem EndSt.put {W W2 : World} {g k : Nat} {s s' : SideM} {ws : Ws} {v : Value} (h : EndSt W g s ws W2) (hg : g < W.heap.size) (hG : LibLow g) (he : (sideC s).setIfInBounds k v = sideC s') : EndSt W g s' ws (W2.setCell ⟨W.heap.size + 1, k, none⟩ v) :=
  ⟨h.rd.above (set_b (Below.refl _ _) (by omega)), by rw [← he]; exact set_at h.box, by rw [heap_setCell_other _ _ _ _ (by simp)]; exact h.res, h.upto.set_new (by omega), lib_low h.lib (set_b (Below.refl _ _) (by omega)) hG, by rw [size_set]; exact h.big⟩
theorem EndSt.draw {W W2 : World} {g : Nat} {s : SideM} {ws : Ws} (h : EndSt W g s ws W2) (n : Nat) : EndSt W g s ws (W2.drewN n) := h.below (bdrewN (Below.refl _ _) n)
theorem EndSt.facts {W W2 : World} {g : Nat} {s : SideM} {ws : Ws} (h : EndSt W g s ws W2) : (W2.cell? ⟨g, 1, none⟩ = some (.bool ws.bad) ∧ W2.frozen? ⟨g, 1, none⟩ = false) ∧
    (W2.cell? ⟨W.heap.size + 1, 0, none⟩ = some (.bool s.any) ∧ W2.cell? ⟨W.heap.size + 1, 1, none⟩ = some (.string ⟨s.table.toArray⟩) ∧ W2.cell? ⟨W.heap.size + 1, 2, none⟩ = some (.int .u32 (s.pfx.addr : Nat)) ∧ W2.cell? ⟨W.heap.size + 1, 3, none⟩ = some (.int .i64 s.pfx.len) ∧ W2.cell? ⟨W.heap.size + 1, 4, none⟩ = some (.int .i64 s.low) ∧ W2.cell? ⟨W.heap.size + 1, 5, none⟩ = some (.int .i64 s.high)) ∧
    (W2.frozen? ⟨W.heap.size + 1, 0, none⟩ = false ∧ W2.frozen? ⟨W.heap.size + 1, 1, none⟩ = false ∧ W2.frozen? ⟨W.heap.size + 1, 2, none⟩ = false ∧ W2.frozen? ⟨W.heap.size + 1, 3, none⟩ = false ∧ W2.frozen? ⟨W.heap.size + 1, 4, none⟩ = false ∧ W2.frozen? ⟨W.heap.size + 1, 5, none⟩ = false) := by
  obtain ⟨a0, a1, a2, a3, a4, a5, b0, b1, b2, b3, b4, b5⟩ := box6 h.box
  exact ⟨h.rd.cells, ⟨a0, a1, a2, a3, a4, a5⟩, b0, b1, b2, b3, b4, b5⟩
theorem end_start (W : World) (g : Nat) (ws : Ws) (h : Rd 162 W g ws) (hl : LibOK W) : EndSt W g startS ws ((W.alloc (.cells (sideC {}) 71)).alloc (.cells (sideC startS) 71)) := by
  have hb := bnew2 W (.cells (sideC {}) 71) (.cells (sideC startS) 71)
  exact ⟨h.below hb, heap_alloc2_new _ _ _, heap_alloc2_old _ _ _, Upto.of_below hb, hl.below hb, by simp⟩
/-- The end is handed back. -/
theorem end_done {W W2 : World} {g : Nat} {s : SideM} {ws : Ws} (h : EndSt W g s ws W2) (hg : g < W.heap.size) (hG : LibLow g) {v0 v1 v2 v3 v4 v5 : Value} (hv : #[v0, v1, v2, v3, v4, v5] = sideC s) :
    ((((((W2.setCell ⟨W.heap.size, 0, none⟩ v0).setCell ⟨W.heap.size, 1, none⟩ v1).setCell ⟨W.heap.size, 2, none⟩ v2).setCell ⟨W.heap.size, 3, none⟩ v3).setCell ⟨W.heap.size, 4, none⟩ v4).setCell ⟨W.heap.size, 5, none⟩ v5).heap[W.heap.size]? = some (.cells (sideC s) 71 (0, 0)) ∧
    Rd 162 ((((((W2.setCell ⟨W.heap.size, 0, none⟩ v0).setCell ⟨W.heap.size, 1, none⟩ v1).setCell ⟨W.heap.size, 2, none⟩ v2).setCell ⟨W.heap.size, 3, none⟩ v3).setCell ⟨W.heap.size, 4, none⟩ v4).setCell ⟨W.heap.size, 5, none⟩ v5) g ws ∧
    Upto g W ((((((W2.setCell ⟨W.heap.size, 0, none⟩ v0).setCell ⟨W.heap.size, 1, none⟩ v1).setCell ⟨W.heap.size, 2, none⟩ v2).setCell ⟨W.heap.size, 3, none⟩ v3).setCell ⟨W.heap.size, 4, none⟩ v4).setCell ⟨W.heap.size, 5, none⟩ v5) := by
  refine ⟨?_, h.rd.above ?_, ?_⟩
  · have := set_at (k := 5) (v := v5) (set_at (k := 4) (v := v4) (set_at (k := 3) (v := v3) (set_at (k := 2) (v := v2) (set_at (k := 1) (v := v1) (set_at (k := 0) (v := v0) h.res)))))
    rw [← hv]
    exact this
  · exact set_b (set_b (set_b (set_b (set_b (set_b (Below.refl _ _) (by omega)) (by omega)) (by omega)) (by omega)) (by omega)) (by omega)
  · exact ((((((h.upto.set_new (Nat.le_refl _)).set_new (Nat.le_refl _)).set_new (Nat.le_refl _)).set_new (Nat.le_refl _)).set_new (Nat.le_refl _)).set_new (Nat.le_refl _))
/-- Who an end is, by its first word: the document's way. -/
def whoG (x : Wd) (w : Ws) : SideM × Ws :=
  if x = wAny then ({ any := true, high := 65535 }, w)
  else if isTabR x then ({ table := inner x, high := 65535 }, w)
  else ({ pfx := pfxOf (prefL x), high := 65535 }, w.orBad (prefL x).isNone)
theorem ba_lt (x : Wd) (j : Nat) (h : j < x.length) : j < (⟨x.toArray⟩ : ByteArray).size := by rw [wd_size]; exact h
theorem ba_at (x : Wd) (j : Nat) (h : j < x.length) : (⟨x.toArray⟩ : ByteArray)[j]'(ba_lt x j h) = x[j] := by
  show (x.toArray)[j] = x[j]
  simp
theorem byte_eq (b : UInt8) (n : UInt8) : ((b.toNat : Int) == (n.toNat : Int)) = (b == n) := by
  rw [Bool.eq_iff_iff, beq_iff_eq, beq_iff_eq, ← UInt8.toNat_inj]
  omega
theorem tabR_at (x : Wd) (h : 2 < x.length) : isTabR x = (((((⟨x.toArray⟩ : ByteArray)[0]'(ba_lt x 0 (by omega))).toNat : Int) == 60) && ((((⟨x.toArray⟩ : ByteArray)[x.length - 1]'(ba_lt x _ (by omega))).toNat : Int) == 62)) := by
  rw [ba_at x 0 (by omega), ba_at x _ (by omega)]
  rw [show (60 : Int) = ((60 : UInt8).toNat : Int) from rfl, show (62 : Int) = ((62 : UInt8).toNat : Int) from rfl, byte_eq, byte_eq]
  unfold isTabR
  have h1 : x.head? = some x[0] := by rw [List.head?_eq_getElem?, List.getElem?_eq_getElem (by omega)]
  have h2 : x.getLast? = some x[x.length - 1] := by rw [List.getLast?_eq_getElem?, List.getElem?_eq_getElem (by omega)]
  rw [h1, h2]
  have hd : decide (2 < x.length) = true := by simpa using h
  rw [hd, Bool.true_and]
  rfl
theorem portsR_eq (s : SideM) (w : Ws) : portsR s w = (if (takesR w wPort).1 then
    (if 1 < (parts 58 (nextF (takesR w wPort).2).1).length then
      ({ s with low := (numR (nextF (takesR w wPort).2).2 ((parts 58 (nextF (takesR w wPort).2).1).getD 0 []) 65535).1, high := (numR (numR (nextF (takesR w wPort).2).2 ((parts 58 (nextF (takesR w wPort).2).1).getD 0 []) 65535).2 ((parts 58 (nextF (takesR w wPort).2).1).getD 1 []) 65535).1 },
        ((numR (numR (nextF (takesR w wPort).2).2 ((parts 58 (nextF (takesR w wPort).2).1).getD 0 []) 65535).2 ((parts 58 (nextF (takesR w wPort).2).1).getD 1 []) 65535).2.orBad ((numR (numR (nextF (takesR w wPort).2).2 ((parts 58 (nextF (takesR w wPort).2).1).getD 0 []) 65535).2 ((parts 58 (nextF (takesR w wPort).2).1).getD 1 []) 65535).1 == (numR (nextF (takesR w wPort).2).2 ((parts 58 (nextF (takesR w wPort).2).1).getD 0 []) 65535).1)).orBad (decide (2 < (parts 58 (nextF (takesR w wPort).2).1).length)))
    else ({ s with low := (numR (nextF (takesR w wPort).2).2 ((parts 58 (nextF (takesR w wPort).2).1).getD 0 []) 65535).1, high := (numR (nextF (takesR w wPort).2).2 ((parts 58 (nextF (takesR w wPort).2).1).getD 0 []) 65535).1 }, (numR (nextF (takesR w wPort).2).2 ((parts 58 (nextF (takesR w wPort).2).1).getD 0 []) 65535).2.orBad (decide (2 < (parts 58 (nextF (takesR w wPort).2).1).length))))
  else (s, (takesR w wPort).2)) := by
  unfold portsR
  dsimp only
theorem ba_eta (b : ByteArray) (p : Wd) (h : b.data.toList = p) : b = ⟨p.toArray⟩ := by
  subst h
  apply ByteArray.ext
  simp
theorem cell_upto {W W' : World} {g b j : Nat} {v : Value} (u : Upto g W W') (h : W.cell? ⟨b, j, none⟩ = some v) (hb : b ≠ g) : W'.cell? ⟨b, j, none⟩ = some v := by
  have hl := World.block_lt_of_cell? W _ h
  unfold World.cell? at h ⊢
  rw [u.block b hl hb]
  exact h
/-- A text's parts between a byte, in memory. -/
theorem split_word (s : Wd) (c : UInt8) (hs : s.length < 4294967281) (W : World) : Calls Tryz.prog 28 #[.string ⟨s.toArray⟩, .int .u8 c.toNat] W fun e w' => ∃ b cap, e = .returned (.slice (some ⟨b, 0, none⟩) (parts c s).length cap) ∧ (parts c s).length ≤ cap ∧ W.heap.size ≤ b ∧
    (∀ (j : Nat) (p : Wd), (parts c s)[j]? = some p → w'.cell? ⟨b, j, none⟩ = some (.string ⟨p.toArray⟩)) ∧ (∀ p ∈ parts c s, p.length < 4294967281) ∧ Below W.heap.size W w' := by
  refine (split_any ⟨s.toArray⟩ c (by rw [wd_size]; omega) W).mono ?_
  rintro e w' ⟨v, xs, rfl, hp, hm, ho, hb⟩
  have hx : (⟨s.toArray⟩ : ByteArray).data.toList = s := rfl
  rw [hx] at hp
  have hn : 0 < xs.length := by
    have := congrArg List.length hp
    rw [List.length_map] at this
    rw [this, parts_len]; omega
  have hlen : xs.length = (parts c s).length := by rw [← hp, List.length_map]
  rcases ho.2 with ⟨_, h0⟩ | ⟨g, cap, cur, rfl, hbg, hg, hc, _⟩
  · omega
  · refine ⟨g, cap, by rw [hlen], by rw [← hlen]; exact hc, ?_, fun j p hj => ?_, fun p hpm => ?_, hb⟩
    · exact hbg
    · have hjl : j < xs.length := by rw [hlen]; exact (List.getElem?_eq_some_iff.1 hj).1
      have := ho.cellAt (g := g) (j := j) (by simpa using hjl)
      rw [this, List.getElem?_map, List.getElem?_eq_getElem hjl]
      rw [← hp, List.getElem?_map, List.getElem?_eq_getElem hjl] at hj
      simp only [Option.map_some, Option.some.injEq] at hj ⊢
      rw [ba_eta _ _ hj]
    · rw [← hp] at hpm
      obtain ⟨y, hy, rfl⟩ := List.mem_map.1 hpm
      have h1 := hm y hy
      have h2 := size_data y
      have h3 := wd_size s
      show y.data.toList.length < 4294967281
      omega
theorem whoR_eq (ws : Ws) : whoR ws = whoG (nextF ws).1 (nextF ws).2 := rfl
set_option maxRecDepth 100000 in
set_option maxHeartbeats 2000000 in
theorem end_any (g : Nat) (ws : Ws) (W : World) (h : Rd 162 W g ws) (hl : LibOK W) (hG : LibLow g) :
    Calls Tryz.prog 120 #[.pointer (some ⟨g, 0, none⟩)] W fun e w' => e = .returned (.agg (sideC (endF ws).1)) ∧ Rd 162 w' g (endF ws).2 ∧ Upto g W w' := by
  have HS0 := Lib.hid (end_start W g ws h hl)
  have hlt := h.lt
  have KN := Lib.hid (fun W' hr => rnext_any g ws W' hr)
  have KS := Lib.hid (nextF_short h)
  clear h hl
  unfold endF
  rw [whoR_eq]
  generalize nextF ws = n at KN KS ⊢
  obtain ⟨x, w1⟩ := n
  dsimp only at KN KS ⊢
  go_enter Tryz.func120, Tryz.ntmps120
  go_wp2_with fail
  refine (KN.out _ HS0.out.rd).mono ?_
  rintro e W1 ⟨rfl, hr1, hu1⟩
  have HS1 := Lib.hid (HS0.out.call hlt hG hr1 hu1)
  clear hr1 hu1
  go_upto_block 0 with fail
  go_cut [] (fun wc => EndSt W g (whoG x w1).1 (whoG x w1).2 wc)
  case first =>
    obtain ⟨⟨c1, f1⟩, ⟨a0, a1, a2, a3, a4, a5⟩, b0, b1, b2, b3, b4, b5⟩ := HS1.out.facts
    by_cases h1 : x = wAny
    · subst h1
      have hw : whoG wAny w1 = ({ any := true, high := 65535 }, w1) := by unfold whoG; rw [if_pos rfl]
      have HW := Lib.hid hw
      clear hw
      have q1 : (wAny == [97, 110, 121]) = true := rfl
      go_wp2_with fail
      go_meet
      case rel => rw [HW.out]; exact HS1.out.put hlt hG rfl
    · have q1 : (x == [97, 110, 121]) = false := by rw [beq_eq_false_iff_ne]; exact h1
      have hxl := KS.out
      clear KN
      have KF := Lib.hid (fun W' => rpref_two x KS.out W')
      by_cases h2 : 2 < x.length
      · have h2i : (2 : Int) < x.length := by omega
        have hz := ba_lt x 0 (by omega)
        have hz1 := ba_lt x (x.length - 1) (by omega)
        have htr := tabR_at x h2
        cases hb0 : ((((⟨x.toArray⟩ : ByteArray)[0]'hz).toNat : Int) == 60) <;> cases hb1 : ((((⟨x.toArray⟩ : ByteArray)[x.length - 1]'hz1).toNat : Int) == 62)
        case true.true =>
          rw [hb0, hb1, Bool.and_self] at htr
          have hw : whoG x w1 = ({ table := inner x, high := 65535 }, w1) := by unfold whoG; rw [if_neg h1, if_pos htr]
          have HW := Lib.hid hw
          have hit : isTab x = true := (Ru2.tab_in x htr).2
          have hi := inner_ext x hit
          clear hw h1 htr hit
          go_wp2_with fail
          go_meet
          case rel => rw [HW.out]; exact HS1.out.put (k := 1) (s' := { table := inner x, high := 65535 }) hlt hG rfl
        all_goals
          rw [hb0, hb1] at htr
          have hw : whoG x w1 = ({ pfx := pfxOf (prefL x), high := 65535 }, w1.orBad (prefL x).isNone) := by unfold whoG; rw [if_neg h1, if_neg (by rw [htr]; simp)]
          have HW := Lib.hid hw
          clear hw h1 htr
          generalize pfxOf (prefL x) = px at KF HW
          generalize (prefL x).isNone = no at KF HW
          cases no <;> cases hbad : w1.bad
          all_goals
            have HBAD := Lib.hid hbad
            rw [hbad] at c1
            clear hbad
            go_wp2_with (go_at_call 67; refine (KF.out _).mono ?_; rintro e W2 ⟨rfl, hb⟩; have HS2 := Lib.hid ((HS1.out.below hb).below (bnew _ (.cells #[.int .u32 (px.addr : Nat), .int .i64 px.len] 43))); obtain ⟨⟨k1, k2⟩, ⟨p0, p1, p2, p3, p4, p5⟩, q0, q1', q2, q3, q4, q5⟩ := (HS1.out.below hb).facts; rw [HBAD.out] at k1; have HS2a := Lib.hid (HS1.out.below hb); have hk := (HS1.out.below hb).big; have hgk := (HS1.out.below hb).rd.lt; clear hb; clear c1 f1 a0 a1 a2 a3 a4 a5 b0 b1 b2 b3 b4 b5; obtain ⟨⟨c1, f1⟩, ⟨a0, a1, a2, a3, a4, a5⟩, b0, b1, b2, b3, b4, b5⟩ := HS2.out.facts; rw [HBAD.out] at c1)
            go_meet
            case rel =>
              rw [HW.out, orBad_eq, HBAD.out]
              exact (((HS2a.out.put (k := 2) (s' := { pfx := ⟨px.addr, 0⟩, high := 65535 }) hlt hG rfl).put (k := 3) (s' := { pfx := px, high := 65535 }) hlt hG rfl).bad hlt hG _).below (bnew _ _)
      · have htr : isTabR x = false := by
          unfold isTabR
          have hd : decide (2 < x.length) = false := by simpa using h2
          rw [hd]; rfl
        have h2' : ¬ (2 : Int) < x.length := by omega
        have hw : whoG x w1 = ({ pfx := pfxOf (prefL x), high := 65535 }, w1.orBad (prefL x).isNone) := by unfold whoG; rw [if_neg h1, if_neg (by rw [htr]; simp)]
        have HW := Lib.hid hw
        clear hw h1 htr h2
        generalize pfxOf (prefL x) = px at KF HW
        generalize (prefL x).isNone = no at KF HW
        cases no <;> cases hbad : w1.bad
        all_goals
          have HBAD := Lib.hid hbad
          rw [hbad] at c1
          clear hbad
          go_wp2_with (go_at_call 67; refine (KF.out _).mono ?_; rintro e W2 ⟨rfl, hb⟩; have HS2 := Lib.hid ((HS1.out.below hb).below (bnew _ (.cells #[.int .u32 (px.addr : Nat), .int .i64 px.len] 43))); obtain ⟨⟨k1, k2⟩, ⟨p0, p1, p2, p3, p4, p5⟩, q0, q1', q2, q3, q4, q5⟩ := (HS1.out.below hb).facts; rw [HBAD.out] at k1; have HS2a := Lib.hid (HS1.out.below hb); have hk := (HS1.out.below hb).big; have hgk := (HS1.out.below hb).rd.lt; clear hb; clear c1 f1 a0 a1 a2 a3 a4 a5 b0 b1 b2 b3 b4 b5; obtain ⟨⟨c1, f1⟩, ⟨a0, a1, a2, a3, a4, a5⟩, b0, b1, b2, b3, b4, b5⟩ := HS2.out.facts; rw [HBAD.out] at c1)
          go_meet
          case rel =>
            rw [HW.out, orBad_eq, HBAD.out]
            exact (((HS2a.out.put (k := 2) (s' := { pfx := ⟨px.addr, 0⟩, high := 65535 }) hlt hG rfl).put (k := 3) (s' := { pfx := px, high := 65535 }) hlt hG rfl).bad hlt hG _).below (bnew _ _)
  case rest =>
    have hS := hcut
    generalize hq : whoG x w1 = q at hS
    have HQ := Lib.hid hq
    obtain ⟨s1, v1⟩ := q
    dsimp only at hS
    have HS2 := Lib.hid hS
    clear hS hcut hq HS1 HS0 KN KS
    have KT := Lib.hid (fun W' hr => is_word g v1 #[112, 111, 114, 116] W' hr)
    have hwp : (#[112, 111, 114, 116] : Array UInt8).toList = wPort := rfl
    rw [hwp] at KT
    have HP := Lib.hid (portsR_eq s1 v1)
    generalize takesR v1 wPort = tk at KT HP
    obtain ⟨tb, v2⟩ := tk
    dsimp only at KT HP
    cases tb with
    | false =>
      have hP : portsR s1 v1 = (s1, v2) := HP.out
      have HPF := Lib.hid hP
      clear hP
      go_wp2_with (go_at_call 118; refine (KT.out _ HS2.out.rd).mono ?_; rintro e W3 ⟨rfl, hr1, hu1⟩; have HS3 := Lib.hid (HS2.out.call hlt hG hr1 hu1); clear hr1 hu1; obtain ⟨⟨c1, f1⟩, ⟨a0, a1, a2, a3, a4, a5⟩, b0, b1, b2, b3, b4, b5⟩ := HS3.out.facts; obtain ⟨r0, r1, r2, r3, r4, r5, e0, e1, e2, e3, e4, e5⟩ := box6 HS3.out.res)
      obtain ⟨g1, g2, g3⟩ := end_done HS3.out hlt hG (v0 := _) (v1 := _) (v2 := _) (v3 := _) (v4 := _) (v5 := _) rfl
      exact box_ret1 g1 rfl rfl Tryz.underlying71 (by kernel_rfl) rfl ⟨by rw [HQ.out, HPF.out], by rw [HQ.out, HPF.out]; exact g2, g3⟩
    | true =>
      have KN := Lib.hid (fun W' hr => rnext_any g v2 W' hr)
      have KS := Lib.hid (fun W' (hr : Rd 162 W' g v2) => nextF_short hr)
      generalize nextF v2 = n at KN KS HP
      obtain ⟨y, v3⟩ := n
      dsimp only at KN KS HP
      have KC := Lib.hid (fun W' hs => (show Calls Tryz.prog 28 #[.string ⟨y.toArray⟩, .int .u8 58] W' _ from split_word y 58 hs W'))
      have hne := parts_ne 58 y
      generalize parts 58 y = ps at KC HP hne
      match ps, hne with
      | [p0], _ =>
        have KM := Lib.hid (fun W' hs hr => rnum_any g v3 p0 hs 65535 W' hr)
        have hP := HP.out
        simp only [if_true, List.length_cons, List.length_nil, Nat.zero_add, Nat.lt_irrefl, if_false, List.getD_cons_zero] at hP
        have hd2 : decide (2 < 1) = false := rfl
        rw [hd2] at hP
        generalize numR v3 p0 65535 = m at KM hP
        obtain ⟨lo, v4⟩ := m
        dsimp only at KM hP
        have HPF := Lib.hid hP
        clear hP HP hd2 hwp
        cases hbad : v4.bad
        all_goals
          have HBAD := Lib.hid hbad
          clear hbad
          go_wp2_with fail
          refine (KT.out _ HS2.out.rd).mono ?_; rintro e W3 ⟨rfl, hr1, hu1⟩; have HS3 := Lib.hid (HS2.out.call hlt hG hr1 hu1); clear hr1 hu1
          go_wp2_with fail
          refine (KN.out _ HS3.out.rd).mono ?_; rintro e W4 ⟨rfl, hr1, hu1⟩; have KS4 := Lib.hid (KS.out _ HS3.out.rd); have HS4 := Lib.hid (HS3.out.call hlt hG hr1 hu1); clear hr1 hu1
          go_wp2_with fail
          refine (KC.out _ KS4.out).mono ?_; rintro e W5 ⟨bb, cap, rfl, hcap, hbb, hcl, hsh, hb1⟩; have HS5 := Lib.hid (HS4.out.below hb1); clear hb1
          have k0 := hcl 0 p0 rfl
          have HSH := Lib.hid (hsh p0 (by simp))
          have hbg : bb ≠ g := by have := HS4.out.rd.lt; omega
          have hbw : bb ≠ W.heap.size + 1 := by have := HS4.out.big; omega
          simp only [List.length_cons, List.length_nil, Nat.zero_add] at hcap
          clear hcl hsh
          go_wp2_with fail
          refine (KM.out _ (by have := HSH.out; omega) HS5.out.rd).mono ?_; rintro e W6 ⟨rfl, hr1, hu1⟩; have HS6 := Lib.hid (HS5.out.call hlt hG hr1 hu1); clear hr1 hu1 k0; obtain ⟨⟨c1, f1⟩, ⟨a0, a1, a2, a3, a4, a5⟩, b0, b1, b2, b3, b4, b5⟩ := HS6.out.facts; obtain ⟨r0, r1, r2, r3, r4, r5, e0, e1, e2, e3, e4, e5⟩ := box6 HS6.out.res; rw [HBAD.out] at c1
          go_wp2_with fail
          have HS7 := ((HS6.out.put (k := 4) (s' := { s1 with low := lo }) hlt hG rfl).put (k := 5) (s' := { s1 with low := lo, high := lo }) hlt hG rfl).bad hlt hG (v4.bad || false)
          rw [HBAD.out] at HS7
          obtain ⟨g1, g2, g3⟩ := end_done HS7 hlt hG (v0 := _) (v1 := _) (v2 := _) (v3 := _) (v4 := _) (v5 := _) rfl
          exact box_ret1 g1 rfl rfl Tryz.underlying71 (by kernel_rfl) rfl ⟨by rw [HQ.out, HPF.out], by rw [HQ.out, HPF.out, orBad_eq, HBAD.out]; exact g2, g3⟩
      | p0 :: p1 :: ps, _ =>
        have KM := Lib.hid (fun W' hs hr => rnum_any g v3 p0 hs 65535 W' hr)
        have hP := HP.out
        have h1l : 1 < (p0 :: p1 :: ps).length := by simp
        simp only [if_true, h1l, List.getD_cons_zero, List.getD_cons_succ] at hP
        generalize numR v3 p0 65535 = m at KM hP
        obtain ⟨lo, v4⟩ := m
        dsimp only at KM hP
        have KM2 := Lib.hid (fun W' hs hr => rnum_any g v4 p1 hs 65535 W' hr)
        generalize numR v4 p1 65535 = m2 at KM2 hP
        obtain ⟨hi, v5⟩ := m2
        dsimp only at KM2 hP
        have HPF := Lib.hid hP
        clear hP HP h1l hwp
        have hlen : (p0 :: p1 :: ps).length = ps.length + 2 := rfl
        rw [hlen] at HPF
        cases hbad : v5.bad <;> cases heq : (hi == lo) <;> cases hlong : decide (2 < ps.length + 2)
        all_goals
          have HBAD := Lib.hid hbad
          have HEQ := Lib.hid heq
          have HLONG := Lib.hid hlong
          have hl3 : decide ((2 : Int) < (ps.length : Int) + 2) = decide (2 < ps.length + 2) := by rw [decide_eq_decide]; omega
          rw [hlong] at hl3
          have HL3 := Lib.hid hl3
          clear hbad hlong hl3
          go_wp2_with fail
          refine (KT.out _ HS2.out.rd).mono ?_; rintro e W3 ⟨rfl, hr1, hu1⟩; have HS3 := Lib.hid (HS2.out.call hlt hG hr1 hu1); clear hr1 hu1
          go_wp2_with fail
          refine (KN.out _ HS3.out.rd).mono ?_; rintro e W4 ⟨rfl, hr1, hu1⟩; have KS4 := Lib.hid (KS.out _ HS3.out.rd); have HS4 := Lib.hid (HS3.out.call hlt hG hr1 hu1); clear hr1 hu1
          go_wp2_with fail
          refine (KC.out _ KS4.out).mono ?_; rintro e W5 ⟨bb, cap, rfl, hcap, hbb, hcl, hsh, hb1⟩; have HS5 := Lib.hid (HS4.out.below hb1); clear hb1
          have k0 := hcl 0 p0 rfl
          have k1 := hcl 1 p1 rfl
          have HSH := Lib.hid (hsh p0 (by simp))
          have HSH1 := Lib.hid (hsh p1 (by simp))
          have hbg : bb ≠ g := by have := HS4.out.rd.lt; omega
          have hbw : bb ≠ W.heap.size + 1 := by have := HS4.out.big; omega
          rw [hlen] at hcap
          simp only [hlen]
          clear hcl hsh
          go_wp2_with fail
          refine (KM.out _ (by have := HSH.out; omega) HS5.out.rd).mono ?_; rintro e W6 ⟨rfl, hr1, hu1⟩; have HS6 := Lib.hid (HS5.out.call hlt hG hr1 hu1); have k1' := cell_upto hu1 k1 hbg; clear hr1 hu1 k0 k1; obtain ⟨⟨c1, f1⟩, ⟨a0, a1, a2, a3, a4, a5⟩, b0, b1, b2, b3, b4, b5⟩ := HS6.out.facts
          go_wp2_with fail
          have HS7 := Lib.hid ((HS6.out.put (k := 4) (s' := { s1 with low := lo }) hlt hG rfl).put (k := 5) (s' := { s1 with low := lo, high := lo }) hlt hG rfl)
          clear c1 f1 a0 a1 a2 a3 a4 a5 b0 b1 b2 b3 b4 b5
          refine (KM2.out _ (by have := HSH1.out; omega) HS7.out.rd).mono ?_; rintro e W8 ⟨rfl, hr1, hu1⟩; have HS8 := Lib.hid (HS7.out.call hlt hG hr1 hu1); clear hr1 hu1; obtain ⟨⟨c1, f1⟩, ⟨a0, a1, a2, a3, a4, a5⟩, b0, b1, b2, b3, b4, b5⟩ := HS8.out.facts; obtain ⟨r0, r1, r2, r3, r4, r5, e0, e1, e2, e3, e4, e5⟩ := box6 HS8.out.res; rw [HBAD.out] at c1
          have hl3 := HL3.out
          go_wp2_with fail
          first
            | (have HS9 := ((HS8.out.put (k := 5) (s' := { s1 with low := lo, high := hi }) hlt hG rfl).bad hlt hG (v5.bad || (hi == lo))).bad hlt hG ((v5.bad || (hi == lo)) || decide (2 < ps.length + 2))
               rw [HBAD.out, HEQ.out, HLONG.out] at HS9
               obtain ⟨g1, g2, g3⟩ := end_done HS9 hlt hG (v0 := _) (v1 := _) (v2 := _) (v3 := _) (v4 := _) (v5 := _) rfl
               exact box_ret1 g1 rfl rfl Tryz.underlying71 (by kernel_rfl) rfl ⟨by rw [HQ.out, HPF.out], by rw [HQ.out, HPF.out, orBad_eq, orBad_eq, HBAD.out, HEQ.out, HLONG.out]; exact g2, g3⟩)
            | (have HS9 := (HS8.out.put (k := 5) (s' := { s1 with low := lo, high := hi }) hlt hG rfl).bad hlt hG ((v5.bad || (hi == lo)) || decide (2 < ps.length + 2))
               rw [HBAD.out, HEQ.out, HLONG.out] at HS9
               obtain ⟨g1, g2, g3⟩ := end_done HS9 hlt hG (v0 := _) (v1 := _) (v2 := _) (v3 := _) (v4 := _) (v5 := _) rfl
               exact box_ret1 g1 rfl rfl Tryz.underlying71 (by kernel_rfl) rfl ⟨by rw [HQ.out, HPF.out], by rw [HQ.out, HPF.out, orBad_eq, orBad_eq, HBAD.out, HEQ.out, HLONG.out]; exact g2, g3⟩)
end Go.Proofs.YtnmbbnhgoedjgaaGreatDoor.RuN

namespace Go.Proofs.YtnmbbnhgoedjgaaGreatDoor.CgW
open Go Go.RowKit Go.Proofs.YtnmbbnhgoedjgaaGreatDoor.Ad1 Go.Proofs.YtnmbbnhgoedjgaaGreatDoor.St2 Go.Proofs.YtnmbbnhgoedjgaaGreatDoor.Ru0 Go.Proofs.YtnmbbnhgoedjgaaGreatDoor.Ru6 Go.Proofs.YtnmbbnhgoedjgaaGreatDoor.RuB Go.Proofs.YtnmbbnhgoedjgaaGreatDoor.RuC Go.Proofs.YtnmbbnhgoedjgaaGreatDoor.RuD Go.Proofs.YtnmbbnhgoedjgaaGreatDoor.RuY Go.Proofs.YtnmbbnhgoedjgaaGreatDoor.Cf0 Go.Proofs.YtnmbbnhgoedjgaaGreatDoor.Cf4 Go.Proofs.YtnmbbnhgoedjgaaGreatDoor.Cf5 Go.Proofs.YtnmbbnhgoedjgaaGreatDoor.Cg0 Go.Proofs.YtnmbbnhgoedjgaaGreatDoor.Cg8 Go.Proofs.YtnmbbnhgoedjgaaGreatDoor.Cg9 Go.Proofs.YtnmbbnhgoedjgaaGreatDoor.CgQ Go.Proofs.YtnmbbnhgoedjgaaGreatDoor.CgR Go.Proofs.YtnmbbnhgoedjgaaGreatDoor.Cf9
set_option linter.unusedVariables false
set_option linter.unusedSimpArgs false
/-- Two boxes and a row of names. -/
structure PrS (W : World) (cs rs : Array Value) (L : List Wd) (sb : Nat) (w : World) : Prop where
  pr : PrU W cs rs w
  strs : ∀ (j : Nat) (x : Wd), L[j]? = some x → w.cell? ⟨sb, j, none⟩ = some (.string ⟨x.toArray⟩)
theorem PrS.below {W : World} {cs rs : Array Value} {L : List Wd} {sb : Nat} {w w' : World} (h : PrS W cs rs L sb w) (hb : Below w.heap.size w w') : PrS W cs rs L sb w' := ⟨h.pr.below hb, strs_below h.strs hb⟩
set_option maxRecDepth 20000 in
set_option maxHeartbeats 4000000 in
theorem wrong_any (c : ConfM) (v0 v1 v2 v3 : Value) (ts : List (NamedM × Value)) (r : RuleM) (W : World) (h : ConfIn W v0 v1 v2 v3 ts c) (hf : FitC c) :
    Calls Tryz.prog 33 #[.agg (confC v0 v1 v2 v3 c), .agg (ruleC r)] W fun e w' => e = .returned (.string ⟨((wrongOf c r).getD []).toArray⟩) ∧ Below W.heap.size W w' := by
  have HN := Lib.hid (show (Tryz.prog.info? 27).map (·.size) = some (confC v0 v1 v2 v3 c).size by kernel_rfl)
  have KI := Lib.hid (fun (n : Wd) W' (hb : Below W.heap.size W W') => refIface_any ifL (·.name) (fun x => ⟨_, _, _, _, rfl⟩) c.ifaces (by have := hf.ni; omega) v0 v1 v2 v3 (.int .i64 c.flows) (.int .i64 c.errors) n W' (h.below hb).ifaces)
  have KI := Lib.hid (show ∀ (n : Wd) W', Below W.heap.size W W' → Calls Tryz.prog 23 #[.agg (confC v0 v1 v2 v3 c), .string ⟨n.toArray⟩] W' _ from KI.out)
  have KT := Lib.hid (fun (n : Wd) W' (hb : Below W.heap.size W W') => refTable_any nmL (·.1.name) (fun x => ⟨_, rfl⟩) ts (by have := hf.nt; have := h.tlen; omega) v0 v1 v2 v3 (.int .i64 c.flows) (.int .i64 c.errors) n W' (h.below hb).tables)
  have KT := Lib.hid (show ∀ (n : Wd) W', Below W.heap.size W W' → Calls Tryz.prog 71 #[.agg (confC v0 v1 v2 v3 c), .string ⟨n.toArray⟩] W' _ from KT.out)
  have HTb := Lib.hid (named_has ts c h.tab)
  have HI : Hid (∀ n, decide (idxF (fun x => x.name == n) c.ifaces < 0) = !hasIface c n) := fun n => idx_neg _ _
  have rc3 : (ruleC r)[3]? = some (.string ⟨r.on.toArray⟩) := rfl
  have rc6 : (ruleC r)[6]? = some (.string ⟨r.frm.table.toArray⟩) := rfl
  have rc12 : (ruleC r)[12]? = some (.string ⟨r.dst.table.toArray⟩) := rfl
  have rc22 : (ruleC r)[22]? = some (.string ⟨r.routeTo.iface.toArray⟩) := rfl
  have rc25 : (ruleC r)[25]? = some (.string ⟨r.replyTo.iface.toArray⟩) := rfl
  have HP := Lib.hid (PrU.new W (confC v0 v1 v2 v3 c) (ruleC r))
  generalize confC v0 v1 v2 v3 c = cs at *
  generalize ruleC r = rs at *
  have q3 := (cell_of_row _ _ 3 _ _ _ HP.out.rul).trans rc3
  have q22 := (cell_of_row _ _ 22 _ _ _ HP.out.rul).trans rc22
  have q25 := (cell_of_row _ _ 25 _ _ _ HP.out.rul).trans rc25
  have HQ : Hid (_ ∧ _) := ⟨rc6, rc12⟩
  clear rc3 rc6 rc12 rc22 rc25 h hf
  go_enter Tryz.func33, Tryz.ntmps33
  go_upto_region 2 with fail
  have HS : Hid (PrS W cs rs (l1 r) (W.heap.size + 1 + 1) (((W.alloc (.cells cs 27)).alloc (.cells rs 75)).alloc (.cells #[.string ⟨r.on.toArray⟩, .string ⟨r.routeTo.iface.toArray⟩, .string ⟨r.replyTo.iface.toArray⟩] 9))) := ⟨HP.out.below (bnew _ _), fun j x hx => row_strs _ (l1 r) _ _ (by simp) j x hx⟩
  clear q3 q22 q25 HP
  generalize ((W.alloc (.cells cs 27)).alloc (.cells rs 75)).alloc (.cells #[.string ⟨r.on.toArray⟩, .string ⟨r.routeTo.iface.toArray⟩, .string ⟨r.replyTo.iface.toArray⟩] 9) = W2 at *
  go_wp2_with fail
  go_loopw [6] (fun s6 wr => ∃ k : Nat, k ≤ 3 ∧ s6 = .int .i64 k ∧ (∀ j y, j < k → (l1 r)[j]? = some y → bad1 c y = false) ∧ PrS W cs rs (l1 r) (W.heap.size + 1 + 1) wr) (fun s6 _ => 3 - (intOf s6).toNat)
  case atStart => exact ⟨0, by omega, rfl, fun j y hj => absurd hj (by omega), HS.out⟩
  case round =>
    obtain ⟨k, hkl, rfl, hno, hs⟩ := hrel
    have HG := Lib.hid hno
    have HS := Lib.hid hs
    clear hno
    by_cases hlt : k < 3
    · have hlt' : (k : Int) < 3 := by omega
      obtain ⟨x, hx⟩ : ∃ x, (l1 r)[k]? = some x := ⟨_, List.getElem?_eq_getElem (by simpa [l1] using hlt)⟩
      have Hx : Hid (∀ p : In (PrS W cs rs (l1 r) (W.heap.size + 1 + 1)), p.val.cell? ⟨(W.heap.size + 1 + 1), k, none⟩ = some (.string ⟨x.toArray⟩)) := fun p => p.property.strs k x hx
      have Hy := Lib.hid hx
      have HM : Hid (bad1 c x = false → ∀ j y, j < k + 1 → (l1 r)[j]? = some y → bad1 c y = false) := fun hb j y hj hy => by
        by_cases e : j = k
        · subst e; rw [hx] at hy; cases hy; exact hb
        · exact HG.out j y (by omega) hy
      have HH : Hid (bad1 c x = true → (l1 r).find? (bad1 c) = some x) := fun hb => find_hit _ _ k x hx hb HG.out
      clear hx hs
      cases h0 : x.isEmpty with
      | true =>
        have HM := Lib.hid (HM.out (by simp [bad1, h0]))
        go_wp2_with fail
        refine region_in (PrS W cs rs (l1 r) (W.heap.size + 1 + 1)) (by kernel_rfl) (by kernel_rfl) (HS.out.below (Below.refl _ _).drew) ?_
        repeat (first
          | go_big_quiet_skip
          | (go_big_quiet_want; first
            | ((with_reducible refine load_one (W.heap.size + 1 + 1) k ?_ Hx.out Tryz.isAgg9 ?_); rfl; simp only [Act.put, List.setIfInBounds_toArray, List.set_cons_zero, List.set_cons_succ]; go_big_quiet_on)
            | ((with_reducible refine load_whole W.heap.size ?_ (fun p => p.property.pr.box) Tryz.underlying27 HN.out ?_); rfl; simp only [Act.put, List.setIfInBounds_toArray, List.set_cons_zero, List.set_cons_succ]; go_big_quiet_on)
            | (go_big_quiet_op; first
              | go_big_quiet_on
              | ((refine ⟨_, fun _ _ => rfl, ?_⟩); go_big_quiet_on)
              | fail)))
        refine wpQuiet_nil ?_
        rintro _ ⟨⟨w2, h2⟩, rfl⟩
        have HS := Lib.hid h2
        have c0 := h2.strs k x Hy.out
        clear h2
        go_wp2_with fail
        go_roundw
        case rel => exact ⟨k + 1, by omega, by go_num, HM.out, HS.out⟩
        case measure => simp only [intOf]; go_num
      | false =>
        have KX := Lib.hid (KI.out x)
        have hi := HI.out x
        have eb : bad1 c x = !hasIface c x := by simp [bad1, h0]
        generalize idxF (fun y => y.name == x) c.ifaces = i at KX hi
        cases hh : hasIface c x with
        | true =>
          rw [hh] at hi eb
          have hi' : ¬ i < 0 := by simpa using hi
          have HM := Lib.hid (HM.out eb)
          clear hi eb hh HH
          go_wp2_with fail
          refine region_in (PrS W cs rs (l1 r) (W.heap.size + 1 + 1)) (by kernel_rfl) (by kernel_rfl) (HS.out.below (Below.refl _ _).drew) ?_
          repeat (first
            | go_big_quiet_skip
            | (go_big_quiet_want; first
              | ((with_reducible refine load_one (W.heap.size + 1 + 1) k ?_ Hx.out Tryz.isAgg9 ?_); rfl; simp only [Act.put, List.setIfInBounds_toArray, List.set_cons_zero, List.set_cons_succ]; go_big_quiet_on)
              | ((with_reducible refine load_whole W.heap.size ?_ (fun p => p.property.pr.box) Tryz.underlying27 HN.out ?_); rfl; simp only [Act.put, List.setIfInBounds_toArray, List.set_cons_zero, List.set_cons_succ]; go_big_quiet_on)
              | (go_big_quiet_op; first
                | go_big_quiet_on
                | ((refine ⟨_, fun _ _ => rfl, ?_⟩); go_big_quiet_on)
                | (apply Exists.intro; (with_reducible refine ⟨fun W1 hW1 => (KX.out W1 hW1.pr.low).mono ?_, ?_⟩); (rintro e w1 ⟨rfl, hb1⟩; exact ⟨rfl, hW1.below hb1⟩); go_big_quiet_on))))
          refine wpQuiet_nil ?_
          rintro _ ⟨⟨w2, h2⟩, rfl⟩
          have HS := Lib.hid h2
          have c0 := h2.strs k x Hy.out
          clear h2
          go_wp2_with fail
          go_roundw
          case rel => exact ⟨k + 1, by omega, by go_num, HM.out, HS.out⟩
          case measure => simp only [intOf]; go_num
        | false =>
          rw [hh] at hi eb
          have hi' : i < 0 := by simpa using hi
          have HV := Lib.hid (show (wrongOf c r).getD [] = x by rw [wrong_eq, HH.out eb]; rfl)
          clear hi eb hh HM HH
          go_wp2_with fail
          refine region_in (PrS W cs rs (l1 r) (W.heap.size + 1 + 1)) (by kernel_rfl) (by kernel_rfl) (HS.out.below (Below.refl _ _).drew) ?_
          repeat (first
            | go_big_quiet_skip
            | (go_big_quiet_want; first
              | ((with_reducible refine load_one (W.heap.size + 1 + 1) k ?_ Hx.out Tryz.isAgg9 ?_); rfl; simp only [Act.put, List.setIfInBounds_toArray, List.set_cons_zero, List.set_cons_succ]; go_big_quiet_on)
              | ((with_reducible refine load_whole W.heap.size ?_ (fun p => p.property.pr.box) Tryz.underlying27 HN.out ?_); rfl; simp only [Act.put, List.setIfInBounds_toArray, List.set_cons_zero, List.set_cons_succ]; go_big_quiet_on)
              | (go_big_quiet_op; first
                | go_big_quiet_on
                | ((refine ⟨_, fun _ _ => rfl, ?_⟩); go_big_quiet_on)
                | (apply Exists.intro; (with_reducible refine ⟨fun W1 hW1 => (KX.out W1 hW1.pr.low).mono ?_, ?_⟩); (rintro e w1 ⟨rfl, hb1⟩; exact ⟨rfl, hW1.below hb1⟩); go_big_quiet_on))))
          refine wpQuiet_nil ?_
          rintro _ ⟨⟨w2, h2⟩, rfl⟩
          have HS := Lib.hid h2
          have c0 := h2.strs k x Hy.out
          clear h2
          go_wp2_with fail
          go_ret
          exact ⟨by rw [HV.out]; rfl, HS.out.pr.low⟩
    · have hge : ¬ (k : Int) < 3 := by omega
      have hke : k = 3 := by omega
      have HG2 : Hid (∀ j y, j < (l1 r).length → (l1 r)[j]? = some y → bad1 c y = false) := by rw [show (l1 r).length = 3 from rfl, ← hke]; exact HG.out
      have HZ6 := Lib.hid (find_miss (bad1 c) (l1 r) HG2.out)
      have HP := Lib.hid hs.pr
      clear HS hs HG HG2
      have q6 := (cell_of_row _ _ 6 _ _ _ HP.out.rul).trans HQ.out.1
      have q12 := (cell_of_row _ _ 12 _ _ _ HP.out.rul).trans HQ.out.2
      go_upto_region 8 with fail
      have HS : Hid (PrS W cs rs (l2 r) wr.heap.size (wr.alloc (.cells #[.string ⟨r.frm.table.toArray⟩, .string ⟨r.dst.table.toArray⟩] 9))) := ⟨HP.out.below (bnew _ _), fun j x hx => row_strs _ (l2 r) _ _ rfl j x hx⟩
      clear q6 q12 HP
      generalize wr.alloc (.cells #[.string ⟨r.frm.table.toArray⟩, .string ⟨r.dst.table.toArray⟩] 9) = W3 at *
      generalize wr.heap.size = sb at *
      go_wp2_with fail
      go_loopw [7] (fun s7 wr => ∃ k : Nat, k ≤ 2 ∧ s7 = .int .i64 k ∧ (∀ j y, j < k → (l2 r)[j]? = some y → bad2 c y = false) ∧ PrS W cs rs (l2 r) sb wr) (fun s7 _ => 2 - (intOf s7).toNat)
      case atStart => exact ⟨0, by omega, rfl, fun j y hj => absurd hj (by omega), HS.out⟩
      case round =>
        obtain ⟨k, hkl, rfl, hno, hs⟩ := hrel
        have HG := Lib.hid hno
        have HS := Lib.hid hs
        clear hno
        by_cases hlt : k < 2
        · have hlt' : (k : Int) < 2 := by omega
          obtain ⟨x, hx⟩ : ∃ x, (l2 r)[k]? = some x := ⟨_, List.getElem?_eq_getElem (by simpa [l2] using hlt)⟩
          have Hx : Hid (∀ p : In (PrS W cs rs (l2 r) sb), p.val.cell? ⟨sb, k, none⟩ = some (.string ⟨x.toArray⟩)) := fun p => p.property.strs k x hx
          have Hy := Lib.hid hx
          have HM : Hid (bad2 c x = false → ∀ j y, j < k + 1 → (l2 r)[j]? = some y → bad2 c y = false) := fun hb j y hj hy => by
            by_cases e : j = k
            · subst e; rw [hx] at hy; cases hy; exact hb
            · exact HG.out j y (by omega) hy
          have HH : Hid (bad2 c x = true → (l2 r).find? (bad2 c) = some x) := fun hb => find_hit _ _ k x hx hb HG.out
          clear hx hs
          cases h0 : x.isEmpty with
          | true =>
            have HM := Lib.hid (HM.out (by simp [bad2, h0]))
            go_wp2_with fail
            refine region_in (PrS W cs rs (l2 r) sb) (by kernel_rfl) (by kernel_rfl) (HS.out.below (Below.refl _ _).drew) ?_
            repeat (first
              | go_big_quiet_skip
              | (go_big_quiet_want; first
                | ((with_reducible refine load_one sb k ?_ Hx.out Tryz.isAgg9 ?_); rfl; simp only [Act.put, List.setIfInBounds_toArray, List.set_cons_zero, List.set_cons_succ]; go_big_quiet_on)
                | ((with_reducible refine load_whole W.heap.size ?_ (fun p => p.property.pr.box) Tryz.underlying27 HN.out ?_); rfl; simp only [Act.put, List.setIfInBounds_toArray, List.set_cons_zero, List.set_cons_succ]; go_big_quiet_on)
                | (go_big_quiet_op; first
                  | go_big_quiet_on
                  | ((refine ⟨_, fun _ _ => rfl, ?_⟩); go_big_quiet_on)
                  | fail)))
            refine wpQuiet_nil ?_
            rintro _ ⟨⟨w2, h2⟩, rfl⟩
            have HS := Lib.hid h2
            have c0 := h2.strs k x Hy.out
            clear h2
            go_wp2_with fail
            go_roundw
            case rel => exact ⟨k + 1, by omega, by go_num, HM.out, HS.out⟩
            case measure => simp only [intOf]; go_num
          | false =>
            have KX := Lib.hid (KT.out x)
            rw [HTb.out x] at KX
            have eb : bad2 c x = !hasTable c x := by simp [bad2, h0]
            cases hh : hasTable c x with
            | true =>
              rw [hh] at KX eb
              have HM := Lib.hid (HM.out eb)
              clear eb hh HH
              go_wp2_with fail
              refine region_in (PrS W cs rs (l2 r) sb) (by kernel_rfl) (by kernel_rfl) (HS.out.below (Below.refl _ _).drew) ?_
              repeat (first
                | go_big_quiet_skip
                | (go_big_quiet_want; first
                  | ((with_reducible refine load_one sb k ?_ Hx.out Tryz.isAgg9 ?_); rfl; simp only [Act.put, List.setIfInBounds_toArray, List.set_cons_zero, List.set_cons_succ]; go_big_quiet_on)
                  | ((with_reducible refine load_whole W.heap.size ?_ (fun p => p.property.pr.box) Tryz.underlying27 HN.out ?_); rfl; simp only [Act.put, List.setIfInBounds_toArray, List.set_cons_zero, List.set_cons_succ]; go_big_quiet_on)
                  | (go_big_quiet_op; first
                    | go_big_quiet_on
                    | ((refine ⟨_, fun _ _ => rfl, ?_⟩); go_big_quiet_on)
                    | (apply Exists.intro; (with_reducible refine ⟨fun W1 hW1 => (KX.out W1 hW1.pr.low).mono ?_, ?_⟩); (rintro e w1 ⟨rfl, hb1⟩; exact ⟨rfl, hW1.below hb1⟩); go_big_quiet_on))))
              refine wpQuiet_nil ?_
              rintro _ ⟨⟨w2, h2⟩, rfl⟩
              have HS := Lib.hid h2
              have c0 := h2.strs k x Hy.out
              clear h2
              go_wp2_with fail
              go_roundw
              case rel => exact ⟨k + 1, by omega, by go_num, HM.out, HS.out⟩
              case measure => simp only [intOf]; go_num
            | false =>
              rw [hh] at KX eb
              have HV := Lib.hid (show (wrongOf c r).getD [] = x by rw [wrong_eq, HZ6.out, HH.out eb]; rfl)
              clear eb hh HM HH
              go_wp2_with fail
              refine region_in (PrS W cs rs (l2 r) sb) (by kernel_rfl) (by kernel_rfl) (HS.out.below (Below.refl _ _).drew) ?_
              repeat (first
                | go_big_quiet_skip
                | (go_big_quiet_want; first
                  | ((with_reducible refine load_one sb k ?_ Hx.out Tryz.isAgg9 ?_); rfl; simp only [Act.put, List.setIfInBounds_toArray, List.set_cons_zero, List.set_cons_succ]; go_big_quiet_on)
                  | ((with_reducible refine load_whole W.heap.size ?_ (fun p => p.property.pr.box) Tryz.underlying27 HN.out ?_); rfl; simp only [Act.put, List.setIfInBounds_toArray, List.set_cons_zero, List.set_cons_succ]; go_big_quiet_on)
                  | (go_big_quiet_op; first
                    | go_big_quiet_on
                    | ((refine ⟨_, fun _ _ => rfl, ?_⟩); go_big_quiet_on)
                    | (apply Exists.intro; (with_reducible refine ⟨fun W1 hW1 => (KX.out W1 hW1.pr.low).mono ?_, ?_⟩); (rintro e w1 ⟨rfl, hb1⟩; exact ⟨rfl, hW1.below hb1⟩); go_big_quiet_on))))
              refine wpQuiet_nil ?_
              rintro _ ⟨⟨w2, h2⟩, rfl⟩
              have HS := Lib.hid h2
              have c0 := h2.strs k x Hy.out
              clear h2
              go_wp2_with fail
              go_ret
              exact ⟨by rw [HV.out]; rfl, HS.out.pr.low⟩
        · have hge : ¬ (k : Int) < 2 := by omega
          have hke : k = 2 := by omega
          have HG2 : Hid (∀ j y, j < (l2 r).length → (l2 r)[j]? = some y → bad2 c y = false) := by rw [show (l2 r).length = 2 from rfl, ← hke]; exact HG.out
          have HZ7 := Lib.hid (find_miss (bad2 c) (l2 r) HG2.out)
          have HV := Lib.hid (show (wrongOf c r).getD [] = [] by rw [wrong_eq, HZ6.out, HZ7.out]; rfl)
          go_wp2_with fail
          go_ret
          exact ⟨by rw [HV.out]; rfl, hs.pr.low⟩
end Go.Proofs.YtnmbbnhgoedjgaaGreatDoor.CgW

namespace Go.Proofs.YtnmbbnhgoedjgaaGreatDoor.CgS
open Go Go.RowKit Go.Proofs.YtnmbbnhgoedjgaaGreatDoor.Eq Go.Proofs.YtnmbbnhgoedjgaaGreatDoor.Ad0 Go.Proofs.YtnmbbnhgoedjgaaGreatDoor.Ad1 Go.Proofs.YtnmbbnhgoedjgaaGreatDoor.RuE Go.Proofs.YtnmbbnhgoedjgaaGreatDoor.Cf0 Go.Proofs.YtnmbbnhgoedjgaaGreatDoor.Cf6 Go.Proofs.YtnmbbnhgoedjgaaGreatDoor.Cg0
set_option linter.unusedVariables false
set_option linter.unusedSimpArgs false
theorem iface_dec (p q : IfaceM) : decide (p = q) = ((p.name == q.name) && (decide (p.addr = q.addr) && ((p.mtu == q.mtu) && ((p.rpf == q.rpf) && true)))) := by
  obtain ⟨a, b, c, e⟩ := p
  obtain ⟨a', b', c', e'⟩ := q
  rw [Bool.eq_iff_iff]
  simp only [decide_eq_true_eq, IfaceM.mk.injEq, Bool.and_eq_true, beq_iff_eq, and_true]
theorem ex_addr (p : IfaceM) : (ifL p).toArray.extract 1 (1 + 2) = #[.int .u32 (p.addr.addr : Nat), .int .i64 p.addr.len] := rfl
section
open Go.Proofs.YtnmbbnhgoedjgaaGreatDoor.RuE
theorem equalIn_iface (d : Nat) (p q : IfaceM) (W : World) : (Op.equalIn (d + 3) 45 (.agg (ifL p).toArray) (.agg (ifL q).toArray)).run Tryz.prog W = .ok (decide (p = q)) W := by
  rw [iface_dec]
  exact eq_struct Tryz.underlying45 (by kernel_rfl) (fs (by rfl) rfl rfl rfl (fr (by rfl) rfl Tryz.underlying43 (by kernel_rfl) (ex_addr p) (ex_addr q) (equalIn_pfx d p.addr q.addr W)
    (fi (by rfl) rfl rfl rfl (fi (by rfl) rfl rfl rfl eqf_nil))))
end
theorem ne_iface (p q : IfaceM) (W : World) : (binOp .neq 45 (.agg (ifL p).toArray) (.agg (ifL q).toArray)).run Tryz.prog W = .ok (.bool (!decide (p = q))) W := neq_struct (equalIn_iface 9997 p q W)
theorem ne_pfx (p q : Pfx) (W : World) : (binOp .neq 43 (.agg (pfxL p).toArray) (.agg (pfxL q).toArray)).run Tryz.prog W = .ok (.bool (!decide (p = q))) W := neq_struct (equalIn_pfx 9998 p q W)
theorem named_dec (p q : NamedM) : decide (p = q) = ((p.name == q.name) && decide (p.l = q.l)) := by
  obtain ⟨a, b⟩ := p
  obtain ⟨a', b'⟩ := q
  rw [Bool.eq_iff_iff]
  simp only [decide_eq_true_eq, NamedM.mk.injEq, Bool.and_eq_true, beq_iff_eq]
end Go.Proofs.YtnmbbnhgoedjgaaGreatDoor.CgS

namespace Go.Proofs.YtnmbbnhgoedjgaaGreatDoor.CgT
open Go Go.RowKit Go.Proofs.YtnmbbnhgoedjgaaGreatDoor.Ad1 Go.Proofs.YtnmbbnhgoedjgaaGreatDoor.St2 Go.Proofs.YtnmbbnhgoedjgaaGreatDoor.Ru6 Go.Proofs.YtnmbbnhgoedjgaaGreatDoor.RuB Go.Proofs.YtnmbbnhgoedjgaaGreatDoor.RuC Go.Proofs.YtnmbbnhgoedjgaaGreatDoor.RuY Go.Proofs.YtnmbbnhgoedjgaaGreatDoor.Cf0 Go.Proofs.YtnmbbnhgoedjgaaGreatDoor.Cf4 Go.Proofs.YtnmbbnhgoedjgaaGreatDoor.Cg0 Go.Proofs.YtnmbbnhgoedjgaaGreatDoor.Cg4
set_option linter.unusedVariables false
set_option linter.unusedSimpArgs false
theorem conf_dec (p q : ConfM) : decide (p = q) = (decide (p.flows = q.flows) && (decide (p.errors = q.errors) && (decide (p.ifaces = q.ifaces) && (decide (p.bogons = q.bogons) && (decide (p.rules = q.rules) && decide (p.tables = q.tables)))))) := by
  obtain ⟨a, b, c, d, e, f⟩ := p
  obtain ⟨a', b', c', d', e', f'⟩ := q
  rw [Bool.eq_iff_iff]
  simp only [decide_eq_true_eq, ConfM.mk.injEq, Bool.and_eq_true]
  constructor
  · rintro ⟨h1, h2, h3, h4, h5, h6⟩; exact ⟨h5, h6, h1, h2, h4, h3⟩
  · rintro ⟨h5, h6, h1, h2, h4, h3⟩; exact ⟨h1, h2, h3, h4, h5, h6⟩
/-- Two boxes. -/
structure PrD (W : World) (cs ds : Array Value) (w : World) : Prop where
  one : w.heap[W.heap.size]? = some (.cells cs 27 (0, 0))
  two : w.heap[W.heap.size + 1]? = some (.cells ds 27 (0, 0))
  low : Below W.heap.size W w
  lt : W.heap.size + 1 < w.heap.size
section
variable {W : World} {cs ds : Array Value}
theorem PrD.below {w w' : World} (h : PrD W cs ds w) (hb : Below w.heap.size w w') : PrD W cs ds w' :=
  ⟨(hb.block _ (by have := h.lt; omega)).trans h.one, (hb.block _ h.lt).trans h.two, bstep h.low hb h.low.size, Nat.lt_of_lt_of_le h.lt hb.size⟩
theorem PrD.new (W : World) (cs ds : Array Value) : PrD W cs ds ((W.alloc (.cells cs 27)).alloc (.cells ds 27)) :=
  ⟨heap_alloc2_old W _ _, heap_alloc2_new W _ _, bnew2 W _ _, by simp⟩
theorem PrD.c {w : World} (h : PrD W cs ds w) {k : Nat} {v : Value} (hk : cs[k]? = some v) : w.cell? ⟨W.heap.size, k, none⟩ = some v := (cell_of_row _ _ k _ _ _ h.one).trans hk
theorem PrD.d {w : World} (h : PrD W cs ds w) {k : Nat} {v : Value} (hk : ds[k]? = some v) : w.cell? ⟨W.heap.size + 1, k, none⟩ = some v := (cell_of_row _ _ k _ _ _ h.two).trans hk
end
end Go.Proofs.YtnmbbnhgoedjgaaGreatDoor.CgT

namespace Go.Proofs.YtnmbbnhgoedjgaaGreatDoor.RuU
open Go Go.RowKit Go.Proofs.YtnmbbnhgoedjgaaGreatDoor.Ad1 Go.Proofs.YtnmbbnhgoedjgaaGreatDoor.Ad3 Go.Proofs.YtnmbbnhgoedjgaaGreatDoor.St2 Go.Proofs.YtnmbbnhgoedjgaaGreatDoor.St3 Go.Proofs.YtnmbbnhgoedjgaaGreatDoor.Ru0 Go.Proofs.YtnmbbnhgoedjgaaGreatDoor.Ru6 Go.Proofs.YtnmbbnhgoedjgaaGreatDoor.RuB Go.Proofs.YtnmbbnhgoedjgaaGreatDoor.RuC
set_option linter.unusedVariables false
set_option linter.unusedSimpArgs false
def strs (xs : List Wd) : List Value := xs.map fun x => .string ⟨x.toArray⟩
/-- The words so far, while a rule is printed: a slice in a variable of a block of its own. -/
structure PW (w : World) (r : RuleM) (vb : Nat) (xs : List Wd) (W : World) : Prop where
  row : W.heap[w.heap.size]? = some (.cells (ruleC r) 75 (0, 0))
  own : ∃ v, W.heap[vb]? = some (.cells #[v] 55 (0, 0)) ∧ W.ownsRow (w.heap.size + 1) 9 1 v xs.length (strs xs) ∧ v.ownBlock ≠ some vb
  low : Below w.heap.size w W
  lib : LibOK W
  vlt : w.heap.size < vb
theorem strs_len (xs : List Wd) : (strs xs).length = xs.length := by simp [strs]
theorem strs_append (xs ys : List Wd) : strs (xs ++ ys) = strs xs ++ strs ys := by simp [strs]
theorem PW.below {w W W' : World} {r : RuleM} {vb : Nat} {xs : List Wd} (h : PW w r vb xs W) (hb : Below W.heap.size W W') : PW w r vb xs W' := by
  obtain ⟨v, hv, ho, hne⟩ := h.own
  have hr := Array.getElem?_eq_some_iff.1 h.row |>.1
  have hvl := Array.getElem?_eq_some_iff.1 hv |>.1
  exact ⟨(hb.block _ hr).trans h.row, ⟨v, (hb.block _ hvl).trans hv, B1.own_below ho hb, hne⟩, bstep h.low hb h.low.size, h.lib.below hb, h.vlt⟩
theorem pw_set {w W : World} {r : RuleM} {vb : Nat} {xs : List Wd} {u v : Value} (hrow : W.heap[w.heap.size]? = some (.cells (ruleC r) 75 (0, 0))) (hu : W.heap[vb]? = some (.cells #[u] 55 (0, 0))) (ho : W.ownsRow (w.heap.size + 1) 9 1 v xs.length (strs xs)) (hne : v.ownBlock ≠ some vb) (hlow : Below w.heap.size w W) (hlib : LibOK W) (hlib' : LibOK (W.setCell ⟨vb, 0, none⟩ v)) (hv : w.heap.size < vb) : PW w r vb xs (W.setCell ⟨vb, 0, none⟩ v) := by
  refine ⟨?_, ⟨v, ?_, ?_, hne⟩, ?_, hlib', hv⟩
  · rw [heap_setCell_other _ _ _ _ (by simp; omega)]; exact hrow
  · exact heap_setCell_same W vb 0 #[u] 55 v hu
  · refine ho.kept (row := some vb) ⟨rfl, rfl, rfl, by simp, fun k _ hk => heap_setCell_other W ⟨vb, 0, none⟩ k v (fun e => hk (by simp [e]))⟩ ?_
    cases hb : v.ownBlock with
    | none => exact .inl rfl
    | some k => rw [hb] at hne; exact .inr hne
  · exact set_b hlow (Nat.le_of_lt hv)
theorem row_slice {W : World} {base n vb : Nat} {v v' : Value} {xs : List Value} (ho : W.ownsRow base 9 1 v' n xs) (hn : 0 < n) (hv : W.heap[vb]? = some (.cells #[v] 55 (0, 0))) : ∃ g cap, v' = .slice (some ⟨g, 0, none⟩) n cap ∧ g ≠ vb := by
  rcases ho.2 with ⟨_, h0⟩ | ⟨g, cap, cur, rfl, _, hg, _⟩
  · omega
  · refine ⟨g, cap, rfl, ?_⟩
    rintro rfl
    rw [hv] at hg
    cases hg
set_option maxRecDepth 20000 in
set_option maxHeartbeats 2000000 in
theorem add_any {w W : World} {r : RuleM} {vb : Nat} {xs : List Wd} (h : PW w r vb xs W) (hlw : LibOK w) (yes : Bool) (ys : List Wd) (hy : ys ≠ []) (hn : xs.length + ys.length ≤ 1000) (cs : Array Value) (hcs : cs = (strs ys).toArray) (m : Nat) (hm : ys.length = m) :
    Calls Tryz.prog 128 #[.bool yes, .slice (some ⟨W.heap.size, 0, none⟩) m m, .pointer (some ⟨vb, 0, none⟩)] (W.alloc (.cells cs 9)) fun e w' => e = .returned (.tuple #[]) ∧ PW w r vb (if yes then xs ++ ys else xs) w' := by
  subst hcs hm
  cases yes with
  | false =>
    have HP := Lib.hid (h.below (bnew W (.cells (strs ys).toArray 9)))
    clear h
    go_enter Tryz.func128, Tryz.ntmps128
    go_wp2_with fail
    refine bodyPost_end (results_none rfl _ _ _) rfl ?_
    exact ⟨rfl, HP.out⟩
  | true =>
    obtain ⟨v, hv, ho, hne⟩ := h.own
    have hvl := Array.getElem?_eq_some_iff.1 hv |>.1
    have hrl := Array.getElem?_eq_some_iff.1 h.row |>.1
    have hva : (W.alloc (.cells (strs ys).toArray 9)).heap[vb]? = some (.cells #[v] 55 (0, 0)) := ((bnew W _).block _ hvl).trans hv
    have c0 : (W.alloc (.cells (strs ys).toArray 9)).cell? ⟨vb, 0, none⟩ = some v := cell_of_row _ _ _ _ _ _ hva
    have hyl : 0 < ys.length := List.length_pos_iff.2 hy
    have hb1 := bnew W (.cells (strs ys).toArray 9)
    have hcl : ∀ (j : Nat) (u : Value), (strs ys)[j]? = some u → (W.alloc (.cells (strs ys).toArray 9)).cell? ((⟨W.heap.size, 0, none⟩ : Addr).add j) = some u := by
      intro j u hj
      have hadd : (⟨W.heap.size, 0, none⟩ : Addr).add j = ⟨W.heap.size, j, none⟩ := by unfold Addr.add; split <;> simp_all
      rw [hadd, cell_of_row _ _ _ _ _ _ (heap_alloc_new W (.cells (strs ys).toArray 9))]
      simpa using hj
    have h1c : ∀ u ∈ strs ys, u.oneCell' = true := by
      intro u hu
      obtain ⟨x, _, rfl⟩ := List.mem_map.1 hu
      rfl
    have ho1 := ho.alloc (.cells (strs ys).toArray 9)
    have hp1 := h.below hb1
    have hsz : W.heap.size < (W.alloc (.cells (strs ys).toArray 9)).heap.size := by simp
    generalize (W.alloc (.cells (strs ys).toArray 9)) = W1 at *
    have hws := h.low.size
    have HO := Lib.hid ho1
    have HNE := Lib.hid hne
    have HVA := Lib.hid hva
    have HP := Lib.hid hp1
    have HCL := Lib.hid hcl
    have H1C := Lib.hid h1c
    obtain ⟨i0, hi, hz0, hz1, hz2⟩ := info_parts info9
    have HI := Lib.hid hi
    have HZ0 := Lib.hid hz0
    have HZ1 := Lib.hid hz1
    have HZ2 := Lib.hid hz2
    have HVLT := Lib.hid h.vlt
    have HLW := Lib.hid hlw
    have HF := Lib.hid (show xs.length + ys.length ≤ 1000 ∧ 0 < ys.length ∧ w.heap.size ≤ W.heap.size ∧ W.heap.size < W1.heap.size ∧ vb < W.heap.size ∧ w.heap.size < W.heap.size from ⟨hn, hyl, hws, hsz, hvl, hrl⟩)
    clear h ho hne hva hv hi hz0 hz1 hz2 hcl h1c ho1 hp1 hb1 hn hyl hws hsz hvl hrl hy hlw
    go_enter Tryz.func128, Tryz.ntmps128
    go_wp2_with (at_builtin; refine wpList_append_own _ rfl _ _ 55 rfl (w.heap.size + 1) 9 i0 (.string ByteArray.empty) 1 16 Tryz.underlying55 HI.out HZ0.out HZ1.out HZ2.out rfl (by decide) v xs.length (strs xs) rfl HO.out ⟨W.heap.size, 0, none⟩ ys.length ys.length (strs ys) rfl (by rw [strs_len, Nat.mul_one]) HCL.out H1C.out (by have := HF.out; simp [maxLen]; omega) (by have := HF.out; omega) (by have := HF.out; omega) ?_; intro v' w' ho' hg' hnil; have hvb : w'.heap[vb]? = some (.cells #[v] 55 (0, 0)) := (hg'.block vb (by have := HF.out; omega) (fun e => HNE.out e.symm)).trans HVA.out; have c0' : w'.cell? ⟨vb, 0, none⟩ = some v := cell_of_row _ _ _ _ _ _ hvb; have f0' : w'.frozen? ⟨vb, 0, none⟩ = false := frozen_of_row _ _ _ _ _ hvb; obtain ⟨g', cap', hvv, hgne⟩ := row_slice ho' (by have := HF.out; omega) hvb; subst hvv; have HO' := Lib.hid ho'; have HG' := Lib.hid hg'; have HVB := Lib.hid hvb; have HGN := Lib.hid hgne; clear ho' hg' hnil hvb hgne c0)
    refine bodyPost_end (results_none rfl _ _ _) rfl ?_
    have h1 := HP.out.low
    have hlow : Below w.heap.size w _ := Below.grown h1 HG'.out h1.size (fun k hk => by have := (HO.out.lt k hk).1; omega)
    refine ⟨rfl, ?_⟩
    try rw [if_pos rfl]
    refine pw_set ?_ HVB.out ?_ ?_ hlow (HLW.out.below hlow) (HLW.out.below (set_b hlow (Nat.le_of_lt HVLT.out))) HVLT.out
    · exact (HG'.out.block _ (by have := HF.out; omega) (fun e => by have := (HO.out.lt _ e.symm).1; omega)).trans HP.out.row
    · rw [strs_append, List.length_append]; exact HO'.out
    · intro e
      exact HGN.out (by simpa [Value.ownBlock] using e)
end Go.Proofs.YtnmbbnhgoedjgaaGreatDoor.RuU

