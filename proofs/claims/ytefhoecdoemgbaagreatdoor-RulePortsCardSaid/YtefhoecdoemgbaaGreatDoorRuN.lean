/- castellanref14.reader: end. -/
import Derived.Test.YtefhoecdoemgbaaGreatDoorRuM
namespace Go.Proofs.YtefhoecdoemgbaaGreatDoor.RuN
open Go Go.RowKit Go.Proofs.YtefhoecdoemgbaaGreatDoor.Ad0 Go.Proofs.YtefhoecdoemgbaaGreatDoor.Ad1 Go.Proofs.YtefhoecdoemgbaaGreatDoor.Ad3 Go.Proofs.YtefhoecdoemgbaaGreatDoor.St0 Go.Proofs.YtefhoecdoemgbaaGreatDoor.St1 Go.Proofs.YtefhoecdoemgbaaGreatDoor.St2 Go.Proofs.YtefhoecdoemgbaaGreatDoor.St3 Go.Proofs.YtefhoecdoemgbaaGreatDoor.St4 Go.Proofs.YtefhoecdoemgbaaGreatDoor.St5 Go.Proofs.YtefhoecdoemgbaaGreatDoor.St7 Go.Proofs.YtefhoecdoemgbaaGreatDoor.St8 Go.Proofs.YtefhoecdoemgbaaGreatDoor.St9 Go.Proofs.YtefhoecdoemgbaaGreatDoor.StA Go.Proofs.YtefhoecdoemgbaaGreatDoor.Ru0 Go.Proofs.YtefhoecdoemgbaaGreatDoor.Ru1 Go.Proofs.YtefhoecdoemgbaaGreatDoor.Ru4 Go.Proofs.YtefhoecdoemgbaaGreatDoor.Ru5 Go.Proofs.YtefhoecdoemgbaaGreatDoor.Ru6 Go.Proofs.YtefhoecdoemgbaaGreatDoor.Ru7 Go.Proofs.YtefhoecdoemgbaaGreatDoor.Ru8 Go.Proofs.YtefhoecdoemgbaaGreatDoor.Ru9 Go.Proofs.YtefhoecdoemgbaaGreatDoor.RuB Go.Proofs.YtefhoecdoemgbaaGreatDoor.RuC Go.Proofs.YtefhoecdoemgbaaGreatDoor.RuK
set_option linter.unusedVariables false
set_option linter.unusedSimpArgs false

/-- While an end is read: the reader, the end so far, the box of the result. -/
structure EndSt (W : World) (g : Nat) (s : SideM) (ws : Ws) (W2 : World) : Prop where
  rd : Rd 63 W2 g ws
  box : W2.heap[W.heap.size + 1]? = some (.cells (sideC s) 28 (0, 0))
  res : W2.heap[W.heap.size]? = some (.cells (sideC {}) 28 (0, 0))
  upto : Upto g W W2
  lib : LibOK W2
  big : W.heap.size + 1 < W2.heap.size
theorem EndSt.call {W W2 W3 : World} {g : Nat} {s : SideM} {ws ws' : Ws} (h : EndSt W g s ws W2) (hg : g < W.heap.size) (hG : LibLow g) (hr : Rd 63 W3 g ws') (hu : Upto g W2 W3) : EndSt W g s ws' W3 :=
  ⟨hr, hu.row h.box (by omega), hu.row h.res (by omega), h.upto.trans hu, lib_upto h.lib hu hG (Nat.le_of_lt h.rd.lt), Nat.lt_of_lt_of_le h.big hu.size⟩
theorem EndSt.below {W W2 W3 : World} {g : Nat} {s : SideM} {ws : Ws} (h : EndSt W g s ws W2) (hb : Below W2.heap.size W2 W3) : EndSt W g s ws W3 :=
  ⟨h.rd.below hb, (hb.block _ h.big).trans h.box, (hb.block _ (Nat.lt_of_succ_lt h.big)).trans h.res, h.upto.trans (Upto.of_below hb), h.lib.below hb, Nat.lt_of_lt_of_le h.big hb.size⟩
theorem EndSt.bad {W W2 : World} {g : Nat} {s : SideM} {ws : Ws} (h : EndSt W g s ws W2) (hg : g < W.heap.size) (hG : LibLow g) (b : Bool) : EndSt W g s ⟨ws.l, b⟩ (W2.setCell ⟨g, 1, none⟩ (.bool b)) :=
  h.call hg hG (h.rd.bad b) (Upto.refl _ _).set
theorem EndSt.put {W W2 : World} {g k : Nat} {s s' : SideM} {ws : Ws} {v : Value} (h : EndSt W g s ws W2) (hg : g < W.heap.size) (hG : LibLow g) (he : (sideC s).setIfInBounds k v = sideC s') : EndSt W g s' ws (W2.setCell ⟨W.heap.size + 1, k, none⟩ v) :=
  ⟨h.rd.above (set_b (Below.refl _ _) (by omega)), by rw [← he]; exact set_at h.box, by rw [heap_setCell_other _ _ _ _ (by simp)]; exact h.res, h.upto.set_new (by omega), lib_low h.lib (set_b (Below.refl _ _) (by omega)) hG, by rw [size_set]; exact h.big⟩
theorem EndSt.draw {W W2 : World} {g : Nat} {s : SideM} {ws : Ws} (h : EndSt W g s ws W2) (n : Nat) : EndSt W g s ws (W2.drewN n) := h.below (bdrewN (Below.refl _ _) n)
theorem EndSt.facts {W W2 : World} {g : Nat} {s : SideM} {ws : Ws} (h : EndSt W g s ws W2) : (W2.cell? ⟨g, 1, none⟩ = some (.bool ws.bad) ∧ W2.frozen? ⟨g, 1, none⟩ = false) ∧
    (W2.cell? ⟨W.heap.size + 1, 0, none⟩ = some (.bool s.any) ∧ W2.cell? ⟨W.heap.size + 1, 1, none⟩ = some (.string ⟨s.table.toArray⟩) ∧ W2.cell? ⟨W.heap.size + 1, 2, none⟩ = some (.int .u32 (s.pfx.addr : Nat)) ∧ W2.cell? ⟨W.heap.size + 1, 3, none⟩ = some (.int .i64 s.pfx.len) ∧ W2.cell? ⟨W.heap.size + 1, 4, none⟩ = some (.int .i64 s.low) ∧ W2.cell? ⟨W.heap.size + 1, 5, none⟩ = some (.int .i64 s.high)) ∧
    (W2.frozen? ⟨W.heap.size + 1, 0, none⟩ = false ∧ W2.frozen? ⟨W.heap.size + 1, 1, none⟩ = false ∧ W2.frozen? ⟨W.heap.size + 1, 2, none⟩ = false ∧ W2.frozen? ⟨W.heap.size + 1, 3, none⟩ = false ∧ W2.frozen? ⟨W.heap.size + 1, 4, none⟩ = false ∧ W2.frozen? ⟨W.heap.size + 1, 5, none⟩ = false) := by
  obtain ⟨a0, a1, a2, a3, a4, a5, b0, b1, b2, b3, b4, b5⟩ := box6 h.box
  exact ⟨h.rd.cells, ⟨a0, a1, a2, a3, a4, a5⟩, b0, b1, b2, b3, b4, b5⟩
theorem end_start (W : World) (g : Nat) (ws : Ws) (h : Rd 63 W g ws) (hl : LibOK W) : EndSt W g startS ws ((W.alloc (.cells (sideC {}) 28)).alloc (.cells (sideC startS) 28)) := by
  have hb := bnew2 W (.cells (sideC {}) 28) (.cells (sideC startS) 28)
  exact ⟨h.below hb, heap_alloc2_new _ _ _, heap_alloc2_old _ _ _, Upto.of_below hb, hl.below hb, by simp⟩
/-- The end is handed back. -/
theorem end_done {W W2 : World} {g : Nat} {s : SideM} {ws : Ws} (h : EndSt W g s ws W2) (hg : g < W.heap.size) (hG : LibLow g) {v0 v1 v2 v3 v4 v5 : Value} (hv : #[v0, v1, v2, v3, v4, v5] = sideC s) :
    ((((((W2.setCell ⟨W.heap.size, 0, none⟩ v0).setCell ⟨W.heap.size, 1, none⟩ v1).setCell ⟨W.heap.size, 2, none⟩ v2).setCell ⟨W.heap.size, 3, none⟩ v3).setCell ⟨W.heap.size, 4, none⟩ v4).setCell ⟨W.heap.size, 5, none⟩ v5).heap[W.heap.size]? = some (.cells (sideC s) 28 (0, 0)) ∧
    Rd 63 ((((((W2.setCell ⟨W.heap.size, 0, none⟩ v0).setCell ⟨W.heap.size, 1, none⟩ v1).setCell ⟨W.heap.size, 2, none⟩ v2).setCell ⟨W.heap.size, 3, none⟩ v3).setCell ⟨W.heap.size, 4, none⟩ v4).setCell ⟨W.heap.size, 5, none⟩ v5) g ws ∧
    Upto g W ((((((W2.setCell ⟨W.heap.size, 0, none⟩ v0).setCell ⟨W.heap.size, 1, none⟩ v1).setCell ⟨W.heap.size, 2, none⟩ v2).setCell ⟨W.heap.size, 3, none⟩ v3).setCell ⟨W.heap.size, 4, none⟩ v4).setCell ⟨W.heap.size, 5, none⟩ v5) := by
  refine ⟨?_, h.rd.above ?_, ?_⟩
  · have := set_at (k := 5) (v := v5) (set_at (k := 4) (v := v4) (set_at (k := 3) (v := v3) (set_at (k := 2) (v := v2) (set_at (k := 1) (v := v1) (set_at (k := 0) (v := v0) h.res)))))
    rw [← hv]
    exact this
  · exact set_b (set_b (set_b (set_b (set_b (set_b (Below.refl _ _) (by omega)) (by omega)) (by omega)) (by omega)) (by omega)) (by omega)
  · exact ((((((h.upto.set_new (Nat.le_refl _)).set_new (Nat.le_refl _)).set_new (Nat.le_refl _)).set_new (Nat.le_refl _)).set_new (Nat.le_refl _)).set_new (Nat.le_refl _))

/-- Who an end is, by its first word: the document's way. -/
def whoG (x : Wd) (w : Ws) : SideM × Ws :=
  if x = wAny then ({ any := true, high := 65535 }, w)
  else if isTabR x then ({ table := inner x, high := 65535 }, w)
  else ({ pfx := pfxOf (prefL x), high := 65535 }, w.orBad (prefL x).isNone)
theorem ba_lt (x : Wd) (j : Nat) (h : j < x.length) : j < (⟨x.toArray⟩ : ByteArray).size := by rw [wd_size]; exact h
theorem ba_at (x : Wd) (j : Nat) (h : j < x.length) : (⟨x.toArray⟩ : ByteArray)[j]'(ba_lt x j h) = x[j] := by
  show (x.toArray)[j] = x[j]
  simp
theorem byte_eq (b : UInt8) (n : UInt8) : ((b.toNat : Int) == (n.toNat : Int)) = (b == n) := by
  rw [Bool.eq_iff_iff, beq_iff_eq, beq_iff_eq, ← UInt8.toNat_inj]
  omega
theorem tabR_at (x : Wd) (h : 2 < x.length) : isTabR x = (((((⟨x.toArray⟩ : ByteArray)[0]'(ba_lt x 0 (by omega))).toNat : Int) == 60) && ((((⟨x.toArray⟩ : ByteArray)[x.length - 1]'(ba_lt x _ (by omega))).toNat : Int) == 62)) := by
  rw [ba_at x 0 (by omega), ba_at x _ (by omega)]
  rw [show (60 : Int) = ((60 : UInt8).toNat : Int) from rfl, show (62 : Int) = ((62 : UInt8).toNat : Int) from rfl, byte_eq, byte_eq]
  unfold isTabR
  have h1 : x.head? = some x[0] := by rw [List.head?_eq_getElem?, List.getElem?_eq_getElem (by omega)]
  have h2 : x.getLast? = some x[x.length - 1] := by rw [List.getLast?_eq_getElem?, List.getElem?_eq_getElem (by omega)]
  rw [h1, h2]
  have hd : decide (2 < x.length) = true := by simpa using h
  rw [hd, Bool.true_and]
  rfl
theorem portsR_eq (s : SideM) (w : Ws) : portsR s w = (if (takesR w wPort).1 then
    (if 1 < (parts 58 (nextF (takesR w wPort).2).1).length then
      ({ s with low := (numR (nextF (takesR w wPort).2).2 ((parts 58 (nextF (takesR w wPort).2).1).getD 0 []) 65535).1, high := (numR (numR (nextF (takesR w wPort).2).2 ((parts 58 (nextF (takesR w wPort).2).1).getD 0 []) 65535).2 ((parts 58 (nextF (takesR w wPort).2).1).getD 1 []) 65535).1 },
        ((numR (numR (nextF (takesR w wPort).2).2 ((parts 58 (nextF (takesR w wPort).2).1).getD 0 []) 65535).2 ((parts 58 (nextF (takesR w wPort).2).1).getD 1 []) 65535).2.orBad ((numR (numR (nextF (takesR w wPort).2).2 ((parts 58 (nextF (takesR w wPort).2).1).getD 0 []) 65535).2 ((parts 58 (nextF (takesR w wPort).2).1).getD 1 []) 65535).1 == (numR (nextF (takesR w wPort).2).2 ((parts 58 (nextF (takesR w wPort).2).1).getD 0 []) 65535).1)).orBad (decide (2 < (parts 58 (nextF (takesR w wPort).2).1).length)))
    else ({ s with low := (numR (nextF (takesR w wPort).2).2 ((parts 58 (nextF (takesR w wPort).2).1).getD 0 []) 65535).1, high := (numR (nextF (takesR w wPort).2).2 ((parts 58 (nextF (takesR w wPort).2).1).getD 0 []) 65535).1 }, (numR (nextF (takesR w wPort).2).2 ((parts 58 (nextF (takesR w wPort).2).1).getD 0 []) 65535).2.orBad (decide (2 < (parts 58 (nextF (takesR w wPort).2).1).length))))
  else (s, (takesR w wPort).2)) := by
  unfold portsR
  dsimp only
theorem ba_eta (b : ByteArray) (p : Wd) (h : b.data.toList = p) : b = ⟨p.toArray⟩ := by
  subst h
  apply ByteArray.ext
  simp
theorem cell_upto {W W' : World} {g b j : Nat} {v : Value} (u : Upto g W W') (h : W.cell? ⟨b, j, none⟩ = some v) (hb : b ≠ g) : W'.cell? ⟨b, j, none⟩ = some v := by
  have hl := World.block_lt_of_cell? W _ h
  unfold World.cell? at h ⊢
  rw [u.block b hl hb]
  exact h
/-- A text's parts between a byte, in memory. -/
theorem split_word (s : Wd) (c : UInt8) (hs : s.length < 4294967281) (W : World) : Calls Tryz.prog 36 #[.string ⟨s.toArray⟩, .int .u8 c.toNat] W fun e w' => ∃ b cap, e = .returned (.slice (some ⟨b, 0, none⟩) (parts c s).length cap) ∧ (parts c s).length ≤ cap ∧ W.heap.size ≤ b ∧
    (∀ (j : Nat) (p : Wd), (parts c s)[j]? = some p → w'.cell? ⟨b, j, none⟩ = some (.string ⟨p.toArray⟩)) ∧ (∀ p ∈ parts c s, p.length < 4294967281) ∧ Below W.heap.size W w' := by
  refine (split_any ⟨s.toArray⟩ c (by rw [wd_size]; omega) W).mono ?_
  rintro e w' ⟨v, xs, rfl, hp, hm, ho, hb⟩
  have hx : (⟨s.toArray⟩ : ByteArray).data.toList = s := rfl
  rw [hx] at hp
  have hn : 0 < xs.length := by
    have := congrArg List.length hp
    rw [List.length_map] at this
    rw [this, parts_len]; omega
  have hlen : xs.length = (parts c s).length := by rw [← hp, List.length_map]
  rcases ho.2 with ⟨_, h0⟩ | ⟨g, cap, cur, rfl, hbg, hg, hc, _⟩
  · omega
  · refine ⟨g, cap, by rw [hlen], by rw [← hlen]; exact hc, ?_, fun j p hj => ?_, fun p hpm => ?_, hb⟩
    · exact hbg
    · have hjl : j < xs.length := by rw [hlen]; exact (List.getElem?_eq_some_iff.1 hj).1
      have := ho.cellAt (g := g) (j := j) (by simpa using hjl)
      rw [this, List.getElem?_map, List.getElem?_eq_getElem hjl]
      rw [← hp, List.getElem?_map, List.getElem?_eq_getElem hjl] at hj
      simp only [Option.map_some, Option.some.injEq] at hj ⊢
      rw [ba_eta _ _ hj]
    · rw [← hp] at hpm
      obtain ⟨y, hy, rfl⟩ := List.mem_map.1 hpm
      have h1 := hm y hy
      have h2 := size_data y
      have h3 := wd_size s
      show y.data.toList.length < 4294967281
      omega
theorem whoR_eq (ws : Ws) : whoR ws = whoG (nextF ws).1 (nextF ws).2 := rfl

set_option maxRecDepth 100000 in
set_option maxHeartbeats 2000000 in
theorem end_any (g : Nat) (ws : Ws) (W : World) (h : Rd 63 W g ws) (hl : LibOK W) (hG : LibLow g) :
    Calls Tryz.prog 35 #[.pointer (some ⟨g, 0, none⟩)] W fun e w' => e = .returned (.agg (sideC (endF ws).1)) ∧ Rd 63 w' g (endF ws).2 ∧ Upto g W w' := by
  have HS0 := Lib.hid (end_start W g ws h hl)
  have hlt := h.lt
  have KN := Lib.hid (fun W' hr => rnext_any g ws W' hr)
  have KS := Lib.hid (nextF_short h)
  clear h hl
  unfold endF
  rw [whoR_eq]
  generalize nextF ws = n at KN KS ⊢
  obtain ⟨x, w1⟩ := n
  dsimp only at KN KS ⊢
  go_enter Tryz.func35, Tryz.ntmps35
  go_wp2_with fail
  refine (KN.out _ HS0.out.rd).mono ?_
  rintro e W1 ⟨rfl, hr1, hu1⟩
  have HS1 := Lib.hid (HS0.out.call hlt hG hr1 hu1)
  clear hr1 hu1
  go_upto_block 0 with fail
  go_cut [] (fun wc => EndSt W g (whoG x w1).1 (whoG x w1).2 wc)
  case first =>
    obtain ⟨⟨c1, f1⟩, ⟨a0, a1, a2, a3, a4, a5⟩, b0, b1, b2, b3, b4, b5⟩ := HS1.out.facts
    by_cases h1 : x = wAny
    · subst h1
      have hw : whoG wAny w1 = ({ any := true, high := 65535 }, w1) := by unfold whoG; rw [if_pos rfl]
      have HW := Lib.hid hw
      clear hw
      have q1 : (wAny == [97, 110, 121]) = true := rfl
      go_wp2_with fail
      go_meet
      case rel => rw [HW.out]; exact HS1.out.put hlt hG rfl
    · have q1 : (x == [97, 110, 121]) = false := by rw [beq_eq_false_iff_ne]; exact h1
      have hxl := KS.out
      clear KN
      have KF := Lib.hid (fun W' => rpref_two x KS.out W')
      by_cases h2 : 2 < x.length
      · have h2i : (2 : Int) < x.length := by omega
        have hz := ba_lt x 0 (by omega)
        have hz1 := ba_lt x (x.length - 1) (by omega)
        have htr := tabR_at x h2
        cases hb0 : ((((⟨x.toArray⟩ : ByteArray)[0]'hz).toNat : Int) == 60) <;> cases hb1 : ((((⟨x.toArray⟩ : ByteArray)[x.length - 1]'hz1).toNat : Int) == 62)
        case true.true =>
          rw [hb0, hb1, Bool.and_self] at htr
          have hw : whoG x w1 = ({ table := inner x, high := 65535 }, w1) := by unfold whoG; rw [if_neg h1, if_pos htr]
          have HW := Lib.hid hw
          have hit : isTab x = true := (Ru2.tab_in x htr).2
          have hi := inner_ext x hit
          clear hw h1 htr hit
          go_wp2_with fail
          go_meet
          case rel => rw [HW.out]; exact HS1.out.put (k := 1) (s' := { table := inner x, high := 65535 }) hlt hG rfl
        all_goals
          rw [hb0, hb1] at htr
          have hw : whoG x w1 = ({ pfx := pfxOf (prefL x), high := 65535 }, w1.orBad (prefL x).isNone) := by unfold whoG; rw [if_neg h1, if_neg (by rw [htr]; simp)]
          have HW := Lib.hid hw
          clear hw h1 htr
          generalize pfxOf (prefL x) = px at KF HW
          generalize (prefL x).isNone = no at KF HW
          cases no <;> cases hbad : w1.bad
          all_goals
            have HBAD := Lib.hid hbad
            rw [hbad] at c1
            clear hbad
            go_wp2_with (go_at_call 65; refine (KF.out _).mono ?_; rintro e W2 ⟨rfl, hb⟩; have HS2 := Lib.hid ((HS1.out.below hb).below (bnew _ (.cells #[.int .u32 (px.addr : Nat), .int .i64 px.len] 24))); obtain ⟨⟨k1, k2⟩, ⟨p0, p1, p2, p3, p4, p5⟩, q0, q1', q2, q3, q4, q5⟩ := (HS1.out.below hb).facts; rw [HBAD.out] at k1; have HS2a := Lib.hid (HS1.out.below hb); have hk := (HS1.out.below hb).big; have hgk := (HS1.out.below hb).rd.lt; clear hb; clear c1 f1 a0 a1 a2 a3 a4 a5 b0 b1 b2 b3 b4 b5; obtain ⟨⟨c1, f1⟩, ⟨a0, a1, a2, a3, a4, a5⟩, b0, b1, b2, b3, b4, b5⟩ := HS2.out.facts; rw [HBAD.out] at c1)
            go_meet
            case rel =>
              rw [HW.out, orBad_eq, HBAD.out]
              exact (((HS2a.out.put (k := 2) (s' := { pfx := ⟨px.addr, 0⟩, high := 65535 }) hlt hG rfl).put (k := 3) (s' := { pfx := px, high := 65535 }) hlt hG rfl).bad hlt hG _).below (bnew _ _)
      · have htr : isTabR x = false := by
          unfold isTabR
          have hd : decide (2 < x.length) = false := by simpa using h2
          rw [hd]; rfl
        have h2' : ¬ (2 : Int) < x.length := by omega
        have hw : whoG x w1 = ({ pfx := pfxOf (prefL x), high := 65535 }, w1.orBad (prefL x).isNone) := by unfold whoG; rw [if_neg h1, if_neg (by rw [htr]; simp)]
        have HW := Lib.hid hw
        clear hw h1 htr h2
        generalize pfxOf (prefL x) = px at KF HW
        generalize (prefL x).isNone = no at KF HW
        cases no <;> cases hbad : w1.bad
        all_goals
          have HBAD := Lib.hid hbad
          rw [hbad] at c1
          clear hbad
          go_wp2_with (go_at_call 65; refine (KF.out _).mono ?_; rintro e W2 ⟨rfl, hb⟩; have HS2 := Lib.hid ((HS1.out.below hb).below (bnew _ (.cells #[.int .u32 (px.addr : Nat), .int .i64 px.len] 24))); obtain ⟨⟨k1, k2⟩, ⟨p0, p1, p2, p3, p4, p5⟩, q0, q1', q2, q3, q4, q5⟩ := (HS1.out.below hb).facts; rw [HBAD.out] at k1; have HS2a := Lib.hid (HS1.out.below hb); have hk := (HS1.out.below hb).big; have hgk := (HS1.out.below hb).rd.lt; clear hb; clear c1 f1 a0 a1 a2 a3 a4 a5 b0 b1 b2 b3 b4 b5; obtain ⟨⟨c1, f1⟩, ⟨a0, a1, a2, a3, a4, a5⟩, b0, b1, b2, b3, b4, b5⟩ := HS2.out.facts; rw [HBAD.out] at c1)
          go_meet
          case rel =>
            rw [HW.out, orBad_eq, HBAD.out]
            exact (((HS2a.out.put (k := 2) (s' := { pfx := ⟨px.addr, 0⟩, high := 65535 }) hlt hG rfl).put (k := 3) (s' := { pfx := px, high := 65535 }) hlt hG rfl).bad hlt hG _).below (bnew _ _)
  case rest =>
    have hS := hcut
    generalize hq : whoG x w1 = q at hS
    have HQ := Lib.hid hq
    obtain ⟨s1, v1⟩ := q
    dsimp only at hS
    have HS2 := Lib.hid hS
    clear hS hcut hq HS1 HS0 KN KS
    have KT := Lib.hid (fun W' hr => is_word g v1 #[112, 111, 114, 116] W' hr)
    have hwp : (#[112, 111, 114, 116] : Array UInt8).toList = wPort := rfl
    rw [hwp] at KT
    have HP := Lib.hid (portsR_eq s1 v1)
    generalize takesR v1 wPort = tk at KT HP
    obtain ⟨tb, v2⟩ := tk
    dsimp only at KT HP
    cases tb with
    | false =>
      have hP : portsR s1 v1 = (s1, v2) := HP.out
      have HPF := Lib.hid hP
      clear hP
      go_wp2_with (go_at_call 33; refine (KT.out _ HS2.out.rd).mono ?_; rintro e W3 ⟨rfl, hr1, hu1⟩; have HS3 := Lib.hid (HS2.out.call hlt hG hr1 hu1); clear hr1 hu1; obtain ⟨⟨c1, f1⟩, ⟨a0, a1, a2, a3, a4, a5⟩, b0, b1, b2, b3, b4, b5⟩ := HS3.out.facts; obtain ⟨r0, r1, r2, r3, r4, r5, e0, e1, e2, e3, e4, e5⟩ := box6 HS3.out.res)
      obtain ⟨g1, g2, g3⟩ := end_done HS3.out hlt hG (v0 := _) (v1 := _) (v2 := _) (v3 := _) (v4 := _) (v5 := _) rfl
      exact box_ret1 g1 rfl rfl Tryz.underlying28 (by kernel_rfl) rfl ⟨by rw [HQ.out, HPF.out], by rw [HQ.out, HPF.out]; exact g2, g3⟩
    | true =>
      have KN := Lib.hid (fun W' hr => rnext_any g v2 W' hr)
      have KS := Lib.hid (fun W' (hr : Rd 63 W' g v2) => nextF_short hr)
      generalize nextF v2 = n at KN KS HP
      obtain ⟨y, v3⟩ := n
      dsimp only at KN KS HP
      have KC := Lib.hid (fun W' hs => (show Calls Tryz.prog 36 #[.string ⟨y.toArray⟩, .int .u8 58] W' _ from split_word y 58 hs W'))
      have hne := parts_ne 58 y
      generalize parts 58 y = ps at KC HP hne
      match ps, hne with
      | [p0], _ =>
        have KM := Lib.hid (fun W' hs hr => rnum_any g v3 p0 hs 65535 W' hr)
        have hP := HP.out
        simp only [if_true, List.length_cons, List.length_nil, Nat.zero_add, Nat.lt_irrefl, if_false, List.getD_cons_zero] at hP
        have hd2 : decide (2 < 1) = false := rfl
        rw [hd2] at hP
        generalize numR v3 p0 65535 = m at KM hP
        obtain ⟨lo, v4⟩ := m
        dsimp only at KM hP
        have HPF := Lib.hid hP
        clear hP HP hd2 hwp
        cases hbad : v4.bad
        all_goals
          have HBAD := Lib.hid hbad
          clear hbad
          go_wp2_with fail
          refine (KT.out _ HS2.out.rd).mono ?_; rintro e W3 ⟨rfl, hr1, hu1⟩; have HS3 := Lib.hid (HS2.out.call hlt hG hr1 hu1); clear hr1 hu1
          go_wp2_with fail
          refine (KN.out _ HS3.out.rd).mono ?_; rintro e W4 ⟨rfl, hr1, hu1⟩; have KS4 := Lib.hid (KS.out _ HS3.out.rd); have HS4 := Lib.hid (HS3.out.call hlt hG hr1 hu1); clear hr1 hu1
          go_wp2_with fail
          refine (KC.out _ KS4.out).mono ?_; rintro e W5 ⟨bb, cap, rfl, hcap, hbb, hcl, hsh, hb1⟩; have HS5 := Lib.hid (HS4.out.below hb1); clear hb1
          have k0 := hcl 0 p0 rfl
          have HSH := Lib.hid (hsh p0 (by simp))
          have hbg : bb ≠ g := by have := HS4.out.rd.lt; omega
          have hbw : bb ≠ W.heap.size + 1 := by have := HS4.out.big; omega
          simp only [List.length_cons, List.length_nil, Nat.zero_add] at hcap
          clear hcl hsh
          go_wp2_with fail
          refine (KM.out _ (by have := HSH.out; omega) HS5.out.rd).mono ?_; rintro e W6 ⟨rfl, hr1, hu1⟩; have HS6 := Lib.hid (HS5.out.call hlt hG hr1 hu1); clear hr1 hu1 k0; obtain ⟨⟨c1, f1⟩, ⟨a0, a1, a2, a3, a4, a5⟩, b0, b1, b2, b3, b4, b5⟩ := HS6.out.facts; obtain ⟨r0, r1, r2, r3, r4, r5, e0, e1, e2, e3, e4, e5⟩ := box6 HS6.out.res; rw [HBAD.out] at c1
          go_wp2_with fail
          have HS7 := ((HS6.out.put (k := 4) (s' := { s1 with low := lo }) hlt hG rfl).put (k := 5) (s' := { s1 with low := lo, high := lo }) hlt hG rfl).bad hlt hG (v4.bad || false)
          rw [HBAD.out] at HS7
          obtain ⟨g1, g2, g3⟩ := end_done HS7 hlt hG (v0 := _) (v1 := _) (v2 := _) (v3 := _) (v4 := _) (v5 := _) rfl
          exact box_ret1 g1 rfl rfl Tryz.underlying28 (by kernel_rfl) rfl ⟨by rw [HQ.out, HPF.out], by rw [HQ.out, HPF.out, orBad_eq, HBAD.out]; exact g2, g3⟩
      | p0 :: p1 :: ps, _ =>
        have KM := Lib.hid (fun W' hs hr => rnum_any g v3 p0 hs 65535 W' hr)
        have hP := HP.out
        have h1l : 1 < (p0 :: p1 :: ps).length := by simp
        simp only [if_true, h1l, List.getD_cons_zero, List.getD_cons_succ] at hP
        generalize numR v3 p0 65535 = m at KM hP
        obtain ⟨lo, v4⟩ := m
        dsimp only at KM hP
        have KM2 := Lib.hid (fun W' hs hr => rnum_any g v4 p1 hs 65535 W' hr)
        generalize numR v4 p1 65535 = m2 at KM2 hP
        obtain ⟨hi, v5⟩ := m2
        dsimp only at KM2 hP
        have HPF := Lib.hid hP
        clear hP HP h1l hwp
        have hlen : (p0 :: p1 :: ps).length = ps.length + 2 := rfl
        rw [hlen] at HPF
        cases hbad : v5.bad <;> cases heq : (hi == lo) <;> cases hlong : decide (2 < ps.length + 2)
        all_goals
          have HBAD := Lib.hid hbad
          have HEQ := Lib.hid heq
          have HLONG := Lib.hid hlong
          have hl3 : decide ((2 : Int) < (ps.length : Int) + 2) = decide (2 < ps.length + 2) := by rw [decide_eq_decide]; omega
          rw [hlong] at hl3
          have HL3 := Lib.hid hl3
          clear hbad hlong hl3
          go_wp2_with fail
          refine (KT.out _ HS2.out.rd).mono ?_; rintro e W3 ⟨rfl, hr1, hu1⟩; have HS3 := Lib.hid (HS2.out.call hlt hG hr1 hu1); clear hr1 hu1
          go_wp2_with fail
          refine (KN.out _ HS3.out.rd).mono ?_; rintro e W4 ⟨rfl, hr1, hu1⟩; have KS4 := Lib.hid (KS.out _ HS3.out.rd); have HS4 := Lib.hid (HS3.out.call hlt hG hr1 hu1); clear hr1 hu1
          go_wp2_with fail
          refine (KC.out _ KS4.out).mono ?_; rintro e W5 ⟨bb, cap, rfl, hcap, hbb, hcl, hsh, hb1⟩; have HS5 := Lib.hid (HS4.out.below hb1); clear hb1
          have k0 := hcl 0 p0 rfl
          have k1 := hcl 1 p1 rfl
          have HSH := Lib.hid (hsh p0 (by simp))
          have HSH1 := Lib.hid (hsh p1 (by simp))
          have hbg : bb ≠ g := by have := HS4.out.rd.lt; omega
          have hbw : bb ≠ W.heap.size + 1 := by have := HS4.out.big; omega
          rw [hlen] at hcap
          simp only [hlen]
          clear hcl hsh
          go_wp2_with fail
          refine (KM.out _ (by have := HSH.out; omega) HS5.out.rd).mono ?_; rintro e W6 ⟨rfl, hr1, hu1⟩; have HS6 := Lib.hid (HS5.out.call hlt hG hr1 hu1); have k1' := cell_upto hu1 k1 hbg; clear hr1 hu1 k0 k1; obtain ⟨⟨c1, f1⟩, ⟨a0, a1, a2, a3, a4, a5⟩, b0, b1, b2, b3, b4, b5⟩ := HS6.out.facts
          go_wp2_with fail
          have HS7 := Lib.hid ((HS6.out.put (k := 4) (s' := { s1 with low := lo }) hlt hG rfl).put (k := 5) (s' := { s1 with low := lo, high := lo }) hlt hG rfl)
          clear c1 f1 a0 a1 a2 a3 a4 a5 b0 b1 b2 b3 b4 b5
          refine (KM2.out _ (by have := HSH1.out; omega) HS7.out.rd).mono ?_; rintro e W8 ⟨rfl, hr1, hu1⟩; have HS8 := Lib.hid (HS7.out.call hlt hG hr1 hu1); clear hr1 hu1; obtain ⟨⟨c1, f1⟩, ⟨a0, a1, a2, a3, a4, a5⟩, b0, b1, b2, b3, b4, b5⟩ := HS8.out.facts; obtain ⟨r0, r1, r2, r3, r4, r5, e0, e1, e2, e3, e4, e5⟩ := box6 HS8.out.res; rw [HBAD.out] at c1
          have hl3 := HL3.out
          go_wp2_with fail
          first
            | (have HS9 := ((HS8.out.put (k := 5) (s' := { s1 with low := lo, high := hi }) hlt hG rfl).bad hlt hG (v5.bad || (hi == lo))).bad hlt hG ((v5.bad || (hi == lo)) || decide (2 < ps.length + 2))
               rw [HBAD.out, HEQ.out, HLONG.out] at HS9
               obtain ⟨g1, g2, g3⟩ := end_done HS9 hlt hG (v0 := _) (v1 := _) (v2 := _) (v3 := _) (v4 := _) (v5 := _) rfl
               exact box_ret1 g1 rfl rfl Tryz.underlying28 (by kernel_rfl) rfl ⟨by rw [HQ.out, HPF.out], by rw [HQ.out, HPF.out, orBad_eq, orBad_eq, HBAD.out, HEQ.out, HLONG.out]; exact g2, g3⟩)
            | (have HS9 := (HS8.out.put (k := 5) (s' := { s1 with low := lo, high := hi }) hlt hG rfl).bad hlt hG ((v5.bad || (hi == lo)) || decide (2 < ps.length + 2))
               rw [HBAD.out, HEQ.out, HLONG.out] at HS9
               obtain ⟨g1, g2, g3⟩ := end_done HS9 hlt hG (v0 := _) (v1 := _) (v2 := _) (v3 := _) (v4 := _) (v5 := _) rfl
               exact box_ret1 g1 rfl rfl Tryz.underlying28 (by kernel_rfl) rfl ⟨by rw [HQ.out, HPF.out], by rw [HQ.out, HPF.out, orBad_eq, orBad_eq, HBAD.out, HEQ.out, HLONG.out]; exact g2, g3⟩)
end Go.Proofs.YtefhoecdoemgbaaGreatDoor.RuN
