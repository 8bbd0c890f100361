/- castellanref14.reader: next, is, num, address. -/
import Derived.Test.YtefhoecdoemgbaaGreatDoorRuD
import Derived.Deep.MidRow
import Derived.BigFrame
import Derived.BigGuardPart
import Derived.Test.YtefhoecdoemgbaaGreatDoorRuE
import Derived.Test.YtefhoecdoemgbaaGreatDoorRuA
namespace Go.Proofs.YtefhoecdoemgbaaGreatDoor.RuK
open Go Go.RowKit Go.Proofs.YtefhoecdoemgbaaGreatDoor.Ad0 Go.Proofs.YtefhoecdoemgbaaGreatDoor.Ad1 Go.Proofs.YtefhoecdoemgbaaGreatDoor.Ad3 Go.Proofs.YtefhoecdoemgbaaGreatDoor.St0 Go.Proofs.YtefhoecdoemgbaaGreatDoor.St1 Go.Proofs.YtefhoecdoemgbaaGreatDoor.St2 Go.Proofs.YtefhoecdoemgbaaGreatDoor.St3 Go.Proofs.YtefhoecdoemgbaaGreatDoor.St4 Go.Proofs.YtefhoecdoemgbaaGreatDoor.St5 Go.Proofs.YtefhoecdoemgbaaGreatDoor.St8 Go.Proofs.YtefhoecdoemgbaaGreatDoor.St9 Go.Proofs.YtefhoecdoemgbaaGreatDoor.StA Go.Proofs.YtefhoecdoemgbaaGreatDoor.Ru0 Go.Proofs.YtefhoecdoemgbaaGreatDoor.Ru1 Go.Proofs.YtefhoecdoemgbaaGreatDoor.Ru4 Go.Proofs.YtefhoecdoemgbaaGreatDoor.Ru5 Go.Proofs.YtefhoecdoemgbaaGreatDoor.Ru6 Go.Proofs.YtefhoecdoemgbaaGreatDoor.Ru7 Go.Proofs.YtefhoecdoemgbaaGreatDoor.Ru8 Go.Proofs.YtefhoecdoemgbaaGreatDoor.Ru9 Go.Proofs.YtefhoecdoemgbaaGreatDoor.RuB Go.Proofs.YtefhoecdoemgbaaGreatDoor.RuC
set_option linter.unusedVariables false
set_option linter.unusedSimpArgs false

set_option maxHeartbeats 1000000 in
theorem rnext_any (g : Nat) (ws : Ws) (W : World) (h : Rd 63 W g ws) :
    Calls Tryz.prog 32 #[.pointer (some ⟨g, 0, none⟩)] W fun e w' => e = .returned (.string ⟨(nextF ws).1.toArray⟩) ∧ Rd 63 w' g (nextF ws).2 ∧ Upto g W w' := by
  have HH := Lib.hid h
  obtain ⟨hlt, hsh, A, n, cap, hrow, hn, hcap, hl⟩ := h
  obtain ⟨l, bad⟩ := ws
  have HR := Lib.hid hrow
  obtain ⟨c0, c1, f0, f1⟩ := box2 hrow
  clear hrow
  dsimp only at c0 c1 hn hl hsh
  cases l with
  | nil =>
    obtain rfl : n = 0 := hn
    clear hl hsh
    go_enter Tryz.func32, Tryz.ntmps32
    go_wp2
    go_ret
    exact ⟨rfl, HH.out.bad true, (Upto.refl _ _).set⟩
  | cons x t =>
    obtain ⟨b, off, rfl, hb, hbl, hx, ht⟩ := cons_lies hl
    obtain rfl : n = t.length + 1 := hn
    have HT := Lib.hid ht
    have HS := Lib.hid hsh
    clear hl ht hsh
    by_cases h1 : cap = 1
    · subst h1
      obtain rfl : t = [] := by
        cases t with
        | nil => rfl
        | cons _ _ => simp at hcap
      go_enter Tryz.func32, Tryz.ntmps32
      go_wp2
      go_ret
      exact ⟨rfl, pop_last (x := x) HR.out, (Upto.refl _ _).set⟩
    · have hcap' : 1 < cap := by omega
      go_enter Tryz.func32, Tryz.ntmps32
      go_wp2
      go_ret
      exact ⟨rfl, pop_one HR.out hb hbl HS.out HT.out hcap, (Upto.refl _ _).set⟩


set_option maxHeartbeats 1000000 in
theorem is_word (g : Nat) (ws : Ws) (word : Array UInt8) (W : World) (h : Rd 63 W g ws) :
    Calls Tryz.prog 33 #[.pointer (some ⟨g, 0, none⟩), .string ⟨word⟩] W fun e w' => e = .returned (.bool (takesR ws word.toList).1) ∧ Rd 63 w' g (takesR ws word.toList).2 ∧ Upto g W w' := by
  have HH := Lib.hid h
  obtain ⟨hlt, hsh, A, n, cap, hrow, hn, hcap, hl⟩ := h
  obtain ⟨l, bad⟩ := ws
  have HR := Lib.hid hrow
  obtain ⟨c0, c1, f0, f1⟩ := box2 hrow
  clear hrow
  dsimp only at c0 c1 hn hl hsh
  cases l with
  | nil =>
    obtain rfl : n = 0 := hn
    clear hl hsh
    go_enter Tryz.func33, Tryz.ntmps33
    go_wp2
    go_ret
    exact ⟨rfl, HH.out, Upto.refl _ _⟩
  | cons x t =>
    obtain ⟨b, off, rfl, hb, hbl, hx, ht⟩ := cons_lies hl
    obtain rfl : n = t.length + 1 := hn
    have HT := Lib.hid ht
    have HS := Lib.hid hsh
    clear hl ht hsh
    have hnz : ((t.length : Int) + 1 == 0) = false := by rw [beq_eq_false_iff_ne]; omega
    by_cases hw : x = word.toList
    · have e0 : takesR ⟨x :: t, bad⟩ word.toList = (true, ⟨t, bad⟩) := by simp [takesR, hw]
      rw [e0]
      obtain rfl : word = x.toArray := by rw [hw]
      by_cases h1 : cap = 1
      · subst h1
        obtain rfl : t = [] := by
          cases t with
          | nil => rfl
          | cons _ _ => simp at hcap
        clear e0 hw
        go_enter Tryz.func33, Tryz.ntmps33
        go_wp2
        go_ret
        exact ⟨rfl, pop_last (x := x) HR.out, (Upto.refl _ _).set⟩
      · have hcap' : 1 < cap := by omega
        clear e0 hw
        go_enter Tryz.func33, Tryz.ntmps33
        go_wp2
        go_ret
        exact ⟨rfl, pop_one HR.out hb hbl HS.out HT.out hcap, (Upto.refl _ _).set⟩
    · have e0 : takesR ⟨x :: t, bad⟩ word.toList = (false, ⟨x :: t, bad⟩) := by simp [takesR, hw]
      rw [e0]
      have hq : (x == (⟨word⟩ : ByteArray).toList) = false := by
        rw [toList_data, beq_eq_false_iff_ne]; exact hw
      clear e0 hw
      go_enter Tryz.func33, Tryz.ntmps33
      go_wp2
      go_ret
      exact ⟨rfl, HH.out, Upto.refl _ _⟩

set_option maxHeartbeats 1000000 in
theorem rnum_any (g : Nat) (ws : Ws) (s : Wd) (hs : s.length ≤ 9223372036854775807) (most : Int) (W : World) (h : Rd 63 W g ws) :
    Calls Tryz.prog 38 #[.pointer (some ⟨g, 0, none⟩), .string ⟨s.toArray⟩, .int .i64 most] W fun e w' => e = .returned (.int .i64 (numR ws s most).1) ∧ Rd 63 w' g (numR ws s most).2 ∧ Upto g W w' := by
  have HH := Lib.hid h
  obtain ⟨c1, f1⟩ := h.cells
  clear h
  have KN := Lib.hid (fun W' => num_any ⟨s.toArray⟩ (by rw [wd_size]; exact hs) most W')
  have hx : (⟨s.toArray⟩ : ByteArray).data.toList = s := rfl
  rw [hx] at KN
  clear hx
  unfold numV at KN
  unfold numR
  by_cases hn : okNum 9 s = true
  · rw [if_pos hn] at KN ⊢
    clear hn
    generalize dv s = v at KN ⊢
    cases hm : decide ((v : Int) ≤ most)
    all_goals
      rw [hm] at KN
      go_enter Tryz.func38, Tryz.ntmps38
      go_wp2_with (go_at_call 66; refine (KN.out _).mono ?_; rintro e W1 ⟨rfl, rfl⟩)
      go_ret
    · exact ⟨rfl, by rw [orBad_eq]; simpa using HH.out.bad true, (Upto.refl _ _).set⟩
    · exact ⟨rfl, by rw [orBad_eq]; simpa using HH.out, Upto.refl _ _⟩
  · rw [if_neg hn] at KN ⊢
    clear hn
    go_enter Tryz.func38, Tryz.ntmps38
    go_wp2_with (go_at_call 66; refine (KN.out _).mono ?_; rintro e W1 ⟨rfl, rfl⟩)
    go_ret
    exact ⟨rfl, HH.out.bad true, (Upto.refl _ _).set⟩
/-- A text as an address, its two ways told. -/
theorem rparse_two (s : Wd) (hs : s.length < 4294967281) (W : World) : Calls Tryz.prog 92 #[.string ⟨s.toArray⟩] W fun e w' => e = .returned (.tuple #[.int .u32 ((parseL s).getD 0 : Nat), .int .i64 (if (parseL s).isNone then 2 else 0)]) ∧ Below W.heap.size W w' := by
  refine (rparse_any ⟨s.toArray⟩ (by rw [wd_size]; omega) W).mono ?_
  rintro e w' ⟨rfl, hb⟩
  refine ⟨?_, hb⟩
  have : (⟨s.toArray⟩ : ByteArray).data.toList = s := rfl
  rw [this]
  cases parseL s <;> rfl
theorem rpref_two (s : Wd) (hs : s.length < 4294967281) (W : World) : Calls Tryz.prog 65 #[.string ⟨s.toArray⟩] W fun e w' => e = .returned (.tuple #[.agg #[.int .u32 ((pfxOf (prefL s)).addr : Nat), .int .i64 (pfxOf (prefL s)).len], .int .i64 (if (prefL s).isNone then 2 else 0)]) ∧ Below W.heap.size W w' := by
  refine (rpref_any ⟨s.toArray⟩ (by rw [wd_size]; omega) W).mono ?_
  rintro e w' ⟨rfl, hb⟩
  refine ⟨?_, hb⟩
  have : (⟨s.toArray⟩ : ByteArray).data.toList = s := rfl
  rw [this]
  cases prefL s <;> rfl
def addrF (w : Ws) : Nat × Ws := ((parseL (nextF w).1).getD 0, (nextF w).2.orBad (parseL (nextF w).1).isNone)
set_option maxHeartbeats 1000000 in
theorem address_any (g : Nat) (ws : Ws) (W : World) (h : Rd 63 W g ws) :
    Calls Tryz.prog 67 #[.pointer (some ⟨g, 0, none⟩)] W fun e w' => e = .returned (.int .u32 ((addrF ws).1 : Nat)) ∧ Rd 63 w' g (addrF ws).2 ∧ Upto g W w' := by
  have HH := Lib.hid h
  have KN := Lib.hid (fun W' hr => rnext_any g ws W' hr)
  have KS := Lib.hid (nextF_short h)
  clear h
  unfold addrF
  generalize nextF ws = n at KN KS ⊢
  obtain ⟨x, w1⟩ := n
  dsimp only at KN KS ⊢
  have KP := Lib.hid (fun W' => rparse_two x KS.out W')
  generalize (parseL x).getD 0 = v at KP ⊢
  generalize (parseL x).isNone = no at KP ⊢
  cases no
  all_goals
    go_enter Tryz.func67, Tryz.ntmps67
    go_wp2_with (first
      | (go_at_call 32; refine (KN.out _ HH.out).mono ?_; rintro e W1 ⟨rfl, hr1, hu1⟩; have HR1 := Lib.hid hr1; have HU1 := Lib.hid hu1; clear hr1 hu1)
      | (go_at_call 92; refine (KP.out _).mono ?_; rintro e W2 ⟨rfl, hb1⟩; have HR2 := Lib.hid (HR1.out.below hb1); have HU2 := Lib.hid (HU1.out.trans (Upto.of_below hb1)); clear hb1; obtain ⟨c1, f1⟩ := HR2.out.cells))
    go_ret
  · exact ⟨rfl, by rw [orBad_eq, Bool.or_false]; exact HR2.out, HU2.out⟩
  · exact ⟨rfl, by rw [orBad_eq, Bool.or_true]; exact HR2.out.bad true, HU2.out.set⟩
end Go.Proofs.YtefhoecdoemgbaaGreatDoor.RuK
/- castellanref14.reader: proto, flags, pin. -/
namespace Go.Proofs.YtefhoecdoemgbaaGreatDoor.RuL
open Go Go.RowKit Go.Proofs.YtefhoecdoemgbaaGreatDoor.Ad0 Go.Proofs.YtefhoecdoemgbaaGreatDoor.Ad1 Go.Proofs.YtefhoecdoemgbaaGreatDoor.Ad3 Go.Proofs.YtefhoecdoemgbaaGreatDoor.St0 Go.Proofs.YtefhoecdoemgbaaGreatDoor.St1 Go.Proofs.YtefhoecdoemgbaaGreatDoor.St2 Go.Proofs.YtefhoecdoemgbaaGreatDoor.St3 Go.Proofs.YtefhoecdoemgbaaGreatDoor.St4 Go.Proofs.YtefhoecdoemgbaaGreatDoor.St5 Go.Proofs.YtefhoecdoemgbaaGreatDoor.St8 Go.Proofs.YtefhoecdoemgbaaGreatDoor.St9 Go.Proofs.YtefhoecdoemgbaaGreatDoor.StA Go.Proofs.YtefhoecdoemgbaaGreatDoor.Ru0 Go.Proofs.YtefhoecdoemgbaaGreatDoor.Ru1 Go.Proofs.YtefhoecdoemgbaaGreatDoor.Ru4 Go.Proofs.YtefhoecdoemgbaaGreatDoor.Ru5 Go.Proofs.YtefhoecdoemgbaaGreatDoor.Ru6 Go.Proofs.YtefhoecdoemgbaaGreatDoor.Ru7 Go.Proofs.YtefhoecdoemgbaaGreatDoor.Ru8 Go.Proofs.YtefhoecdoemgbaaGreatDoor.Ru9 Go.Proofs.YtefhoecdoemgbaaGreatDoor.RuB Go.Proofs.YtefhoecdoemgbaaGreatDoor.RuC Go.Proofs.YtefhoecdoemgbaaGreatDoor.RuD Go.Proofs.YtefhoecdoemgbaaGreatDoor.RuE Go.Proofs.YtefhoecdoemgbaaGreatDoor.RuK
set_option linter.unusedVariables false
set_option linter.unusedSimpArgs false

set_option maxHeartbeats 1000000 in
theorem pinD_any (g : Nat) (ws : Ws) (W : World) (h : Rd 63 W g ws) :
    Calls Tryz.prog 39 #[.pointer (some ⟨g, 0, none⟩)] W fun e w' => e = .returned (.agg (pinC ⟨true, (nextF ws).1, (addrF (nextF ws).2).1⟩)) ∧ Rd 63 w' g (addrF (nextF ws).2).2 ∧ Upto g W w' := by
  have HB0 := Lib.hid (bnew W (.cells #[.bool false, .string ⟨#[]⟩, .int .u32 0] 30))
  have HX := Lib.hid (heap_alloc_new W (.cells #[.bool false, .string ⟨#[]⟩, .int .u32 0] 30))
  have HH := Lib.hid (h.below HB0.out)
  have hlt := h.lt
  have hne : W.heap.size ≠ g := by omega
  have KN := Lib.hid (fun W' hr => rnext_any g ws W' hr)
  clear h
  generalize nextF ws = n at KN ⊢
  obtain ⟨x, w1⟩ := n
  dsimp only at KN ⊢
  have KA := Lib.hid (fun W' hr => address_any g w1 W' hr)
  generalize addrF w1 = m at KA ⊢
  obtain ⟨v, w2⟩ := m
  dsimp only at KA ⊢
  go_enter Tryz.func39, Tryz.ntmps39
  go_wp2_with fail
  refine (KN.out _ HH.out).mono ?_
  rintro e W1 ⟨rfl, hr1, hu1⟩
  have HR1 := Lib.hid hr1
  have HU1 := Lib.hid ((Upto.of_below HB0.out).trans hu1)
  have HX1 := Lib.hid (hu1.row HX.out hne)
  have hsz : W.heap.size < W1.heap.size := by have := hu1.size; simp at this; omega
  have hg1 := hr1.lt
  clear hr1 hu1
  go_wp2_with fail
  have HB1 := Lib.hid (bnew W1 (.cells #[.bool true, .string ⟨x.toArray⟩, .int .u32 0] 30))
  have HR2 := Lib.hid (HR1.out.below HB1.out)
  have HX2 := row_step HX1 HB1.out
  have HP2 := Lib.hid (heap_alloc_new W1 (.cells #[.bool true, .string ⟨x.toArray⟩, .int .u32 0] 30))
  refine (KA.out _ HR2.out).mono ?_
  rintro e W3 ⟨rfl, hr1, hu1⟩
  have HR3 := Lib.hid hr1
  have HU3 := Lib.hid ((HU1.out.trans (Upto.of_below HB1.out)).trans hu1)
  have HX3 := Lib.hid (hu1.row HX2.out hne)
  have HP3 := Lib.hid (hu1.row HP2.out (by omega))
  clear hr1 hu1
  obtain ⟨a0, a1, a2, a3, a4, a5⟩ := box3 HX3.out
  obtain ⟨p0, p1, p2, p3, p4, p5⟩ := box3 HP3.out
  have hd : W1.heap.size ≠ W.heap.size := by omega
  generalize W1.heap.size = b at *
  go_wp2_with fail
  refine box_ret1 (set_at (set_at (set_at ((heap_setCell_other _ _ _ _ (fun e => hd e.symm)).trans HX3.out)))) rfl rfl Tryz.underlying30 (by kernel_rfl) rfl ⟨rfl, ?_, ?_⟩
  · exact HR3.out.above (set_b (set_b (set_b (set_b (Below.refl _ _) (by omega)) (by omega)) (by omega)) (by omega))
  · exact (((HU3.out.set_new (by omega)).set_new (Nat.le_refl _)).set_new (Nat.le_refl _)).set_new (Nat.le_refl _)

theorem rproto_three (n : Int) (h : n = 1 ∨ n = 6 ∨ n = 17) (w : World) :
    Calls Tryz.prog 54 #[.int .i64 n] w fun e w' => e = .returned (.string ⟨(protoW n).toArray⟩) ∧ w' = w := by
  rcases h with rfl | rfl | rfl
  all_goals
    go_enter Tryz.func54, Tryz.ntmps54
    go_wp2
    go_ret
    exact ⟨rfl, rfl⟩
theorem flags_inj (i j : Nat) (hi : i < 64) (hj : j < 64) (h : flagsW i = flagsW j) : i = j := by
  have h1 := bits_miss
  have a := Ru3.bits_all ⟨i, hi⟩
  have b := Ru3.bits_all ⟨j, hj⟩
  simp only at a b
  rw [h, b] at a
  exact (Option.some.inj a).symm
theorem bits_at (w : Ws) (j : Nat) (hj : j < 64) : bitsF w (flagsW j) = (((j : Nat) : Int), w) := by
  unfold bitsF
  rw [Ru3.bits_all ⟨j, hj⟩]
/-- What the loop over the flags holds behind k rounds. -/
def Hit (s : Wd) (k m : Nat) : Prop := (∃ j, j < k ∧ flagsW j = s ∧ m = j) ∨ ((∀ j, j < k → flagsW j ≠ s) ∧ m = 0)
theorem hit_yes {s : Wd} {k m : Nat} (h : Hit s k m) (hk : flagsW k = s) : Hit s (k + 1) k := .inl ⟨k, by omega, hk, rfl⟩
theorem hit_no {s : Wd} {k m : Nat} (h : Hit s k m) (hk : flagsW k ≠ s) : Hit s (k + 1) m := by
  rcases h with ⟨j, hj, h1, h2⟩ | ⟨h1, h2⟩
  · exact .inl ⟨j, by omega, h1, h2⟩
  · refine .inr ⟨fun j hj => ?_, h2⟩
    by_cases e : j = k
    · subst e; exact hk
    · exact h1 j (by omega)
theorem hit_le {s : Wd} {k m : Nat} (h : Hit s k m) (hk : k ≤ 64) : m < 64 := by
  rcases h with ⟨j, hj, h1, h2⟩ | ⟨h1, h2⟩ <;> omega
set_option maxHeartbeats 1000000 in
theorem rflags_any (g : Nat) (ws : Ws) (s : Wd) (W : World) (h : Rd 63 W g ws) :
    Calls Tryz.prog 37 #[.pointer (some ⟨g, 0, none⟩), .string ⟨s.toArray⟩] W fun e w' => e = .returned (.int .i64 (bitsF ws s).1) ∧ Rd 63 w' g (bitsF ws s).2 ∧ Upto g W w' := by
  have HH := Lib.hid h
  obtain ⟨c1, f1⟩ := h.cells
  clear h
  go_enter Tryz.func37, Tryz.ntmps37
  go_wp2
  go_loopw [5, 6] (fun n i wr => ∃ k m : Nat, k ≤ 64 ∧ i = .int .i64 k ∧ n = .int .i64 m ∧ Hit s k m ∧ W = wr) (fun _ i _ => 64 - (intOf i).toNat)
  case atStart => exact ⟨0, 0, by omega, rfl, rfl, .inr ⟨fun j hj => absurd hj (by omega), rfl⟩, rfl⟩
  case round =>
    obtain ⟨k, m, hk, rfl, rfl, hh, rfl⟩ := hrel
    have HT := Lib.hid hh
    clear hh
    by_cases hlt : k < 64
    · have HF := Lib.hid (letters_any k hlt W)
      by_cases he : flagsW k = s
      · have hq : (flagsW k == s) = true := by rw [beq_iff_eq]; exact he
        have HE := Lib.hid (hit_yes HT.out he)
        clear he
        generalize hfl : flagsW k = fl at hq HF
        clear hfl
        go_wp2_with (go_at_call 56; refine HF.out.mono ?_; rintro e w1 ⟨rfl, rfl⟩)
        go_roundw
        case rel => exact ⟨k + 1, k, by omega, by go_num, rfl, HE.out, trivial⟩
        case measure => simp [intOf]; omega
      · have hq : (flagsW k == s) = false := by rw [beq_eq_false_iff_ne]; exact he
        have HE := Lib.hid (hit_no HT.out he)
        clear he
        generalize hfl : flagsW k = fl at hq HF
        clear hfl
        go_wp2_with (go_at_call 56; refine HF.out.mono ?_; rintro e w1 ⟨rfl, rfl⟩)
        go_roundw
        case rel => exact ⟨k + 1, m, by omega, by go_num, rfl, HE.out, trivial⟩
        case measure => simp [intOf]; omega
    · obtain rfl : k = 64 := by omega
      have hm := hit_le HT.out (Nat.le_refl _)
      have HF := Lib.hid (letters_any m hm W)
      rcases HT.out with ⟨j, hj, h1, h2⟩ | ⟨h1, h2⟩
      · subst h2
        have HB := Lib.hid (bits_at ws m hj)
        rw [h1] at HB
        have hq : (flagsW m == s) = true := by rw [beq_iff_eq]; exact h1
        clear h1
        generalize hfl : flagsW m = fl at hq HF
        clear hfl
        go_wp2_with (go_at_call 56; refine HF.out.mono ?_; rintro e w1 ⟨rfl, rfl⟩)
        go_ret
        exact ⟨by rw [HB.out]; rfl, by rw [HB.out]; exact HH.out, Upto.refl _ _⟩
      · subst h2
        have HB := Lib.hid (bits_miss ws s h1)
        have hq : (flagsW 0 == s) = false := by rw [beq_eq_false_iff_ne]; exact h1 0 (by decide)
        clear h1
        generalize hfl : flagsW 0 = fl at hq HF
        clear hfl
        go_wp2_with (go_at_call 56; refine HF.out.mono ?_; rintro e w1 ⟨rfl, rfl⟩)
        go_ret
        exact ⟨by rw [HB.out]; rfl, by rw [HB.out]; exact HH.out.bad true, (Upto.refl _ _).set⟩
end Go.Proofs.YtefhoecdoemgbaaGreatDoor.RuL
/- castellanref14.reader: proto. -/
namespace Go.Proofs.YtefhoecdoemgbaaGreatDoor.RuM
open Go Go.RowKit Go.Proofs.YtefhoecdoemgbaaGreatDoor.Ad0 Go.Proofs.YtefhoecdoemgbaaGreatDoor.Ad1 Go.Proofs.YtefhoecdoemgbaaGreatDoor.Ad3 Go.Proofs.YtefhoecdoemgbaaGreatDoor.St0 Go.Proofs.YtefhoecdoemgbaaGreatDoor.St1 Go.Proofs.YtefhoecdoemgbaaGreatDoor.St2 Go.Proofs.YtefhoecdoemgbaaGreatDoor.St3 Go.Proofs.YtefhoecdoemgbaaGreatDoor.St4 Go.Proofs.YtefhoecdoemgbaaGreatDoor.St5 Go.Proofs.YtefhoecdoemgbaaGreatDoor.St8 Go.Proofs.YtefhoecdoemgbaaGreatDoor.St9 Go.Proofs.YtefhoecdoemgbaaGreatDoor.StA Go.Proofs.YtefhoecdoemgbaaGreatDoor.Ru0 Go.Proofs.YtefhoecdoemgbaaGreatDoor.Ru1 Go.Proofs.YtefhoecdoemgbaaGreatDoor.Ru4 Go.Proofs.YtefhoecdoemgbaaGreatDoor.Ru5 Go.Proofs.YtefhoecdoemgbaaGreatDoor.Ru6 Go.Proofs.YtefhoecdoemgbaaGreatDoor.Ru7 Go.Proofs.YtefhoecdoemgbaaGreatDoor.Ru8 Go.Proofs.YtefhoecdoemgbaaGreatDoor.Ru9 Go.Proofs.YtefhoecdoemgbaaGreatDoor.RuA Go.Proofs.YtefhoecdoemgbaaGreatDoor.RuB Go.Proofs.YtefhoecdoemgbaaGreatDoor.RuC Go.Proofs.YtefhoecdoemgbaaGreatDoor.RuD Go.Proofs.YtefhoecdoemgbaaGreatDoor.RuE Go.Proofs.YtefhoecdoemgbaaGreatDoor.RuK Go.Proofs.YtefhoecdoemgbaaGreatDoor.RuL
set_option linter.unusedVariables false
set_option linter.unusedSimpArgs false

theorem numR_range (w : Ws) (l : Wd) (m : Int) : 0 ≤ (numR w l m).1 ∧ (numR w l m).1 < 1000000000 := by
  unfold numR
  split
  · rename_i h
    have := okNum_lt h
    dsimp only
    omega
  · dsimp only; omega
/-- The first of the three named protocols that a word names. -/
def named (x : Wd) : Nat := if wIcmp = x then 0 else if wTcp = x then 1 else if wUdp = x then 2 else 3
theorem protoR_eq (w : Ws) : protoR w = (if wIcmp = (nextF w).1 then (1, (nextF w).2) else if wTcp = (nextF w).1 then (6, (nextF w).2) else if wUdp = (nextF w).1 then (17, (nextF w).2) else
  ((numR (nextF w).2 (nextF w).1 255).1, (numR (nextF w).2 (nextF w).1 255).2.orBad ((numR (nextF w).2 (nextF w).1 255).1 == 0 || decide (protoW (numR (nextF w).2 (nextF w).1 255).1 ≠ (nextF w).1)))) := rfl
theorem box3i {w : World} {g : Nat} {x y z : Value} {T : TypeId} (h : w.heap[g]? = some (.cells #[x, y, z] T (0, 0))) :
    w.cell? ⟨g, 0, none⟩ = some x ∧ w.cell? ⟨g, 1, none⟩ = some y ∧ w.cell? ⟨g, 2, none⟩ = some z :=
  ⟨(cell_of_row _ _ 0 _ _ _ h).trans rfl, (cell_of_row _ _ 1 _ _ _ h).trans rfl, (cell_of_row _ _ 2 _ _ _ h).trans rfl⟩
set_option maxHeartbeats 2000000 in
theorem rwproto_any (g : Nat) (ws : Ws) (W : World) (h : Rd 63 W g ws) :
    Calls Tryz.prog 34 #[.pointer (some ⟨g, 0, none⟩)] W fun e w' => e = .returned (.int .i64 (protoR ws).1) ∧ Rd 63 w' g (protoR ws).2 ∧ Upto g W w' := by
  have HH := Lib.hid h
  have hlt := h.lt
  have KN := Lib.hid (fun W' hr => rnext_any g ws W' hr)
  have KS := Lib.hid (nextF_short h)
  have HD := Lib.hid (protoR_eq ws)
  clear h
  generalize nextF ws = n at KN KS HD
  obtain ⟨x, w1⟩ := n
  dsimp only at KN KS HD
  go_enter Tryz.func34, Tryz.ntmps34
  go_wp2_with fail
  refine (KN.out _ HH.out).mono ?_
  rintro e W1 ⟨rfl, hr1, hu1⟩
  have HB1 := Lib.hid (bnew W1 (.cells #[.int .i64 1, .int .i64 6, .int .i64 17] 3))
  have HR1 := Lib.hid (hr1.below HB1.out)
  have HU1 := Lib.hid (hu1.trans (Upto.of_below HB1.out))
  obtain ⟨a0, a1, a2⟩ := box3i (heap_alloc_new W1 (.cells #[.int .i64 1, .int .i64 6, .int .i64 17] 3))
  clear hr1 hu1
  go_wp2_with fail
  generalize W1.alloc (.cells #[.int .i64 1, .int .i64 6, .int .i64 17] 3) = W2 at *
  generalize W1.heap.size = b at *
  go_loopw [5] (fun i wr => ∃ k : Nat, k ≤ 3 ∧ i = .int .i64 k ∧ k ≤ named x ∧ W2 = wr) (fun i _ => 3 - (intOf i).toNat)
  case atStart => exact ⟨0, by omega, rfl, by omega, rfl⟩
  case round =>
    obtain ⟨k, hk, rfl, hnm, rfl⟩ := hrel
    match k, hk with
    | 0, _ =>
      have KP := Lib.hid (fun W' => rproto_three 1 (by decide) W')
      have hpw : protoW 1 = wIcmp := rfl
      rw [hpw] at KP
      clear hpw
      by_cases he : wIcmp = x
      · have hq : (wIcmp == x) = true := by rw [beq_iff_eq]; exact he
        have hv : protoR ws = (1, w1) := HD.out.trans (by exact if_pos he)
        have HV := Lib.hid hv
        clear hv he hnm 
        generalize hwd : wIcmp = wd at KP hq
        clear hwd
        go_wp2_with (go_at_call 54; refine (KP.out _).mono ?_; rintro e W3 ⟨rfl, rfl⟩)
        go_ret
        exact ⟨by rw [HV.out]; rfl, by rw [HV.out]; exact HR1.out, HU1.out⟩
      · have hq : (wIcmp == x) = false := by rw [beq_eq_false_iff_ne]; exact he
        have hnx : 1 ≤ named x := by
          unfold named
          rw [if_neg he]
          (try split) <;> (try split) <;> omega
        have HNX := Lib.hid hnx
        clear he hnm hnx 
        generalize hwd : wIcmp = wd at KP hq
        clear hwd
        go_wp2_with (go_at_call 54; refine (KP.out _).mono ?_; rintro e W3 ⟨rfl, rfl⟩)
        go_roundw
        case rel => exact ⟨1, by omega, rfl, HNX.out, trivial⟩
        case measure => simp [intOf]
    | 1, _ =>
      have n0 : wIcmp ≠ x := by
        intro e
        unfold named at hnm
        simp [e] at hnm
      have KP := Lib.hid (fun W' => rproto_three 6 (by decide) W')
      have hpw : protoW 6 = wTcp := rfl
      rw [hpw] at KP
      clear hpw
      by_cases he : wTcp = x
      · have hq : (wTcp == x) = true := by rw [beq_iff_eq]; exact he
        have hv : protoR ws = (6, w1) := HD.out.trans (by rw [if_neg n0]; exact if_pos he)
        have HV := Lib.hid hv
        clear hv he hnm n0
        generalize hwd : wTcp = wd at KP hq
        clear hwd
        go_wp2_with (go_at_call 54; refine (KP.out _).mono ?_; rintro e W3 ⟨rfl, rfl⟩)
        go_ret
        exact ⟨by rw [HV.out]; rfl, by rw [HV.out]; exact HR1.out, HU1.out⟩
      · have hq : (wTcp == x) = false := by rw [beq_eq_false_iff_ne]; exact he
        have hnx : 2 ≤ named x := by
          unfold named
          rw [if_neg n0, if_neg he]
          (try split) <;> (try split) <;> omega
        have HNX := Lib.hid hnx
        clear he hnm hnx n0
        generalize hwd : wTcp = wd at KP hq
        clear hwd
        go_wp2_with (go_at_call 54; refine (KP.out _).mono ?_; rintro e W3 ⟨rfl, rfl⟩)
        go_roundw
        case rel => exact ⟨2, by omega, rfl, HNX.out, trivial⟩
        case measure => simp [intOf]
    | 2, _ =>
      have n0 : wIcmp ≠ x := by
        intro e
        unfold named at hnm
        simp [e] at hnm
      have n1 : wTcp ≠ x := by
        intro e
        unfold named at hnm
        rw [if_neg n0, if_pos e] at hnm
        omega
      have KP := Lib.hid (fun W' => rproto_three 17 (by decide) W')
      have hpw : protoW 17 = wUdp := rfl
      rw [hpw] at KP
      clear hpw
      by_cases he : wUdp = x
      · have hq : (wUdp == x) = true := by rw [beq_iff_eq]; exact he
        have hv : protoR ws = (17, w1) := HD.out.trans (by rw [if_neg n0]; rw [if_neg n1]; exact if_pos he)
        have HV := Lib.hid hv
        clear hv he hnm n0 n1
        generalize hwd : wUdp = wd at KP hq
        clear hwd
        go_wp2_with (go_at_call 54; refine (KP.out _).mono ?_; rintro e W3 ⟨rfl, rfl⟩)
        go_ret
        exact ⟨by rw [HV.out]; rfl, by rw [HV.out]; exact HR1.out, HU1.out⟩
      · have hq : (wUdp == x) = false := by rw [beq_eq_false_iff_ne]; exact he
        have hnx : 3 ≤ named x := by
          unfold named
          rw [if_neg n0, if_neg n1, if_neg he]
          omega
        have HNX := Lib.hid hnx
        clear he hnm hnx n0 n1
        generalize hwd : wUdp = wd at KP hq
        clear hwd
        go_wp2_with (go_at_call 54; refine (KP.out _).mono ?_; rintro e W3 ⟨rfl, rfl⟩)
        go_roundw
        case rel => exact ⟨3, by omega, rfl, HNX.out, trivial⟩
        case measure => simp [intOf]
    | 3, _ =>
      have n0 : wIcmp ≠ x := by
        intro e
        unfold named at hnm
        simp [e] at hnm
      have n1 : wTcp ≠ x := by
        intro e
        unfold named at hnm
        rw [if_neg n0, if_pos e] at hnm
        omega
      have n2 : wUdp ≠ x := by
        intro e
        unfold named at hnm
        rw [if_neg n0, if_neg n1, if_pos e] at hnm
        omega
      have hv := HD.out
      rw [if_neg n0, if_neg n1, if_neg n2] at hv
      clear n0 n1 n2 hnm HD
      have KM := Lib.hid (fun W' hr => rnum_any g w1 x (by have := KS.out; omega) 255 W' hr)
      obtain ⟨r0, r1⟩ := numR_range w1 x 255
      generalize numR w1 x 255 = m at KM r0 r1 hv
      obtain ⟨v, w2⟩ := m
      dsimp only at KM r0 r1 hv
      have KP := Lib.hid (fun W' => rproto_any v r0 (by omega) W')
      have HV := Lib.hid hv
      clear hv
      cases hbad : w2.bad with
      | true =>
        have HBAD := Lib.hid hbad
        clear hbad
        go_wp2_with (go_at_call 38; refine (KM.out _ HR1.out).mono ?_; rintro e W4 ⟨rfl, hr1, hu1⟩; have HR2 := Lib.hid hr1; have HU2 := Lib.hid (HU1.out.trans hu1); clear hr1 hu1; obtain ⟨c1, f1⟩ := HR2.out.cells; rw [HBAD.out] at c1)
        go_ret
        exact ⟨by rw [HV.out]; rfl, by rw [HV.out, orBad_eq, HBAD.out]; exact HR2.out.bad _, HU2.out.set⟩
      | false =>
        have HBAD := Lib.hid hbad
        clear hbad
        by_cases hz : v = 0
        · subst hz
          go_wp2_with (go_at_call 38; refine (KM.out _ HR1.out).mono ?_; rintro e W4 ⟨rfl, hr1, hu1⟩; have HR2 := Lib.hid hr1; have HU2 := Lib.hid (HU1.out.trans hu1); clear hr1 hu1; obtain ⟨c1, f1⟩ := HR2.out.cells; rw [HBAD.out] at c1)
          go_ret
          exact ⟨by rw [HV.out]; rfl, by rw [HV.out, orBad_eq, HBAD.out]; exact HR2.out.bad _, HU2.out.set⟩
        · have qv : (v == 0) = false := by rw [beq_eq_false_iff_ne]; exact hz
          have QV := Lib.hid qv
          clear hz
          generalize protoW v = pw at KP HV
          cases hq : (pw == x)
          all_goals
            have HQ : Hid (decide (pw ≠ x) = !(pw == x)) := by
              have : decide (pw ≠ x) = !(pw == x) := by rw [Bool.eq_iff_iff]; simp
              exact Lib.hid this
            have HQ2 := Lib.hid hq
            go_wp2_with (first
              | (go_at_call 38; refine (KM.out _ HR1.out).mono ?_; rintro e W4 ⟨rfl, hr1, hu1⟩; have HR2 := Lib.hid hr1; have HU2 := Lib.hid (HU1.out.trans hu1); clear hr1 hu1; obtain ⟨c1, f1⟩ := HR2.out.cells; rw [HBAD.out] at c1)
              | (go_at_call 54; refine (KP.out _).mono ?_; rintro e W5 ⟨rfl, hb1⟩; have HR3 := Lib.hid (HR2.out.below hb1); have HU3 := Lib.hid (HU2.out.trans (Upto.of_below hb1)); clear hb1; obtain ⟨c2, f2⟩ := HR3.out.cells; rw [HBAD.out] at c2))
            go_ret
            exact ⟨by rw [HV.out]; rfl, by rw [HV.out, orBad_eq, HBAD.out, QV.out, HQ.out, HQ2.out]; exact HR3.out.bad _, HU3.out.set⟩
end Go.Proofs.YtefhoecdoemgbaaGreatDoor.RuM
