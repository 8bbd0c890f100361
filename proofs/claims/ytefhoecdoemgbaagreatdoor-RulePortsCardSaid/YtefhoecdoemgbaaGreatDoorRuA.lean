/- rule.words.proto and look: parts of a rule, read. -/
import Derived.Test.YtefhoecdoemgbaaGreatDoorRu7
import Derived.Test.YtefhoecdoemgbaaGreatDoorRu9
namespace Go.Proofs.YtefhoecdoemgbaaGreatDoor.RuA
open Go Go.RowKit Go.Proofs.YtefhoecdoemgbaaGreatDoor.Ad0 Go.Proofs.YtefhoecdoemgbaaGreatDoor.Ad1 Go.Proofs.YtefhoecdoemgbaaGreatDoor.Ad3 Go.Proofs.YtefhoecdoemgbaaGreatDoor.St0 Go.Proofs.YtefhoecdoemgbaaGreatDoor.St1 Go.Proofs.YtefhoecdoemgbaaGreatDoor.St2 Go.Proofs.YtefhoecdoemgbaaGreatDoor.St3 Go.Proofs.YtefhoecdoemgbaaGreatDoor.St4 Go.Proofs.YtefhoecdoemgbaaGreatDoor.StA Go.Proofs.YtefhoecdoemgbaaGreatDoor.Ru0 Go.Proofs.YtefhoecdoemgbaaGreatDoor.Ru1 Go.Proofs.YtefhoecdoemgbaaGreatDoor.Ru6 Go.Proofs.YtefhoecdoemgbaaGreatDoor.Ru7 Go.Proofs.YtefhoecdoemgbaaGreatDoor.Ru8 Go.Proofs.YtefhoecdoemgbaaGreatDoor.Ru9
set_option linter.unusedVariables false
set_option linter.unusedSimpArgs false

theorem okNum_lt {l : Wd} (h : okNum 9 l = true) : dv l < 1000000000 := by
  unfold okNum at h
  simp only [Bool.and_eq_true, decide_eq_true_eq] at h
  obtain ⟨⟨⟨h0, h3⟩, hz⟩, hd⟩ := h
  have h1 := dvF_lt l 0 hd
  have h2 : 10 ^ l.length ≤ 10 ^ 9 := Nat.pow_le_pow_right (by decide) h3
  unfold dv
  omega
theorem numP_range (w : Ws) (l : Wd) : 0 ≤ (numP w l).1 ∧ (numP w l).1 < 1000000000 := by
  unfold numP
  split
  · rename_i h
    have := okNum_lt h
    dsimp only
    omega
  · dsimp only; omega

set_option maxHeartbeats 2000000 in
theorem wproto_any (g : Nat) (ws : Ws) (W : World) (h : Rd 53 W g ws) (hl : LibOK W) (hG : LibLow g) :
    Calls Tryz.prog 27 #[.pointer (some ⟨g, 0, none⟩)] W fun e w' => e = .returned (.int .i64 (protoP ws).1) ∧ Rd 53 w' g (protoP ws).2 ∧ Upto g W w' := by
  have HH := Lib.hid h
  have HL := Lib.hid hl
  have hlt := h.lt
  have KN := Lib.hid (fun W' hr => next_any g ws W' hr)
  have KS := Lib.hid (nextF_short h)
  clear h hl
  unfold protoP
  dsimp only
  generalize nextF ws = n at KN KS ⊢
  obtain ⟨x, w1⟩ := n
  dsimp only at KN KS ⊢
  by_cases h1 : x = wIcmp
  · subst h1
    rw [if_pos rfl]
    have q1 : (wIcmp == [105, 99, 109, 112]) = true := rfl
    go_enter Tryz.func27, Tryz.ntmps27
    go_wp2_with (go_at_call 26; refine (KN.out _ HH.out).mono ?_; rintro e W1 ⟨rfl, hr1, hu1⟩; have HR1 := Lib.hid hr1; have HU1 := Lib.hid hu1; clear hr1 hu1)
    go_ret
    exact ⟨rfl, HR1.out, HU1.out⟩
  have q1 : (x == [105, 99, 109, 112]) = false := by rw [beq_eq_false_iff_ne]; exact h1
  rw [if_neg h1]
  clear h1
  by_cases h2 : x = wTcp
  · subst h2
    rw [if_pos rfl]
    have q2 : (wTcp == [116, 99, 112]) = true := rfl
    go_enter Tryz.func27, Tryz.ntmps27
    go_wp2_with (go_at_call 26; refine (KN.out _ HH.out).mono ?_; rintro e W1 ⟨rfl, hr1, hu1⟩; have HR1 := Lib.hid hr1; have HU1 := Lib.hid hu1; clear hr1 hu1)
    go_ret
    exact ⟨rfl, HR1.out, HU1.out⟩
  have q2 : (x == [116, 99, 112]) = false := by rw [beq_eq_false_iff_ne]; exact h2
  rw [if_neg h2]
  clear h2
  by_cases h3 : x = wUdp
  · subst h3
    rw [if_pos rfl]
    have q3 : (wUdp == [117, 100, 112]) = true := rfl
    go_enter Tryz.func27, Tryz.ntmps27
    go_wp2_with (go_at_call 26; refine (KN.out _ HH.out).mono ?_; rintro e W1 ⟨rfl, hr1, hu1⟩; have HR1 := Lib.hid hr1; have HU1 := Lib.hid hu1; clear hr1 hu1)
    go_ret
    exact ⟨rfl, HR1.out, HU1.out⟩
  have q3 : (x == [117, 100, 112]) = false := by rw [beq_eq_false_iff_ne]; exact h3
  rw [if_neg h3]
  clear h3
  have KM := Lib.hid (fun W' hr => number_any g w1 ⟨x.toArray⟩ (by rw [wd_size]; have := KS.out; omega) W' hr)
  have hx : (⟨x.toArray⟩ : ByteArray).data.toList = x := rfl
  rw [hx] at KM
  obtain ⟨r0, r1⟩ := numP_range w1 x
  generalize numP w1 x = m at KM r0 r1 ⊢
  obtain ⟨v, w2⟩ := m
  dsimp only at KM r0 r1 ⊢
  have KP := Lib.hid (fun W' hl => proto_any v r0 (by omega) W' hl)
  clear hx
  cases hbad : w2.bad with
  | true =>
    have HBAD := Lib.hid hbad
    clear hbad
    go_enter Tryz.func27, Tryz.ntmps27
    go_wp2_with (first
      | (go_at_call 26; refine (KN.out _ HH.out).mono ?_; rintro e W1 ⟨rfl, hr1, hu1⟩; have HR1 := Lib.hid hr1; have HU1 := Lib.hid hu1; clear hr1 hu1)
      | (go_at_call 31; refine (KM.out _ HR1.out).mono ?_; rintro e W2 ⟨rfl, hr1, hu1⟩; have HR2 := Lib.hid hr1; have HU2 := Lib.hid (HU1.out.trans hu1); clear hr1 hu1; obtain ⟨c1, f1⟩ := HR2.out.cells; rw [HBAD.out] at c1))
    go_ret
    exact ⟨rfl, by rw [orBad_eq, HBAD.out]; exact HR2.out.bad _, HU2.out.set⟩
  | false =>
    have HBAD := Lib.hid hbad
    clear hbad
    by_cases hv : v = 0
    · subst hv
      go_enter Tryz.func27, Tryz.ntmps27
      go_wp2_with (first
        | (go_at_call 26; refine (KN.out _ HH.out).mono ?_; rintro e W1 ⟨rfl, hr1, hu1⟩; have HR1 := Lib.hid hr1; have HU1 := Lib.hid hu1; clear hr1 hu1)
        | (go_at_call 31; refine (KM.out _ HR1.out).mono ?_; rintro e W2 ⟨rfl, hr1, hu1⟩; have HR2 := Lib.hid hr1; have HU2 := Lib.hid (HU1.out.trans hu1); clear hr1 hu1; obtain ⟨c1, f1⟩ := HR2.out.cells; rw [HBAD.out] at c1))
      go_ret
      exact ⟨rfl, by rw [orBad_eq, HBAD.out]; exact HR2.out.bad _, HU2.out.set⟩
    · have qv : (v == 0) = false := by rw [beq_eq_false_iff_ne]; exact hv
      have QV := Lib.hid qv
      clear hv
      generalize protoW v = pw at KP ⊢
      cases hq : (pw == x) with
      | true =>
        have hd : decide (pw ≠ x) = false := by
          rw [decide_eq_false_iff_not]; rw [beq_iff_eq] at hq; exact fun hh => hh hq
        rw [hd]
        clear hd
        go_enter Tryz.func27, Tryz.ntmps27
        go_wp2_with (first
          | (go_at_call 26; refine (KN.out _ HH.out).mono ?_; rintro e W1 ⟨rfl, hr1, hu1⟩; have HR1 := Lib.hid hr1; have HU1 := Lib.hid hu1; have HL1 := Lib.hid (lib_upto HL.out hu1 hG (Nat.le_of_lt hlt)); clear hr1 hu1)
          | (go_at_call 31; refine (KM.out _ HR1.out).mono ?_; rintro e W2 ⟨rfl, hr1, hu1⟩; have HR2 := Lib.hid hr1; have HU2 := Lib.hid (HU1.out.trans hu1); have HL2 := Lib.hid (lib_upto HL1.out hu1 hG (Nat.le_of_lt HR1.out.lt)); clear hr1 hu1; obtain ⟨c1, f1⟩ := HR2.out.cells; rw [HBAD.out] at c1)
          | (go_at_call 44; refine (KP.out _ HL2.out).mono ?_; rintro e W3 ⟨rfl, hb1⟩; have HR3 := Lib.hid (HR2.out.below hb1); have HU3 := Lib.hid (HU2.out.trans (Upto.of_below hb1)); clear hb1; obtain ⟨c2, f2⟩ := HR3.out.cells; rw [HBAD.out] at c2))
        go_ret
        exact ⟨rfl, by rw [orBad_eq, HBAD.out, QV.out]; exact HR3.out.bad _, HU3.out.set⟩
      | false =>
        have hd : decide (pw ≠ x) = true := by
          rw [decide_eq_true_eq]; rw [beq_eq_false_iff_ne] at hq; exact hq
        rw [hd]
        clear hd
        go_enter Tryz.func27, Tryz.ntmps27
        go_wp2_with (first
          | (go_at_call 26; refine (KN.out _ HH.out).mono ?_; rintro e W1 ⟨rfl, hr1, hu1⟩; have HR1 := Lib.hid hr1; have HU1 := Lib.hid hu1; have HL1 := Lib.hid (lib_upto HL.out hu1 hG (Nat.le_of_lt hlt)); clear hr1 hu1)
          | (go_at_call 31; refine (KM.out _ HR1.out).mono ?_; rintro e W2 ⟨rfl, hr1, hu1⟩; have HR2 := Lib.hid hr1; have HU2 := Lib.hid (HU1.out.trans hu1); have HL2 := Lib.hid (lib_upto HL1.out hu1 hG (Nat.le_of_lt HR1.out.lt)); clear hr1 hu1; obtain ⟨c1, f1⟩ := HR2.out.cells; rw [HBAD.out] at c1)
          | (go_at_call 44; refine (KP.out _ HL2.out).mono ?_; rintro e W3 ⟨rfl, hb1⟩; have HR3 := Lib.hid (HR2.out.below hb1); have HU3 := Lib.hid (HU2.out.trans (Upto.of_below hb1)); clear hb1; obtain ⟨c2, f2⟩ := HR3.out.cells; rw [HBAD.out] at c2))
        go_ret
        exact ⟨rfl, by rw [orBad_eq, HBAD.out, QV.out]; exact HR3.out.bad _, HU3.out.set⟩
end Go.Proofs.YtefhoecdoemgbaaGreatDoor.RuA
