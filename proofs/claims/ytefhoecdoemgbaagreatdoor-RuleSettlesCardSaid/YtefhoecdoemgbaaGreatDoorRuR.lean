/- castellanref14: Name, all, side, pin: what may be. -/
import Derived.Test.YtefhoecdoemgbaaGreatDoorRu5
import Derived.Test.YtefhoecdoemgbaaGreatDoorSt7
import Derived.Deep.MidRow
import Derived.BigFrame
import Derived.Lib.FieldsP
import Derived.Lib.DecodeN
import Derived.RegionTactic
import Derived.BigRegion
import Derived.Deep.DeepCutAuto
import Derived.BigGuardPart
import Derived.Test.YtefhoecdoemgbaaGreatDoorAd2
import Derived.Test.YtefhoecdoemgbaaGreatDoorRuE
import Derived.Test.YtefhoecdoemgbaaGreatDoorRuG
namespace Go.Proofs.YtefhoecdoemgbaaGreatDoor.RuQ
open Go Go.RowKit Go.Proofs.YtefhoecdoemgbaaGreatDoor.Ad0 Go.Proofs.YtefhoecdoemgbaaGreatDoor.Ad1 Go.Proofs.YtefhoecdoemgbaaGreatDoor.St0 Go.Proofs.YtefhoecdoemgbaaGreatDoor.St1 Go.Proofs.YtefhoecdoemgbaaGreatDoor.St5 Go.Proofs.YtefhoecdoemgbaaGreatDoor.Ru0
set_option linter.unusedVariables false
set_option linter.unusedSimpArgs false

theorem sign_bounds (b : UInt8) : isSign b = !((decide ((b.toNat : Int) < 97) || decide (122 < (b.toNat : Int))) && (decide ((b.toNat : Int) < 48) || decide (57 < (b.toNat : Int)))) := by
  have : ∀ n : Fin 256, isSign (UInt8.ofNat n.val) = !((decide (((UInt8.ofNat n.val).toNat : Int) < 97) || decide (122 < ((UInt8.ofNat n.val).toNat : Int))) && (decide (((UInt8.ofNat n.val).toNat : Int) < 48) || decide (57 < ((UInt8.ofNat n.val).toNat : Int)))) := by decide +kernel
  have h := this ⟨b.toNat, b.toNat_lt⟩
  simpa using h
theorem sign_yes (b : UInt8) (h : isSign b = true) : (97 ≤ (b.toNat : Int) ∧ (b.toNat : Int) ≤ 122) ∨ ((b.toNat : Int) < 97 ∧ 48 ≤ (b.toNat : Int) ∧ (b.toNat : Int) ≤ 57) := by
  unfold isSign at h
  simp only [Bool.or_eq_true, decide_eq_true_eq] at h
  omega
theorem sign_no (b : UInt8) (h : isSign b = false) : ((b.toNat : Int) < 97 ∧ (b.toNat : Int) < 48) ∨ ((b.toNat : Int) < 97 ∧ 48 ≤ (b.toNat : Int) ∧ 57 < (b.toNat : Int)) ∨ (97 ≤ (b.toNat : Int) ∧ 122 < (b.toNat : Int)) := by
  unfold isSign at h
  simp only [Bool.or_eq_false_iff, decide_eq_false_iff_not] at h
  omega
set_option maxHeartbeats 2000000 in
theorem rname_any (s : ByteArray) (hs : s.size ≤ 9223372036854775807) (w : World) :
    Calls Tryz.prog 13 #[.string s] w fun e w' => e = .returned (.bool (nameL s.data.toList)) ∧ w' = w := by
  go_enter Tryz.func13, Tryz.ntmps13
  go_wp2
  go_loopw [3] (fun i wr => ∃ k : Nat, k ≤ s.size ∧ i = .int .i64 k ∧ (s.data.toList.take k).all isSign = true ∧ wr = w) (fun i _ => (s.size - intOf i).toNat)
  case atStart => exact ⟨0, by omega, rfl, by simp, rfl⟩
  case round =>
    obtain ⟨k, hk, rfl, hall, rfl⟩ := hrel
    have HA := Lib.hid hall
    clear hall
    by_cases hlt : k < s.size
    · have hlt' : (k : Int) < s.size := by omega
      have hst := take_step s k hlt
      cases hb : isSign s[k] with
      | true =>
        have HN : Hid ((s.data.toList.take (k + 1)).all isSign = true) := by
          have : (s.data.toList.take (k + 1)).all isSign = true := by rw [hst, List.all_append, HA.out]; simp [hb]
          exact Lib.hid this
        clear hst
        rcases sign_yes _ hb with ⟨h1, h2⟩ | ⟨h1, h2, h3⟩
        all_goals
          clear hb
          go_wp2_with fail
          all_goals first
            | (exfalso; omega)
            | (go_roundw
               case rel => exact ⟨k + 1, by omega, by go_num, HN.out, trivial⟩
               case measure => simp only [intOf]; omega)
      | false =>
        have hno : nameL s.data.toList = false := by
          unfold nameL
          have : s.data.toList.all isSign = false := by
            rw [Bool.eq_false_iff]
            intro ha
            have h1 := List.all_eq_true.1 ha s[k] (by exact List.mem_of_getElem? (at_list s k hlt))
            rw [hb] at h1
            cases h1
          rw [this, Bool.and_false]
        have HN := Lib.hid hno
        clear hst hno
        rcases sign_no _ hb with ⟨h1, h2⟩ | ⟨h1, h2, h3⟩ | ⟨h1, h2⟩
        all_goals
          clear hb
          go_wp2_with fail
          all_goals first
            | (exfalso; omega)
            | (go_ret; exact ⟨by rw [HN.out]; rfl, rfl⟩)
    · obtain rfl : k = s.size := by omega
      have hv : nameL s.data.toList = (decide (1 ≤ s.size) && decide (s.size ≤ 8)) := by
        have e : s.data.toList.take s.size = s.data.toList := List.take_of_length_le (by rw [← size_data]; exact Nat.le_refl _)
        have ha := HA.out
        rw [e] at ha
        unfold nameL
        rw [ha, Bool.and_true, size_data]
        congr 1
        cases s.data.toList <;> simp
      by_cases z1 : 1 ≤ s.size <;> by_cases z8 : s.size ≤ 8
      all_goals
        have hv' := hv
        simp only [z1, z8, decide_true, decide_false, Bool.and_true, Bool.and_false, Bool.and_self] at hv'
        have HV := Lib.hid hv'
        clear hv' hv
        go_wp2
        all_goals first
          | (exfalso; omega)
          | (go_ret; exact ⟨by rw [HV.out]; simp_all <;> omega, rfl⟩)
end Go.Proofs.YtefhoecdoemgbaaGreatDoor.RuQ
/- castellanref14: all, side, pin: what may be. -/
namespace Go.Proofs.YtefhoecdoemgbaaGreatDoor.RuR
open Go Go.RowKit Go.Proofs.YtefhoecdoemgbaaGreatDoor.Ad0 Go.Proofs.YtefhoecdoemgbaaGreatDoor.Ad1 Go.Proofs.YtefhoecdoemgbaaGreatDoor.Ad2 Go.Proofs.YtefhoecdoemgbaaGreatDoor.Ad3 Go.Proofs.YtefhoecdoemgbaaGreatDoor.St0 Go.Proofs.YtefhoecdoemgbaaGreatDoor.St1 Go.Proofs.YtefhoecdoemgbaaGreatDoor.St2 Go.Proofs.YtefhoecdoemgbaaGreatDoor.St3 Go.Proofs.YtefhoecdoemgbaaGreatDoor.St4 Go.Proofs.YtefhoecdoemgbaaGreatDoor.St5 Go.Proofs.YtefhoecdoemgbaaGreatDoor.Ru0 Go.Proofs.YtefhoecdoemgbaaGreatDoor.Ru1 Go.Proofs.YtefhoecdoemgbaaGreatDoor.Ru9 Go.Proofs.YtefhoecdoemgbaaGreatDoor.RuB Go.Proofs.YtefhoecdoemgbaaGreatDoor.RuC Go.Proofs.YtefhoecdoemgbaaGreatDoor.RuD Go.Proofs.YtefhoecdoemgbaaGreatDoor.RuE Go.Proofs.YtefhoecdoemgbaaGreatDoor.RuG Go.Proofs.YtefhoecdoemgbaaGreatDoor.RuQ
set_option linter.unusedVariables false
set_option linter.unusedSimpArgs false

theorem rname_w (s : Wd) (hs : s.length ≤ 9223372036854775807) (w : World) : Calls Tryz.prog 13 #[.string ⟨s.toArray⟩] w fun e w' => e = .returned (.bool (nameL s)) ∧ w' = w :=
  rname_any ⟨s.toArray⟩ (by rw [wd_size]; exact hs) w
theorem all_any (a b : Int) (w : World) : Calls Tryz.prog 75 #[.agg #[.int .i64 a, .int .i64 b]] w fun e w' => e = .returned (.bool (a == 0 && b == 65535)) ∧ Below w.heap.size w w' := by
  go_enter Tryz.func75, Tryz.ntmps75
  go_wp2
  all_goals (go_ret; exact ⟨by simp_all, bnew _ _⟩)
set_option maxHeartbeats 1000000 in
theorem rpin_any (p : PinM) (hs : p.iface.length ≤ 9223372036854775807) (w : World) :
    Calls Tryz.prog 42 #[.agg (pinC p)] w fun e w' => e = .returned (.bool (pinR p)) ∧ Below w.heap.size w w' := by
  have KN := Lib.hid (fun W => rname_w p.iface hs W)
  obtain ⟨on, iface, gate⟩ := p
  unfold pinR pinC
  dsimp only at KN ⊢
  cases on
  all_goals
    cases hn : nameL iface
    all_goals
      rw [hn] at KN
      go_enter Tryz.func42, Tryz.ntmps42
      go_wp2_with (go_at_call 13; refine (KN.out _).mono ?_; rintro e w1 ⟨rfl, rfl⟩)
      all_goals (go_ret; exact ⟨by simp_all, bnew _ _⟩)
/-- Are the ports of an end not so? -/
def portBad (s : SideM) (ported : Bool) : Bool := decide (s.low < 0) || decide (65535 < s.high) || decide (s.high < s.low) || (!ported && !allP s)
theorem sideR_eq (s : SideM) (b : Bool) : sideR s b = if portBad s b then false else if s.any then decide (s.table = []) && decide (s.pfx = ⟨0, 0⟩) else if s.table ≠ [] then nameL s.table && decide (s.pfx = ⟨0, 0⟩) else isF s.pfx := rfl
set_option maxRecDepth 100000 in
set_option maxHeartbeats 4000000 in
theorem rside_any (s : SideM) (p : Bool) (hs : s.table.length ≤ 9223372036854775807) (hp : s.pfx.ok) (w : World) :
    Calls Tryz.prog 41 #[.agg (sideC s), .bool p] w fun e w' => e = .returned (.bool (sideR s p)) ∧ Below w.heap.size w w' := by
  have KN := Lib.hid (fun W => rname_w s.table hs W)
  have KI := Lib.hid (fun W => ris_any s.pfx hp W)
  have KA := Lib.hid (fun W => all_any s.low s.high W)
  have hap : (s.low == 0 && s.high == 65535) = allP s := rfl
  rw [hap] at KA
  clear hap
  have HB0 := Lib.hid (bnew w (.cells (sideC s) 28))
  have HR0 := Lib.hid (heap_alloc_new w (.cells (sideC s) 28))
  obtain ⟨s0, s1, s2, s3, s4, s5⟩ := sc s
  have HZ := Lib.hid (pfx_zero s.pfx)
  go_enter Tryz.func41, Tryz.ntmps41
  go_upto_region 1 with fail
  go_cut [1, 33] (fun s1 s33 wc => s33 = .bool (portBad s p) ∧ Below w.heap.size w wc ∧ wc.heap[w.heap.size]? = some (.cells (sideC s) 28 (0, 0)))
  case first =>
    cases hpv : p <;> cases hav : allP s
    all_goals
      have HAV := Lib.hid hav
      rw [hav] at KA
      clear hav
      go_wp2_with (go_at_call 75; refine (KA.out _).mono ?_; rintro e w1 ⟨rfl, hb1⟩; have HX := Lib.hid hb1; clear hb1)
      all_goals go_meet
      all_goals (case rel => first | exact ⟨by unfold portBad; rw [HAV.out]; simp_all <;> (try intros) <;> omega, HB0.out, HR0.out⟩ | exact ⟨by unfold portBad; rw [HAV.out]; simp_all <;> (try intros) <;> omega, bstep HB0.out HX.out HB0.out.size, row_step HR0 HX.out⟩)
  case rest =>
    obtain ⟨rfl, hbw, hrw⟩ := hcut
    have HB2 := Lib.hid hbw
    have HR2 := Lib.hid hrw
    obtain ⟨a0, a1, a2, a3, a4, a5, b0, b1, b2, b3, b4, b5⟩ := box6 hrw
    clear hbw hrw
    cases hwb : portBad s p with
    | true =>
      have HW := Lib.hid hwb
      clear hwb
      go_wp2
      go_ret
      exact ⟨by rw [sideR_eq, HW.out]; rfl, HB2.out⟩
    | false =>
      have HW := Lib.hid hwb
      clear hwb
      cases hany : s.any with
      | true =>
        have HANY := Lib.hid hany
        rw [hany] at a0
        clear hany
        go_wp2
        all_goals go_ret
        all_goals exact ⟨by rw [sideR_eq, HW.out, HANY.out, HZ.out]; simp_all, HB2.out⟩
      | false =>
        have HANY := Lib.hid hany
        rw [hany] at a0
        clear hany
        cases ht : s.table.isEmpty with
        | true =>
          have ht2 : s.table = [] := by simpa using ht
          have HT := Lib.hid ht2
          clear ht2
          go_wp2_with (go_at_call 76; refine (KI.out _).mono ?_; rintro e w2 ⟨rfl, hb2⟩; have HX := Lib.hid hb2; clear hb2)
          go_ret
          exact ⟨by rw [sideR_eq, HW.out, HANY.out]; simp [HT.out], bstep HB2.out HX.out HB2.out.size⟩
        | false =>
          have ht2 : s.table ≠ [] := by simpa using ht
          have HT := Lib.hid ht2
          clear ht2
          cases hn : nameL s.table
          all_goals
            have HN := Lib.hid hn
            rw [hn] at KN
            clear hn
            go_wp2_with (go_at_call 13; refine (KN.out _).mono ?_; rintro e w2 ⟨rfl, rfl⟩)
            all_goals go_ret
            all_goals exact ⟨by rw [sideR_eq, HW.out, HANY.out, if_pos HT.out, HN.out, HZ.out]; simp_all, HB2.out⟩
end Go.Proofs.YtefhoecdoemgbaaGreatDoor.RuR
