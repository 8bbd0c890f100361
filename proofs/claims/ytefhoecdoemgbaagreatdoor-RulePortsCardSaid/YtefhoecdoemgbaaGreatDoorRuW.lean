/- castellanref14.end: an end's text. -/
import Derived.Test.YtefhoecdoemgbaaGreatDoorRuT
import Derived.Test.YtefhoecdoemgbaaGreatDoorRuR
import Derived.Test.YtefhoecdoemgbaaGreatDoorStA
namespace Go.Proofs.YtefhoecdoemgbaaGreatDoor.RuW
open Go Go.RowKit Go.Proofs.YtefhoecdoemgbaaGreatDoor.Ad0 Go.Proofs.YtefhoecdoemgbaaGreatDoor.Ad1 Go.Proofs.YtefhoecdoemgbaaGreatDoor.Ad3 Go.Proofs.YtefhoecdoemgbaaGreatDoor.St0 Go.Proofs.YtefhoecdoemgbaaGreatDoor.St1 Go.Proofs.YtefhoecdoemgbaaGreatDoor.St2 Go.Proofs.YtefhoecdoemgbaaGreatDoor.St3 Go.Proofs.YtefhoecdoemgbaaGreatDoor.St4 Go.Proofs.YtefhoecdoemgbaaGreatDoor.StA Go.Proofs.YtefhoecdoemgbaaGreatDoor.Ru0 Go.Proofs.YtefhoecdoemgbaaGreatDoor.Ru1 Go.Proofs.YtefhoecdoemgbaaGreatDoor.Ru3 Go.Proofs.YtefhoecdoemgbaaGreatDoor.Ru4 Go.Proofs.YtefhoecdoemgbaaGreatDoor.Ru6 Go.Proofs.YtefhoecdoemgbaaGreatDoor.Ru7 Go.Proofs.YtefhoecdoemgbaaGreatDoor.Ru8 Go.Proofs.YtefhoecdoemgbaaGreatDoor.Ru9 Go.Proofs.YtefhoecdoemgbaaGreatDoor.RuB Go.Proofs.YtefhoecdoemgbaaGreatDoor.RuC Go.Proofs.YtefhoecdoemgbaaGreatDoor.RuQ Go.Proofs.YtefhoecdoemgbaaGreatDoor.Ru5 Go.Proofs.YtefhoecdoemgbaaGreatDoor.St5 Go.Proofs.YtefhoecdoemgbaaGreatDoor.St6 Go.Proofs.YtefhoecdoemgbaaGreatDoor.RuT Go.Proofs.YtefhoecdoemgbaaGreatDoor.RuR
set_option linter.unusedVariables false
set_option linter.unusedSimpArgs false

theorem dec_int (n : Int) (h0 : 0 ≤ n) (h1 : n ≤ 9223372036854775807) (W : World) : Calls Tryz.prog 20 #[.int .i64 n] W fun e w' => e = .returned (.string ⟨(Lib.itoa n).toArray⟩) ∧ Below W.heap.size W w' := by
  obtain ⟨k, rfl⟩ : ∃ k : Nat, n = k := ⟨n.toNat, by omega⟩
  rw [itoa_of _ h0]
  exact dec_any k (by omega) W
theorem rend_text (s : SideM) : spaced (tkS s) = (if allP s then whoW s else if s.high = s.low then (whoW s ++ [32, 112, 111, 114, 116, 32]) ++ Lib.itoa s.low else (((whoW s ++ [32, 112, 111, 114, 116, 32]) ++ Lib.itoa s.low) ++ [58]) ++ Lib.itoa s.high) := by
  rw [side_text]
  split
  · rfl
  · split <;> simp
set_option maxRecDepth 100000 in
set_option maxHeartbeats 4000000 in
theorem rend_any (s : SideM) (b : Bool) (h : sideR s b = true) (hp : s.pfx.addr < 4294967296) (w : World) (hl : LibOK w) :
    Calls Tryz.prog 55 #[.agg (sideC s)] w fun e w' => e = .returned (.string ⟨(spaced (tkS s)).toArray⟩) ∧ Below w.heap.size w w' := by
  obtain ⟨hlow, hany0, htl⟩ := sideR_facts s b h
  have hwl := whoW_len s htl
  have i1 := itoa_len s.low (by omega) (by omega)
  have i2 := itoa_len s.high (by omega) (by omega)
  have KP := Lib.hid (fun W hL => rpprint_any s.pfx hp W hL)
  have KL := Lib.hid (fun W => dec_int s.low (by omega) (by omega) W)
  have KH := Lib.hid (fun W => dec_int s.high (by omega) (by omega) W)
  have KA : Hid (∀ W, Calls Tryz.prog 75 #[.agg #[.int .i64 s.low, .int .i64 s.high]] W fun e w' => e = .returned (.bool (allP s)) ∧ Below W.heap.size W w') := fun W => all_any s.low s.high W
  have HT := Lib.hid (rend_text s)
  have HB0 := Lib.hid (bnew w (.cells (sideC s) 28))
  have HR0 := Lib.hid (heap_alloc_new w (.cells (sideC s) 28))
  have HL0 := Lib.hid (hl.below HB0.out)
  have HLw := Lib.hid hl
  have hadd1 : ∀ W, (Op.stringOp .add (⟨#[60]⟩ : ByteArray) ⟨s.table.toArray⟩).run Tryz.prog W = .ok (.string ⟨(60 :: s.table).toArray⟩) W := fun W => add_word [60] s.table (by simp; omega) W
  have hadd2 : ∀ W, (Op.stringOp .add (⟨(60 :: s.table).toArray⟩ : ByteArray) ⟨#[62]⟩).run Tryz.prog W = .ok (.string ⟨(60 :: (s.table ++ [62])).toArray⟩) W := fun W => add_word (60 :: s.table) [62] (by simp; omega) W
  have hadd3 : ∀ W, (Op.stringOp .add (⟨(whoW s).toArray⟩ : ByteArray) ⟨#[32, 112, 111, 114, 116, 32]⟩).run Tryz.prog W = .ok (.string ⟨(whoW s ++ [32, 112, 111, 114, 116, 32]).toArray⟩) W := fun W => add_word (whoW s) [32, 112, 111, 114, 116, 32] (by simp; omega) W
  generalize hp3 : whoW s ++ ([32, 112, 111, 114, 116, 32] : Wd) = p3 at hadd3 HT
  have hp3l : p3.length ≤ 31 := by rw [← hp3]; simp; omega
  have hadd4 := fun W => add_word p3 (Lib.itoa s.low) (by omega) W
  generalize hp4 : p3 ++ Lib.itoa s.low = p4 at hadd4 HT
  have hp4l : p4.length ≤ 36 := by rw [← hp4]; simp; omega
  have hadd5 : ∀ W, (Op.stringOp .add (⟨p4.toArray⟩ : ByteArray) ⟨#[58]⟩).run Tryz.prog W = .ok (.string ⟨(p4 ++ [58]).toArray⟩) W := fun W => add_word p4 [58] (by simp; omega) W
  generalize hp5 : p4 ++ ([58] : Wd) = p5 at hadd5 HT
  have hp5l : p5.length ≤ 37 := by rw [← hp5]; simp; omega
  have hadd6 := fun W => add_word p5 (Lib.itoa s.high) (by omega) W
  generalize hp7 : p5 ++ Lib.itoa s.high = p7 at hadd6 HT
  clear hp3 hp4 hp5 hp7
  generalize (Lib.itoa s.low) = il at KL hadd4
  generalize (Lib.itoa s.high) = ih at KH hadd6
  clear h hl i1 i2 hwl hp3l hp4l hp5l
  go_enter Tryz.func55, Tryz.ntmps55
  go_upto_block 0 with fail
  go_cut [3] (fun s3 wc => s3 = .string ⟨(whoW s).toArray⟩ ∧ Below w.heap.size w wc ∧ wc.heap[w.heap.size]? = some (.cells (sideC s) 28 (0, 0)))
  case first =>
    obtain ⟨a0, a1, a2, a3, a4, a5, b0, b1, b2, b3, b4, b5⟩ := box6 HR0.out
    cases ha : s.any with
    | true =>
      have hw : whoW s = wAny := by unfold whoW; rw [ha, if_pos rfl]
      have HW := Lib.hid hw
      rw [ha] at a0
      clear hw hany0
      go_wp2_with fail
      go_meet
      case rel => exact ⟨by rw [HW.out]; rfl, HB0.out, HR0.out⟩
    | false =>
      rw [ha] at a0
      clear hany0
      cases ht : s.table.isEmpty with
      | false =>
        have ht2 : s.table ≠ [] := by simpa using ht
        have hw : whoW s = 60 :: (s.table ++ [62]) := by unfold whoW; rw [ha, if_neg (by simp), if_pos ht2]
        have HW := Lib.hid hw
        clear hw ht2
        go_wp2_with fail
        go_meet
        case rel => exact ⟨by rw [HW.out], HB0.out, HR0.out⟩
      | true =>
        have ht2 : s.table = [] := by simpa using ht
        have hw : whoW s = printP s.pfx := by unfold whoW; rw [ha, if_neg (by simp), if_neg (by simp [ht2])]
        have HW := Lib.hid hw
        clear hw ht2
        go_wp2_with (go_at_call 84; refine (KP.out _ HL0.out).mono ?_; rintro e w1 ⟨rfl, hb1⟩; have HB1 := Lib.hid (bstep HB0.out hb1 HB0.out.size); have HR1 := row_step HR0 hb1; clear hb1)
        go_meet
        case rel => exact ⟨by rw [HW.out], HB1.out, HR1.out⟩
  case rest =>
    obtain ⟨rfl, hbw, hrw⟩ := hcut
    have HB := Lib.hid hbw
    have HR := Lib.hid hrw
    obtain ⟨a0, a1, a2, a3, a4, a5, b0, b1, b2, b3, b4, b5⟩ := box6 hrw
    clear hbw hrw
    cases hap : allP s with
    | true =>
      rw [hap] at KA
      rw [hap, if_pos rfl] at HT
      go_wp2_with (go_at_call 75; (with_reducible refine (KA.out _).mono ?_); rintro e w1 ⟨rfl, hb1⟩; have HB := Lib.hid (bstep HB.out hb1 HB.out.size); clear hb1)
      go_ret
      exact ⟨by rw [HT.out]; rfl, HB.out⟩
    | false =>
      rw [hap] at KA
      rw [hap, if_neg (by simp)] at HT
      by_cases hlt : s.high = s.low
      · rw [if_pos hlt] at HT
        have hq : (s.high != s.low) = false := by simp [hlt]
        clear hlt
        go_wp2_with (first
          | (go_at_call 75; (with_reducible refine (KA.out _).mono ?_); rintro e w1 ⟨rfl, hb1⟩; have HB := Lib.hid (bstep HB.out hb1 HB.out.size); have HR := row_step HR hb1; clear hb1 a0 a1 a2 a3 a4 a5 b0 b1 b2 b3 b4 b5; obtain ⟨a0, a1, a2, a3, a4, a5, b0, b1, b2, b3, b4, b5⟩ := box6 HR.out)
          | (go_at_call 20; (with_reducible refine (KL.out _).mono ?_); rintro e w1 ⟨rfl, hb1⟩; have HB := Lib.hid (bstep HB.out hb1 HB.out.size); have HR := row_step HR hb1; clear hb1 a0 a1 a2 a3 a4 a5 b0 b1 b2 b3 b4 b5; obtain ⟨a0, a1, a2, a3, a4, a5, b0, b1, b2, b3, b4, b5⟩ := box6 HR.out))
        go_ret
        exact ⟨by rw [HT.out]; rfl, HB.out⟩
      · rw [if_neg hlt] at HT
        go_wp2_with (first
          | (go_at_call 75; (with_reducible refine (KA.out _).mono ?_); rintro e w1 ⟨rfl, hb1⟩; have HB := Lib.hid (bstep HB.out hb1 HB.out.size); have HR := row_step HR hb1; clear hb1 a0 a1 a2 a3 a4 a5 b0 b1 b2 b3 b4 b5; obtain ⟨a0, a1, a2, a3, a4, a5, b0, b1, b2, b3, b4, b5⟩ := box6 HR.out)
          | (go_at_call 20; (with_reducible refine (KL.out _).mono ?_); rintro e w1 ⟨rfl, hb1⟩; have HB := Lib.hid (bstep HB.out hb1 HB.out.size); have HR := row_step HR hb1; clear hb1 a0 a1 a2 a3 a4 a5 b0 b1 b2 b3 b4 b5; obtain ⟨a0, a1, a2, a3, a4, a5, b0, b1, b2, b3, b4, b5⟩ := box6 HR.out)
          | (go_at_call 20; (with_reducible refine (KH.out _).mono ?_); rintro e w1 ⟨rfl, hb1⟩; have HB := Lib.hid (bstep HB.out hb1 HB.out.size); have HR := row_step HR hb1; clear hb1 a0 a1 a2 a3 a4 a5 b0 b1 b2 b3 b4 b5; obtain ⟨a0, a1, a2, a3, a4, a5, b0, b1, b2, b3, b4, b5⟩ := box6 HR.out))
        go_ret
        exact ⟨by rw [HT.out]; rfl, HB.out⟩
end Go.Proofs.YtefhoecdoemgbaaGreatDoor.RuW
