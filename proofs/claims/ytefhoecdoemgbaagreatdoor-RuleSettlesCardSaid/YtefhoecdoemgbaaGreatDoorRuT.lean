/- rule.side: an end's text. -/
import Derived.Test.YtefhoecdoemgbaaGreatDoorRuD
import Derived.Deep.MidRow
import Derived.BigFrame
import Derived.BigGuardPart
namespace Go.Proofs.YtefhoecdoemgbaaGreatDoor.RuT
open Go Go.RowKit Go.Proofs.YtefhoecdoemgbaaGreatDoor.Ad0 Go.Proofs.YtefhoecdoemgbaaGreatDoor.Ad1 Go.Proofs.YtefhoecdoemgbaaGreatDoor.Ad3 Go.Proofs.YtefhoecdoemgbaaGreatDoor.St0 Go.Proofs.YtefhoecdoemgbaaGreatDoor.St1 Go.Proofs.YtefhoecdoemgbaaGreatDoor.St2 Go.Proofs.YtefhoecdoemgbaaGreatDoor.St3 Go.Proofs.YtefhoecdoemgbaaGreatDoor.St4 Go.Proofs.YtefhoecdoemgbaaGreatDoor.StA Go.Proofs.YtefhoecdoemgbaaGreatDoor.Ru0 Go.Proofs.YtefhoecdoemgbaaGreatDoor.Ru1 Go.Proofs.YtefhoecdoemgbaaGreatDoor.Ru3 Go.Proofs.YtefhoecdoemgbaaGreatDoor.Ru4 Go.Proofs.YtefhoecdoemgbaaGreatDoor.Ru6 Go.Proofs.YtefhoecdoemgbaaGreatDoor.Ru7 Go.Proofs.YtefhoecdoemgbaaGreatDoor.Ru8 Go.Proofs.YtefhoecdoemgbaaGreatDoor.Ru9 Go.Proofs.YtefhoecdoemgbaaGreatDoor.RuB Go.Proofs.YtefhoecdoemgbaaGreatDoor.RuC
set_option linter.unusedVariables false
set_option linter.unusedSimpArgs false

theorem add_word (x y : Wd) (h : x.length + y.length ≤ 9223372036854775807) (W : World) : (Op.stringOp .add (⟨x.toArray⟩ : ByteArray) ⟨y.toArray⟩).run Tryz.prog W = .ok (.string ⟨(x ++ y).toArray⟩) W := by
  rw [run_string_add_sum (P := Tryz.prog) W _ _ (by rw [wd_size, wd_size]; exact h), str_app]
theorem sideR_facts (s : SideM) (b : Bool) (h : sideR s b = true) : (0 ≤ s.low ∧ s.low ≤ s.high ∧ s.high ≤ 65535) ∧ (s.any = true → s.table = []) ∧ s.table.length ≤ 8 := by
  unfold sideR at h
  split at h
  · exact absurd h (by simp)
  · rename_i hc
    simp only [Bool.or_eq_true, decide_eq_true_eq, not_or] at hc
    refine ⟨by omega, ?_, ?_⟩
    · intro ha
      rw [if_pos ha] at h
      simp only [Bool.and_eq_true, decide_eq_true_eq] at h
      exact h.1
    · split at h
      · simp only [Bool.and_eq_true, decide_eq_true_eq] at h
        simp [h.1]
      · split at h
        · simp only [Bool.and_eq_true, nameL, decide_eq_true_eq] at h
          exact h.1.1.2
        · rename_i h2
          simp only [ne_eq, Classical.not_not] at h2
          simp [h2]
theorem itoa_len (n : Int) (h0 : 0 ≤ n) (h1 : n ≤ 65535) : (Lib.itoa n).length ≤ 5 := by
  rw [itoa_of n h0]
  exact len_dec 4 n.toNat (by omega)
theorem whoW_len (s : SideM) (ht : s.table.length ≤ 8) : (whoW s).length ≤ 25 := by
  unfold whoW
  split
  · decide
  · split
    · simp; omega
    · unfold printP
      split
      · rename_i hl
        have h1 := print_len s.pfx.addr
        have h2 := itoa_len s.pfx.len hl.1 (by omega)
        simp; omega
      · simp
theorem side_text (s : SideM) : spaced (tkS s) = (if allP s then whoW s else if s.high = s.low then whoW s ++ ([32, 112, 111, 114, 116, 32] ++ Lib.itoa s.low) else (whoW s ++ ([32, 112, 111, 114, 116, 32] ++ Lib.itoa s.low)) ++ (58 :: Lib.itoa s.high)) := by
  unfold tkS portsW
  split
  · simp [spaced]
  · split
    · simp [spaced, wPort]
    · simp [spaced, wPort]

set_option maxRecDepth 100000 in
set_option maxHeartbeats 4000000 in
theorem pside_any (s : SideM) (b : Bool) (h : sideR s b = true) (hp : s.pfx.addr < 4294967296) (w : World) (hl : LibOK w) :
    Calls Tryz.prog 45 #[.agg (sideC s)] w fun e w' => e = .returned (.string ⟨(spaced (tkS s)).toArray⟩) ∧ Below w.heap.size w w' := by
  obtain ⟨hlow, hany0, htl⟩ := sideR_facts s b h
  have hwl := whoW_len s htl
  have i1 := itoa_len s.low (by omega) (by omega)
  have i2 := itoa_len s.high (by omega) (by omega)
  have KP := Lib.hid (fun W hL => pprint_any s.pfx hp W hL)
  have KL := Lib.hid (fun W hL => itoa_any s.low (by omega) (by omega) W hL)
  have KH := Lib.hid (fun W hL => itoa_any s.high (by omega) (by omega) W hL)
  have HT := Lib.hid (side_text s)
  have HB0 := Lib.hid (bnew w (.cells (sideC s) 28))
  have HR0 := Lib.hid (heap_alloc_new w (.cells (sideC s) 28))
  have HL0 := Lib.hid (hl.below HB0.out)
  have HLw := Lib.hid hl
  have hadd1 : ∀ W, (Op.stringOp .add (⟨#[60]⟩ : ByteArray) ⟨s.table.toArray⟩).run Tryz.prog W = .ok (.string ⟨(60 :: s.table).toArray⟩) W := fun W => add_word [60] s.table (by simp; omega) W
  have hadd2 : ∀ W, (Op.stringOp .add (⟨(60 :: s.table).toArray⟩ : ByteArray) ⟨#[62]⟩).run Tryz.prog W = .ok (.string ⟨(60 :: (s.table ++ [62])).toArray⟩) W := fun W => add_word (60 :: s.table) [62] (by simp; omega) W
  have hadd3 : ∀ W, (Op.stringOp .add (⟨#[32, 112, 111, 114, 116, 32]⟩ : ByteArray) ⟨(Lib.itoa s.low).toArray⟩).run Tryz.prog W = .ok (.string ⟨([32, 112, 111, 114, 116, 32] ++ Lib.itoa s.low).toArray⟩) W := fun W => add_word [32, 112, 111, 114, 116, 32] (Lib.itoa s.low) (by simp; omega) W
  have hadd5 : ∀ W, (Op.stringOp .add (⟨#[58]⟩ : ByteArray) ⟨(Lib.itoa s.high).toArray⟩).run Tryz.prog W = .ok (.string ⟨(58 :: Lib.itoa s.high).toArray⟩) W := fun W => add_word [58] (Lib.itoa s.high) (by simp; omega) W
  generalize hp6 : ([32, 112, 111, 114, 116, 32] : Wd) ++ Lib.itoa s.low = p6 at hadd3 HT
  have hp6l : p6.length ≤ 11 := by rw [← hp6]; simp; omega
  generalize hp5 : (58 : UInt8) :: Lib.itoa s.high = p5 at hadd5 HT
  have hp5l : p5.length ≤ 6 := by rw [← hp5]; simp; omega
  clear hp6 hp5
  have hadd4 := fun W => add_word (whoW s) p6 (by omega) W
  generalize hp4 : whoW s ++ p6 = p4 at hadd4 HT
  have hp4l : p4.length ≤ 36 := by rw [← hp4]; simp; omega
  have hadd6 := fun W => add_word p4 p5 (by omega) W
  generalize hp7 : p4 ++ p5 = p7 at hadd6 HT
  clear hp4 hp7
  generalize (Lib.itoa s.low) = il at KL hadd3
  generalize (Lib.itoa s.high) = ih at KH hadd5
  clear h hl i1 i2 hwl hp6l hp5l hp4l
  go_enter Tryz.func45, Tryz.ntmps45
  go_upto_block 0 with fail
  go_cut [3] (fun s3 wc => s3 = .string ⟨(whoW s).toArray⟩ ∧ Below w.heap.size w wc ∧ wc.heap[w.heap.size]? = some (.cells (sideC s) 28 (0, 0)))
  case first =>
    obtain ⟨a0, a1, a2, a3, a4, a5, b0, b1, b2, b3, b4, b5⟩ := box6 HR0.out
    cases ht : s.table.isEmpty with
    | false =>
      have ht2 : s.table ≠ [] := by simpa using ht
      have ha : s.any = false := by
        cases hc : s.any
        · rfl
        · exact absurd (hany0 hc) ht2
      have hw : whoW s = 60 :: (s.table ++ [62]) := by unfold whoW; rw [ha, if_neg (by simp), if_pos ht2]
      have HW := Lib.hid hw
      clear hw ht2 hany0
      go_wp2_with fail
      go_meet
      case rel => exact ⟨by rw [HW.out], HB0.out, HR0.out⟩
    | true =>
      have ht2 : s.table = [] := by simpa using ht
      clear hany0
      cases ha : s.any with
      | true =>
        have hw : whoW s = wAny := by unfold whoW; rw [ha, if_pos rfl]
        have HW := Lib.hid hw
        rw [ha] at a0
        clear hw ht2
        go_wp2_with fail
        go_meet
        case rel => exact ⟨by rw [HW.out]; rfl, HB0.out, HR0.out⟩
      | false =>
        have hw : whoW s = printP s.pfx := by unfold whoW; rw [ha, if_neg (by simp), if_neg (by simp [ht2])]
        have HW := Lib.hid hw
        rw [ha] at a0
        clear hw ht2
        go_wp2_with (go_at_call 77; refine (KP.out _ HL0.out).mono ?_; rintro e w1 ⟨rfl, hb1⟩; have HB1 := Lib.hid (bstep HB0.out hb1 HB0.out.size); have HR1 := row_step HR0 hb1; clear hb1)
        go_meet
        case rel => exact ⟨by rw [HW.out], HB1.out, HR1.out⟩
  case rest =>
    obtain ⟨rfl, hbw, hrw⟩ := hcut
    have HB := Lib.hid hbw
    have HR := Lib.hid hrw
    obtain ⟨a0, a1, a2, a3, a4, a5, b0, b1, b2, b3, b4, b5⟩ := box6 hrw
    clear hbw hrw
    go_upto_region 6 with fail
    go_cut [22] (fun s22 wx => s22 = .bool (allP s) ∧ wx = wc)
    case first =>
      go_wp2
      all_goals go_meet
      all_goals (case rel => exact ⟨by simp_all [allP], rfl⟩)
    case rest =>
      obtain ⟨rfl, rfl⟩ := hcut
      cases hap : allP s with
      | true =>
        rw [hap, if_pos rfl] at HT
        go_wp2_with fail
        go_ret
        exact ⟨by rw [HT.out]; rfl, HB.out⟩
      | false =>
        rw [hap, if_neg (by simp)] at HT
        have HL := Lib.hid (HLw.out.below HB.out)
        by_cases hlt : s.low < s.high
        · rw [if_neg (by omega)] at HT
          go_wp2_with (first
            | (go_at_call 47; (with_reducible refine (KL.out _ HL.out).mono ?_); rintro e w1 ⟨rfl, hb1⟩; have HB := Lib.hid (bstep HB.out hb1 HB.out.size); have HR := row_step HR hb1; have HL := Lib.hid (HLw.out.below HB.out); clear hb1 a0 a1 a2 a3 a4 a5 b0 b1 b2 b3 b4 b5; obtain ⟨a0, a1, a2, a3, a4, a5, b0, b1, b2, b3, b4, b5⟩ := box6 HR.out)
            | (go_at_call 47; (with_reducible refine (KH.out _ HL.out).mono ?_); rintro e w1 ⟨rfl, hb1⟩; have HB := Lib.hid (bstep HB.out hb1 HB.out.size); have HR := row_step HR hb1; have HL := Lib.hid (HLw.out.below HB.out); clear hb1 a0 a1 a2 a3 a4 a5 b0 b1 b2 b3 b4 b5; obtain ⟨a0, a1, a2, a3, a4, a5, b0, b1, b2, b3, b4, b5⟩ := box6 HR.out))
          go_ret
          exact ⟨by rw [HT.out]; rfl, HB.out⟩
        · rw [if_pos (by omega)] at HT
          go_wp2_with (go_at_call 47; (with_reducible refine (KL.out _ HL.out).mono ?_); rintro e w1 ⟨rfl, hb1⟩; have HB := Lib.hid (bstep HB.out hb1 HB.out.size); have HR := row_step HR hb1; have HL := Lib.hid (HLw.out.below HB.out); clear hb1 a0 a1 a2 a3 a4 a5 b0 b1 b2 b3 b4 b5; obtain ⟨a0, a1, a2, a3, a4, a5, b0, b1, b2, b3, b4, b5⟩ := box6 HR.out)
          go_ret
          exact ⟨by rw [HT.out]; rfl, HB.out⟩
end Go.Proofs.YtefhoecdoemgbaaGreatDoor.RuT
