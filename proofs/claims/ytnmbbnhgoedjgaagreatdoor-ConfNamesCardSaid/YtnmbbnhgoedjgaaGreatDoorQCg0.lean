/- A rule's text is parsed back: plain Lean. rule.side: an end's text. castellanref14.end: an end's text. The laws' small functions: Same, heavy; rules that lie in memory. Configurations as texts: plain Lean. A configuration in memory. -/
import Derived.Test.YtnmbbnhgoedjgaaGreatDoorQRuVa
import Derived.Test.YtnmbbnhgoedjgaaGreatDoorQRu5
import Derived.Test.YtnmbbnhgoedjgaaGreatDoorQRuS
import Derived.Test.YtnmbbnhgoedjgaaGreatDoorQCf3
import Derived.Test.YtnmbbnhgoedjgaaGreatDoorQRuG
import Derived.Test.YtnmbbnhgoedjgaaGreatDoorQStA
import Derived.Test.YtnmbbnhgoedjgaaGreatDoorQRuJ
import Derived.Test.YtnmbbnhgoedjgaaGreatDoorQCf9
import Derived.Deep.MidRow
import Derived.BigFrame
import Derived.BigGuardPart
import Derived.Deep.DeepCutAuto
namespace Go.Proofs.YtnmbbnhgoedjgaaGreatDoor.Rw0
open Go Go.RowKit Go.Proofs.YtnmbbnhgoedjgaaGreatDoor.Ad0 Go.Proofs.YtnmbbnhgoedjgaaGreatDoor.Ru0 Go.Proofs.YtnmbbnhgoedjgaaGreatDoor.Ru1 Go.Proofs.YtnmbbnhgoedjgaaGreatDoor.Ru3 Go.Proofs.YtnmbbnhgoedjgaaGreatDoor.Ru6 Go.Proofs.YtnmbbnhgoedjgaaGreatDoor.Ru4 Go.Proofs.YtnmbbnhgoedjgaaGreatDoor.RuB Go.Proofs.YtnmbbnhgoedjgaaGreatDoor.RuI Go.Proofs.YtnmbbnhgoedjgaaGreatDoor.RuH
set_option linter.unusedVariables false
set_option linter.unusedSimpArgs false
def All (l : List Wd) : Prop := ∀ w ∈ l, isW w
theorem all_nil : All [] := fun _ h => by cases h
theorem all_cons {a : Wd} {l : List Wd} (h : isW a) (t : All l) : All (a :: l) := fun w hw => by
  rcases List.mem_cons.1 hw with rfl | h'
  · exact h
  · exact t w h'
theorem all_app {a b : List Wd} (h : All a) (t : All b) : All (a ++ b) := fun w hw => by
  rcases List.mem_append.1 hw with h' | h'
  · exact h w h'
  · exact t w h'
theorem all_if {c : Prop} [Decidable c] {a b : List Wd} (h : c → All a) (t : ¬c → All b) : All (if c then a else b) := by
  split
  · exact h ‹_›
  · exact t ‹_›
theorem flags_word : ∀ n : Fin 64, flagsW n.val ≠ [] ∧ 32 ∉ flagsW n.val := by decide +kernel
theorem isW_flags (a b : Nat) (ha : a < 64) (hb : b < 64) : isW (flagsW a ++ 47 :: flagsW b) := by
  have h1 := flags_word ⟨a, ha⟩
  have h2 := flags_word ⟨b, hb⟩
  refine ⟨by simp, fun hm => ?_⟩
  rcases List.mem_append.1 hm with h | h
  · exact h1.2 h
  · rcases List.mem_cons.1 h with h | h
    · cases h
    · exact h2.2 h
theorem isW_proto (n : Int) (h : 0 ≤ n) : isW (protoW n) := by
  unfold protoW
  split
  · exact ⟨by decide, by decide⟩
  · split
    · exact ⟨by decide, by decide⟩
    · split
      · exact ⟨by decide, by decide⟩
      · exact isW_itoa n h
theorem pin_name (p : PinM) (h : pinR p = true) (ho : p.on = true) : nameL p.iface = true := by
  unfold pinR at h
  rw [if_pos ho] at h
  exact h
theorem on_name (r : RuleM) (h : ruleR r = true) (ho : r.on ≠ []) : nameL r.on = true := by
  cases hn : nameL r.on with
  | true => rfl
  | false =>
    have : ruleR r = false := by
      unfold ruleR
      have e : (decide (r.on ≠ []) && !nameL r.on) = true := by rw [hn]; simpa using ho
      simp_all
    rw [this] at h
    cases h
theorem isW_tokens (r : RuleM) (h : ruleR r = true) (hs : r.set ≤ 9223372036854775807) : All (tokens r) := by
  have hf := facts r h hs
  have c (w : Wd) (h1 : w ≠ []) (h2 : 32 ∉ w) : isW w := ⟨h1, h2⟩
  refine all_cons (by split <;> exact ⟨by decide, by decide⟩) ?_
  refine all_app (all_if (fun _ => all_cons ⟨by decide, by decide⟩ all_nil) (fun _ => all_nil)) ?_
  refine all_app (all_if (fun _ => all_cons ⟨by decide, by decide⟩ all_nil) (fun _ => all_nil)) ?_
  refine all_app (all_if (fun _ => all_nil) (fun ho => all_cons ⟨by decide, by decide⟩ (all_cons (isW_name _ (on_name r h ho)) all_nil))) ?_
  refine all_app (all_if (fun _ => all_nil) (fun ho => all_cons ⟨by decide, by decide⟩ (all_cons (isW_proto _ hf.proto.1) all_nil))) ?_
  refine all_cons ⟨by decide, by decide⟩ ?_
  refine all_app (isW_side r.frm _ hf.sides.1) ?_
  refine all_cons ⟨by decide, by decide⟩ ?_
  refine all_app (isW_side r.dst _ hf.sides.2) ?_
  refine all_app (all_if (fun _ => all_nil) (fun ho => all_cons ⟨by decide, by decide⟩ (all_cons (isW_flags _ _ (by have := hf.set; have := hf.mask; omega) (by have := hf.mask; omega)) all_nil))) ?_
  refine all_app (all_if (fun _ => all_nil) (fun ho => all_cons ⟨by decide, by decide⟩ (all_cons (isW_itoa _ (by have := hf.typ; omega)) all_nil))) ?_
  refine all_app (all_if (fun _ => all_cons ⟨by decide, by decide⟩ all_nil) (fun _ => all_nil)) ?_
  refine all_app (all_if (fun ho => all_cons ⟨by decide, by decide⟩ (all_cons (isW_name _ (pin_name _ hf.pins.1 ho)) (all_cons (isW_printL _) all_nil))) (fun _ => all_nil)) ?_
  refine all_app (all_if (fun ho => all_cons ⟨by decide, by decide⟩ (all_cons (isW_name _ (pin_name _ hf.pins.2 ho)) (all_cons (isW_printL _) all_nil))) (fun _ => all_nil)) ?_
  exact all_if (fun _ => all_nil) (fun ho => all_cons ⟨by decide, by decide⟩ (all_cons (isW_itoa _ hf.tab.1) all_nil))
theorem tokens_ne (r : RuleM) : tokens r ≠ [] := by simp [tokens]
theorem words_back (r : RuleM) (h : ruleR r = true) (hs : r.set ≤ 9223372036854775807) : wordsL (spaced (tokens r)) = tokens r := words_spaced _ (tokens_ne r) (isW_tokens r h hs)
theorem portsP_pfx (s : SideM) (w : Ws) : (portsP s w).1.pfx = s.pfx := (portsP_who s w).2
theorem sideF_pfx (ws : Ws) : (sideF ws).1.pfx.ok := by
  unfold sideF
  dsimp only
  rw [portsP_pfx, whoP_eq]
  generalize (nextF ws).1 = x
  unfold whoF
  split
  · show (0 : Nat) < 4294967296; decide
  · split
    · show (0 : Nat) < 4294967296; decide
    · exact prefL_ok x
theorem pinF_gate (ws : Ws) (x : Wd) : (pinF ws x).1.gate < 4294967296 := by
  unfold pinF
  dsimp only
  split
  · exact parseL_lt _
  · show (0 : Nat) < 4294967296; decide
theorem side_tab (s : SideM) (b : Bool) (h : sideR s b = true) : s.table.length ≤ 8 := by
  unfold sideR at h
  split at h
  · exact absurd h (by simp)
  · split at h
    · simp only [Bool.and_eq_true, decide_eq_true_eq] at h
      simp [h.1]
    · split at h
      · simp only [Bool.and_eq_true, nameL, decide_eq_true_eq] at h
        exact h.1.1.2
      · rename_i h2
        simp only [ne_eq, Classical.not_not] at h2
        simp [h2]
theorem name_le {l : Wd} (h : nameL l = true) : l.length ≤ 8 := by
  simp only [nameL, Bool.and_eq_true, decide_eq_true_eq] at h
  exact h.1.2
theorem pin_le (p : PinM) (h : pinR p = true) : p.iface.length ≤ 8 := by
  unfold pinR at h
  split at h
  · exact name_le h
  · have : p = {} := by simpa using h
    simp [this]
theorem on_le (r : RuleM) (h : ruleR r = true) : r.on.length ≤ 8 := by
  by_cases ho : r.on = []
  · simp [ho]
  · exact name_le (on_name r h ho)
/-- What holds of a rule that is parsed. -/
theorem parsed_fits (l : List Wd) (r : RuleM) (h : ruleOf l = some r) : ruleR r = true ∧ Fits r := by
  rw [ruleOf_chain l _ _ _ _ _ _ _ _ _ _ _ _ _ rfl rfl rfl rfl rfl rfl rfl rfl rfl rfl rfl rfl rfl] at h
  unfold endP at h
  split at h
  · cases h
  · rename_i hc
    have hr := Option.some.inj h
    rw [hr] at hc
    have hrr : ruleR r = true := by
      cases hq : ruleR r with
      | true => rfl
      | false => rw [hq] at hc; simp at hc
    refine ⟨hrr, ?_⟩
    have hset : 0 ≤ r.set ∧ r.set ≤ 63 := by rw [← hr]; exact flagsP_range _
    have hf := facts r hrr (by omega)
    have := on_le r hrr
    have := side_tab r.frm _ hf.sides.1
    have := side_tab r.dst _ hf.sides.2
    have := pin_le r.routeTo hf.pins.1
    have := pin_le r.replyTo hf.pins.2
    exact ⟨by omega, by omega, by rw [← hr]; exact sideF_pfx _, by omega, by rw [← hr]; exact sideF_pfx _, by omega, by omega, by rw [← hr]; exact pinF_gate _ _, by rw [← hr]; exact pinF_gate _ _, by omega, by omega⟩
theorem parse_back (r : RuleM) (h : ruleR r = true) (hf : Fits r) : ruleOf (wordsL (spaced (tokens r))) = some r := by
  rw [words_back r h hf.set.2]
  exact rule_back r h hf.set.2 hf.fp hf.dp hf.rg hf.pg
end Go.Proofs.YtnmbbnhgoedjgaaGreatDoor.Rw0
/- What the laws RulePorts and RuleFlags read: plain Lean. -/
namespace Go.Proofs.YtnmbbnhgoedjgaaGreatDoor.Rw1
open Go Go.RowKit Go.Proofs.YtnmbbnhgoedjgaaGreatDoor.Ad0 Go.Proofs.YtnmbbnhgoedjgaaGreatDoor.Ru0 Go.Proofs.YtnmbbnhgoedjgaaGreatDoor.Ru1 Go.Proofs.YtnmbbnhgoedjgaaGreatDoor.Ru3 Go.Proofs.YtnmbbnhgoedjgaaGreatDoor.Ru6 Go.Proofs.YtnmbbnhgoedjgaaGreatDoor.Ru4 Go.Proofs.YtnmbbnhgoedjgaaGreatDoor.RuB Go.Proofs.YtnmbbnhgoedjgaaGreatDoor.RuI Go.Proofs.YtnmbbnhgoedjgaaGreatDoor.RuH Go.Proofs.YtnmbbnhgoedjgaaGreatDoor.Rw0
set_option linter.unusedVariables false
set_option linter.unusedSimpArgs false
end Go.Proofs.YtnmbbnhgoedjgaaGreatDoor.Rw1
/- What the law RuleFlags reads: plain Lean. -/
namespace Go.Proofs.YtnmbbnhgoedjgaaGreatDoor.Rw2
open Go Go.RowKit Go.Proofs.YtnmbbnhgoedjgaaGreatDoor.Ad0 Go.Proofs.YtnmbbnhgoedjgaaGreatDoor.Ru0 Go.Proofs.YtnmbbnhgoedjgaaGreatDoor.Ru1 Go.Proofs.YtnmbbnhgoedjgaaGreatDoor.Ru3 Go.Proofs.YtnmbbnhgoedjgaaGreatDoor.Ru6 Go.Proofs.YtnmbbnhgoedjgaaGreatDoor.Ru4 Go.Proofs.YtnmbbnhgoedjgaaGreatDoor.RuB Go.Proofs.YtnmbbnhgoedjgaaGreatDoor.RuI Go.Proofs.YtnmbbnhgoedjgaaGreatDoor.RuH Go.Proofs.YtnmbbnhgoedjgaaGreatDoor.Rw0
set_option linter.unusedVariables false
set_option linter.unusedSimpArgs false
end Go.Proofs.YtnmbbnhgoedjgaaGreatDoor.Rw2

namespace Go.Proofs.YtnmbbnhgoedjgaaGreatDoor.RuT
open Go Go.RowKit Go.Proofs.YtnmbbnhgoedjgaaGreatDoor.Ad0 Go.Proofs.YtnmbbnhgoedjgaaGreatDoor.Ad1 Go.Proofs.YtnmbbnhgoedjgaaGreatDoor.St2 Go.Proofs.YtnmbbnhgoedjgaaGreatDoor.St3 Go.Proofs.YtnmbbnhgoedjgaaGreatDoor.St4 Go.Proofs.YtnmbbnhgoedjgaaGreatDoor.Ru0 Go.Proofs.YtnmbbnhgoedjgaaGreatDoor.Ru1 Go.Proofs.YtnmbbnhgoedjgaaGreatDoor.Ru3 Go.Proofs.YtnmbbnhgoedjgaaGreatDoor.Ru4 Go.Proofs.YtnmbbnhgoedjgaaGreatDoor.Ru6 Go.Proofs.YtnmbbnhgoedjgaaGreatDoor.Ru8 Go.Proofs.YtnmbbnhgoedjgaaGreatDoor.Ru9 Go.Proofs.YtnmbbnhgoedjgaaGreatDoor.RuB Go.Proofs.YtnmbbnhgoedjgaaGreatDoor.RuC
set_option linter.unusedVariables false
set_option linter.unusedSimpArgs false
theorem add_word (x y : Wd) (h : x.length + y.length ≤ 9223372036854775807) (W : World) : (Op.stringOp .add (⟨x.toArray⟩ : ByteArray) ⟨y.toArray⟩).run Tryz.prog W = .ok (.string ⟨(x ++ y).toArray⟩) W := by
  rw [run_string_add_sum (P := Tryz.prog) W _ _ (by rw [wd_size, wd_size]; exact h), str_app]
theorem sideR_facts (s : SideM) (b : Bool) (h : sideR s b = true) : (0 ≤ s.low ∧ s.low ≤ s.high ∧ s.high ≤ 65535) ∧ (s.any = true → s.table = []) ∧ s.table.length ≤ 8 := by
  unfold sideR at h
  split at h
  · exact absurd h (by simp)
  · rename_i hc
    simp only [Bool.or_eq_true, decide_eq_true_eq, not_or] at hc
    refine ⟨by omega, ?_, ?_⟩
    · intro ha
      rw [if_pos ha] at h
      simp only [Bool.and_eq_true, decide_eq_true_eq] at h
      exact h.1
    · split at h
      · simp only [Bool.and_eq_true, decide_eq_true_eq] at h
        simp [h.1]
      · split at h
        · simp only [Bool.and_eq_true, nameL, decide_eq_true_eq] at h
          exact h.1.1.2
        · rename_i h2
          simp only [ne_eq, Classical.not_not] at h2
          simp [h2]
theorem itoa_len (n : Int) (h0 : 0 ≤ n) (h1 : n ≤ 65535) : (Lib.itoa n).length ≤ 5 := by
  rw [itoa_of n h0]
  exact len_dec 4 n.toNat (by omega)
theorem whoW_len (s : SideM) (ht : s.table.length ≤ 8) : (whoW s).length ≤ 25 := by
  unfold whoW
  split
  · decide
  · split
    · simp; omega
    · unfold printP
      split
      · rename_i hl
        have h1 := print_len s.pfx.addr
        have h2 := itoa_len s.pfx.len hl.1 (by omega)
        simp; omega
      · simp
theorem side_text (s : SideM) : spaced (tkS s) = (if allP s then whoW s else if s.high = s.low then whoW s ++ ([32, 112, 111, 114, 116, 32] ++ Lib.itoa s.low) else (whoW s ++ ([32, 112, 111, 114, 116, 32] ++ Lib.itoa s.low)) ++ (58 :: Lib.itoa s.high)) := by
  unfold tkS portsW
  split
  · simp [spaced]
  · split
    · simp [spaced, wPort]
    · simp [spaced, wPort]
set_option maxRecDepth 100000 in
set_option maxHeartbeats 4000000 in
theorem pside_any (s : SideM) (b : Bool) (h : sideR s b = true) (hp : s.pfx.addr < 4294967296) (w : World) (hl : LibOK w) :
    Calls Tryz.prog 130 #[.agg (sideC s)] w fun e w' => e = .returned (.string ⟨(spaced (tkS s)).toArray⟩) ∧ Below w.heap.size w w' := by
  obtain ⟨hlow, hany0, htl⟩ := sideR_facts s b h
  have hwl := whoW_len s htl
  have i1 := itoa_len s.low (by omega) (by omega)
  have i2 := itoa_len s.high (by omega) (by omega)
  have KP := Lib.hid (fun W hL => pprint_any s.pfx hp W hL)
  have KL := Lib.hid (fun W hL => itoa_any s.low (by omega) (by omega) W hL)
  have KH := Lib.hid (fun W hL => itoa_any s.high (by omega) (by omega) W hL)
  have HT := Lib.hid (side_text s)
  have HB0 := Lib.hid (bnew w (.cells (sideC s) 71))
  have HR0 := Lib.hid (heap_alloc_new w (.cells (sideC s) 71))
  have HL0 := Lib.hid (hl.below HB0.out)
  have HLw := Lib.hid hl
  have hadd1 : ∀ W, (Op.stringOp .add (⟨#[60]⟩ : ByteArray) ⟨s.table.toArray⟩).run Tryz.prog W = .ok (.string ⟨(60 :: s.table).toArray⟩) W := fun W => add_word [60] s.table (by simp; omega) W
  have hadd2 : ∀ W, (Op.stringOp .add (⟨(60 :: s.table).toArray⟩ : ByteArray) ⟨#[62]⟩).run Tryz.prog W = .ok (.string ⟨(60 :: (s.table ++ [62])).toArray⟩) W := fun W => add_word (60 :: s.table) [62] (by simp; omega) W
  have hadd3 : ∀ W, (Op.stringOp .add (⟨#[32, 112, 111, 114, 116, 32]⟩ : ByteArray) ⟨(Lib.itoa s.low).toArray⟩).run Tryz.prog W = .ok (.string ⟨([32, 112, 111, 114, 116, 32] ++ Lib.itoa s.low).toArray⟩) W := fun W => add_word [32, 112, 111, 114, 116, 32] (Lib.itoa s.low) (by simp; omega) W
  have hadd5 : ∀ W, (Op.stringOp .add (⟨#[58]⟩ : ByteArray) ⟨(Lib.itoa s.high).toArray⟩).run Tryz.prog W = .ok (.string ⟨(58 :: Lib.itoa s.high).toArray⟩) W := fun W => add_word [58] (Lib.itoa s.high) (by simp; omega) W
  generalize hp6 : ([32, 112, 111, 114, 116, 32] : Wd) ++ Lib.itoa s.low = p6 at hadd3 HT
  have hp6l : p6.length ≤ 11 := by rw [← hp6]; simp; omega
  generalize hp5 : (58 : UInt8) :: Lib.itoa s.high = p5 at hadd5 HT
  have hp5l : p5.length ≤ 6 := by rw [← hp5]; simp; omega
  clear hp6 hp5
  have hadd4 := fun W => add_word (whoW s) p6 (by omega) W
  generalize hp4 : whoW s ++ p6 = p4 at hadd4 HT
  have hp4l : p4.length ≤ 36 := by rw [← hp4]; simp; omega
  have hadd6 := fun W => add_word p4 p5 (by omega) W
  generalize hp7 : p4 ++ p5 = p7 at hadd6 HT
  clear hp4 hp7
  generalize (Lib.itoa s.low) = il at KL hadd3
  generalize (Lib.itoa s.high) = ih at KH hadd5
  clear h hl i1 i2 hwl hp6l hp5l hp4l
  go_enter Tryz.func130, Tryz.ntmps130
  go_upto_block 0 with fail
  go_cut [3] (fun s3 wc => s3 = .string ⟨(whoW s).toArray⟩ ∧ Below w.heap.size w wc ∧ wc.heap[w.heap.size]? = some (.cells (sideC s) 71 (0, 0)))
  case first =>
    obtain ⟨a0, a1, a2, a3, a4, a5, b0, b1, b2, b3, b4, b5⟩ := box6 HR0.out
    cases ht : s.table.isEmpty with
    | false =>
      have ht2 : s.table ≠ [] := by simpa using ht
      have ha : s.any = false := by
        cases hc : s.any
        · rfl
        · exact absurd (hany0 hc) ht2
      have hw : whoW s = 60 :: (s.table ++ [62]) := by unfold whoW; rw [ha, if_neg (by simp), if_pos ht2]
      have HW := Lib.hid hw
      clear hw ht2 hany0
      go_wp2_with fail
      go_meet
      case rel => exact ⟨by rw [HW.out], HB0.out, HR0.out⟩
    | true =>
      have ht2 : s.table = [] := by simpa using ht
      clear hany0
      cases ha : s.any with
      | true =>
        have hw : whoW s = wAny := by unfold whoW; rw [ha, if_pos rfl]
        have HW := Lib.hid hw
        rw [ha] at a0
        clear hw ht2
        go_wp2_with fail
        go_meet
        case rel => exact ⟨by rw [HW.out]; rfl, HB0.out, HR0.out⟩
      | false =>
        have hw : whoW s = printP s.pfx := by unfold whoW; rw [ha, if_neg (by simp), if_neg (by simp [ht2])]
        have HW := Lib.hid hw
        rw [ha] at a0
        clear hw ht2
        go_wp2_with (go_at_call 76; refine (KP.out _ HL0.out).mono ?_; rintro e w1 ⟨rfl, hb1⟩; have HB1 := Lib.hid (bstep HB0.out hb1 HB0.out.size); have HR1 := row_step HR0 hb1; clear hb1)
        go_meet
        case rel => exact ⟨by rw [HW.out], HB1.out, HR1.out⟩
  case rest =>
    obtain ⟨rfl, hbw, hrw⟩ := hcut
    have HB := Lib.hid hbw
    have HR := Lib.hid hrw
    obtain ⟨a0, a1, a2, a3, a4, a5, b0, b1, b2, b3, b4, b5⟩ := box6 hrw
    clear hbw hrw
    go_upto_region 6 with fail
    go_cut [22] (fun s22 wx => s22 = .bool (allP s) ∧ wx = wc)
    case first =>
      go_wp2
      all_goals go_meet
      all_goals (case rel => exact ⟨by simp_all [allP], rfl⟩)
    case rest =>
      obtain ⟨rfl, rfl⟩ := hcut
      cases hap : allP s with
      | true =>
        rw [hap, if_pos rfl] at HT
        go_wp2_with fail
        go_ret
        exact ⟨by rw [HT.out]; rfl, HB.out⟩
      | false =>
        rw [hap, if_neg (by simp)] at HT
        have HL := Lib.hid (HLw.out.below HB.out)
        by_cases hlt : s.low < s.high
        · rw [if_neg (by omega)] at HT
          go_wp2_with (first
            | (go_at_call 75; (with_reducible refine (KL.out _ HL.out).mono ?_); rintro e w1 ⟨rfl, hb1⟩; have HB := Lib.hid (bstep HB.out hb1 HB.out.size); have HR := row_step HR hb1; have HL := Lib.hid (HLw.out.below HB.out); clear hb1 a0 a1 a2 a3 a4 a5 b0 b1 b2 b3 b4 b5; obtain ⟨a0, a1, a2, a3, a4, a5, b0, b1, b2, b3, b4, b5⟩ := box6 HR.out)
            | (go_at_call 75; (with_reducible refine (KH.out _ HL.out).mono ?_); rintro e w1 ⟨rfl, hb1⟩; have HB := Lib.hid (bstep HB.out hb1 HB.out.size); have HR := row_step HR hb1; have HL := Lib.hid (HLw.out.below HB.out); clear hb1 a0 a1 a2 a3 a4 a5 b0 b1 b2 b3 b4 b5; obtain ⟨a0, a1, a2, a3, a4, a5, b0, b1, b2, b3, b4, b5⟩ := box6 HR.out))
          go_ret
          exact ⟨by rw [HT.out]; rfl, HB.out⟩
        · rw [if_pos (by omega)] at HT
          go_wp2_with (go_at_call 75; (with_reducible refine (KL.out _ HL.out).mono ?_); rintro e w1 ⟨rfl, hb1⟩; have HB := Lib.hid (bstep HB.out hb1 HB.out.size); have HR := row_step HR hb1; have HL := Lib.hid (HLw.out.below HB.out); clear hb1 a0 a1 a2 a3 a4 a5 b0 b1 b2 b3 b4 b5; obtain ⟨a0, a1, a2, a3, a4, a5, b0, b1, b2, b3, b4, b5⟩ := box6 HR.out)
          go_ret
          exact ⟨by rw [HT.out]; rfl, HB.out⟩
end Go.Proofs.YtnmbbnhgoedjgaaGreatDoor.RuT

namespace Go.Proofs.YtnmbbnhgoedjgaaGreatDoor.RuW
open Go Go.RowKit Go.Proofs.YtnmbbnhgoedjgaaGreatDoor.Ad0 Go.Proofs.YtnmbbnhgoedjgaaGreatDoor.Ad1 Go.Proofs.YtnmbbnhgoedjgaaGreatDoor.St2 Go.Proofs.YtnmbbnhgoedjgaaGreatDoor.St3 Go.Proofs.YtnmbbnhgoedjgaaGreatDoor.St4 Go.Proofs.YtnmbbnhgoedjgaaGreatDoor.StA Go.Proofs.YtnmbbnhgoedjgaaGreatDoor.Ru0 Go.Proofs.YtnmbbnhgoedjgaaGreatDoor.Ru1 Go.Proofs.YtnmbbnhgoedjgaaGreatDoor.Ru3 Go.Proofs.YtnmbbnhgoedjgaaGreatDoor.Ru4 Go.Proofs.YtnmbbnhgoedjgaaGreatDoor.Ru6 Go.Proofs.YtnmbbnhgoedjgaaGreatDoor.RuB Go.Proofs.YtnmbbnhgoedjgaaGreatDoor.RuC Go.Proofs.YtnmbbnhgoedjgaaGreatDoor.St6 Go.Proofs.YtnmbbnhgoedjgaaGreatDoor.RuT Go.Proofs.YtnmbbnhgoedjgaaGreatDoor.RuR
set_option linter.unusedVariables false
set_option linter.unusedSimpArgs false
theorem dec_int (n : Int) (h0 : 0 ≤ n) (h1 : n ≤ 9223372036854775807) (W : World) : Calls Tryz.prog 82 #[.int .i64 n] W fun e w' => e = .returned (.string ⟨(Lib.itoa n).toArray⟩) ∧ Below W.heap.size W w' := by
  obtain ⟨k, rfl⟩ : ∃ k : Nat, n = k := ⟨n.toNat, by omega⟩
  rw [itoa_of _ h0]
  exact dec_any k (by omega) W
theorem rend_text (s : SideM) : spaced (tkS s) = (if allP s then whoW s else if s.high = s.low then (whoW s ++ [32, 112, 111, 114, 116, 32]) ++ Lib.itoa s.low else (((whoW s ++ [32, 112, 111, 114, 116, 32]) ++ Lib.itoa s.low) ++ [58]) ++ Lib.itoa s.high) := by
  rw [side_text]
  split
  · rfl
  · split <;> simp
set_option maxRecDepth 100000 in
set_option maxHeartbeats 4000000 in
theorem rend_any (s : SideM) (b : Bool) (h : sideR s b = true) (hp : s.pfx.addr < 4294967296) (w : World) (hl : LibOK w) :
    Calls Tryz.prog 134 #[.agg (sideC s)] w fun e w' => e = .returned (.string ⟨(spaced (tkS s)).toArray⟩) ∧ Below w.heap.size w w' := by
  obtain ⟨hlow, hany0, htl⟩ := sideR_facts s b h
  have hwl := whoW_len s htl
  have i1 := itoa_len s.low (by omega) (by omega)
  have i2 := itoa_len s.high (by omega) (by omega)
  have KP := Lib.hid (fun W hL => rpprint_any s.pfx hp W hL)
  have KL := Lib.hid (fun W => dec_int s.low (by omega) (by omega) W)
  have KH := Lib.hid (fun W => dec_int s.high (by omega) (by omega) W)
  have KA : Hid (∀ W, Calls Tryz.prog 139 #[.agg #[.int .i64 s.low, .int .i64 s.high]] W fun e w' => e = .returned (.bool (allP s)) ∧ Below W.heap.size W w') := fun W => all_any s.low s.high W
  have HT := Lib.hid (rend_text s)
  have HB0 := Lib.hid (bnew w (.cells (sideC s) 71))
  have HR0 := Lib.hid (heap_alloc_new w (.cells (sideC s) 71))
  have HL0 := Lib.hid (hl.below HB0.out)
  have HLw := Lib.hid hl
  have hadd1 : ∀ W, (Op.stringOp .add (⟨#[60]⟩ : ByteArray) ⟨s.table.toArray⟩).run Tryz.prog W = .ok (.string ⟨(60 :: s.table).toArray⟩) W := fun W => add_word [60] s.table (by simp; omega) W
  have hadd2 : ∀ W, (Op.stringOp .add (⟨(60 :: s.table).toArray⟩ : ByteArray) ⟨#[62]⟩).run Tryz.prog W = .ok (.string ⟨(60 :: (s.table ++ [62])).toArray⟩) W := fun W => add_word (60 :: s.table) [62] (by simp; omega) W
  have hadd3 : ∀ W, (Op.stringOp .add (⟨(whoW s).toArray⟩ : ByteArray) ⟨#[32, 112, 111, 114, 116, 32]⟩).run Tryz.prog W = .ok (.string ⟨(whoW s ++ [32, 112, 111, 114, 116, 32]).toArray⟩) W := fun W => add_word (whoW s) [32, 112, 111, 114, 116, 32] (by simp; omega) W
  generalize hp3 : whoW s ++ ([32, 112, 111, 114, 116, 32] : Wd) = p3 at hadd3 HT
  have hp3l : p3.length ≤ 31 := by rw [← hp3]; simp; omega
  have hadd4 := fun W => add_word p3 (Lib.itoa s.low) (by omega) W
  generalize hp4 : p3 ++ Lib.itoa s.low = p4 at hadd4 HT
  have hp4l : p4.length ≤ 36 := by rw [← hp4]; simp; omega
  have hadd5 : ∀ W, (Op.stringOp .add (⟨p4.toArray⟩ : ByteArray) ⟨#[58]⟩).run Tryz.prog W = .ok (.string ⟨(p4 ++ [58]).toArray⟩) W := fun W => add_word p4 [58] (by simp; omega) W
  generalize hp5 : p4 ++ ([58] : Wd) = p5 at hadd5 HT
  have hp5l : p5.length ≤ 37 := by rw [← hp5]; simp; omega
  have hadd6 := fun W => add_word p5 (Lib.itoa s.high) (by omega) W
  generalize hp7 : p5 ++ Lib.itoa s.high = p7 at hadd6 HT
  clear hp3 hp4 hp5 hp7
  generalize (Lib.itoa s.low) = il at KL hadd4
  generalize (Lib.itoa s.high) = ih at KH hadd6
  clear h hl i1 i2 hwl hp3l hp4l hp5l
  go_enter Tryz.func134, Tryz.ntmps134
  go_upto_block 0 with fail
  go_cut [3] (fun s3 wc => s3 = .string ⟨(whoW s).toArray⟩ ∧ Below w.heap.size w wc ∧ wc.heap[w.heap.size]? = some (.cells (sideC s) 71 (0, 0)))
  case first =>
    obtain ⟨a0, a1, a2, a3, a4, a5, b0, b1, b2, b3, b4, b5⟩ := box6 HR0.out
    cases ha : s.any with
    | true =>
      have hw : whoW s = wAny := by unfold whoW; rw [ha, if_pos rfl]
      have HW := Lib.hid hw
      rw [ha] at a0
      clear hw hany0
      go_wp2_with fail
      go_meet
      case rel => exact ⟨by rw [HW.out]; rfl, HB0.out, HR0.out⟩
    | false =>
      rw [ha] at a0
      clear hany0
      cases ht : s.table.isEmpty with
      | false =>
        have ht2 : s.table ≠ [] := by simpa using ht
        have hw : whoW s = 60 :: (s.table ++ [62]) := by unfold whoW; rw [ha, if_neg (by simp), if_pos ht2]
        have HW := Lib.hid hw
        clear hw ht2
        go_wp2_with fail
        go_meet
        case rel => exact ⟨by rw [HW.out], HB0.out, HR0.out⟩
      | true =>
        have ht2 : s.table = [] := by simpa using ht
        have hw : whoW s = printP s.pfx := by unfold whoW; rw [ha, if_neg (by simp), if_neg (by simp [ht2])]
        have HW := Lib.hid hw
        clear hw ht2
        go_wp2_with (go_at_call 83; refine (KP.out _ HL0.out).mono ?_; rintro e w1 ⟨rfl, hb1⟩; have HB1 := Lib.hid (bstep HB0.out hb1 HB0.out.size); have HR1 := row_step HR0 hb1; clear hb1)
        go_meet
        case rel => exact ⟨by rw [HW.out], HB1.out, HR1.out⟩
  case rest =>
    obtain ⟨rfl, hbw, hrw⟩ := hcut
    have HB := Lib.hid hbw
    have HR := Lib.hid hrw
    obtain ⟨a0, a1, a2, a3, a4, a5, b0, b1, b2, b3, b4, b5⟩ := box6 hrw
    clear hbw hrw
    cases hap : allP s with
    | true =>
      rw [hap] at KA
      rw [hap, if_pos rfl] at HT
      go_wp2_with (go_at_call 139; (with_reducible refine (KA.out _).mono ?_); rintro e w1 ⟨rfl, hb1⟩; have HB := Lib.hid (bstep HB.out hb1 HB.out.size); clear hb1)
      go_ret
      exact ⟨by rw [HT.out]; rfl, HB.out⟩
    | false =>
      rw [hap] at KA
      rw [hap, if_neg (by simp)] at HT
      by_cases hlt : s.high = s.low
      · rw [if_pos hlt] at HT
        have hq : (s.high != s.low) = false := by simp [hlt]
        clear hlt
        go_wp2_with (first
          | (go_at_call 139; (with_reducible refine (KA.out _).mono ?_); rintro e w1 ⟨rfl, hb1⟩; have HB := Lib.hid (bstep HB.out hb1 HB.out.size); have HR := row_step HR hb1; clear hb1 a0 a1 a2 a3 a4 a5 b0 b1 b2 b3 b4 b5; obtain ⟨a0, a1, a2, a3, a4, a5, b0, b1, b2, b3, b4, b5⟩ := box6 HR.out)
          | (go_at_call 82; (with_reducible refine (KL.out _).mono ?_); rintro e w1 ⟨rfl, hb1⟩; have HB := Lib.hid (bstep HB.out hb1 HB.out.size); have HR := row_step HR hb1; clear hb1 a0 a1 a2 a3 a4 a5 b0 b1 b2 b3 b4 b5; obtain ⟨a0, a1, a2, a3, a4, a5, b0, b1, b2, b3, b4, b5⟩ := box6 HR.out))
        go_ret
        exact ⟨by rw [HT.out]; rfl, HB.out⟩
      · rw [if_neg hlt] at HT
        go_wp2_with (first
          | (go_at_call 139; (with_reducible refine (KA.out _).mono ?_); rintro e w1 ⟨rfl, hb1⟩; have HB := Lib.hid (bstep HB.out hb1 HB.out.size); have HR := row_step HR hb1; clear hb1 a0 a1 a2 a3 a4 a5 b0 b1 b2 b3 b4 b5; obtain ⟨a0, a1, a2, a3, a4, a5, b0, b1, b2, b3, b4, b5⟩ := box6 HR.out)
          | (go_at_call 82; (with_reducible refine (KL.out _).mono ?_); rintro e w1 ⟨rfl, hb1⟩; have HB := Lib.hid (bstep HB.out hb1 HB.out.size); have HR := row_step HR hb1; clear hb1 a0 a1 a2 a3 a4 a5 b0 b1 b2 b3 b4 b5; obtain ⟨a0, a1, a2, a3, a4, a5, b0, b1, b2, b3, b4, b5⟩ := box6 HR.out)
          | (go_at_call 82; (with_reducible refine (KH.out _).mono ?_); rintro e w1 ⟨rfl, hb1⟩; have HB := Lib.hid (bstep HB.out hb1 HB.out.size); have HR := row_step HR hb1; clear hb1 a0 a1 a2 a3 a4 a5 b0 b1 b2 b3 b4 b5; obtain ⟨a0, a1, a2, a3, a4, a5, b0, b1, b2, b3, b4, b5⟩ := box6 HR.out))
        go_ret
        exact ⟨by rw [HT.out]; rfl, HB.out⟩
end Go.Proofs.YtnmbbnhgoedjgaaGreatDoor.RuW

namespace Go.Proofs.YtnmbbnhgoedjgaaGreatDoor.RuY
open Go Go.RowKit Go.Proofs.YtnmbbnhgoedjgaaGreatDoor.Ru0 Go.Proofs.YtnmbbnhgoedjgaaGreatDoor.Ad1 Go.Proofs.YtnmbbnhgoedjgaaGreatDoor.St2 Go.Proofs.YtnmbbnhgoedjgaaGreatDoor.Ru1 Go.Proofs.YtnmbbnhgoedjgaaGreatDoor.Ru2 Go.Proofs.YtnmbbnhgoedjgaaGreatDoor.Ru3 Go.Proofs.YtnmbbnhgoedjgaaGreatDoor.Ru6 Go.Proofs.YtnmbbnhgoedjgaaGreatDoor.Ru4 Go.Proofs.YtnmbbnhgoedjgaaGreatDoor.Ru9 Go.Proofs.YtnmbbnhgoedjgaaGreatDoor.RuB Go.Proofs.YtnmbbnhgoedjgaaGreatDoor.RuC Go.Proofs.YtnmbbnhgoedjgaaGreatDoor.RuD Go.Proofs.YtnmbbnhgoedjgaaGreatDoor.RuE Go.Proofs.YtnmbbnhgoedjgaaGreatDoor.RuH Go.Proofs.YtnmbbnhgoedjgaaGreatDoor.RuI Go.Proofs.YtnmbbnhgoedjgaaGreatDoor.RuJ
set_option linter.unusedVariables false
set_option linter.unusedSimpArgs false
/-- A rule that lies in a block. -/
def Box (W : World) (g : Nat) (r : RuleM) : Prop := W.heap[g]? = some (.cells (ruleC r) 75 (0, 0))
theorem Box.below {W W' : World} {g : Nat} {r : RuleM} (h : Box W g r) (hb : Below W.heap.size W W') : Box W' g r := (hb.block _ (blk_lt' h)).trans h
/-- What a walk keeps: what lay below is as it was, the library's variables stand. -/
structure Lo (w W : World) : Prop where
  low : Below w.heap.size w W
  lib : LibOK W
theorem Lo.below {w W W' : World} (h : Lo w W) (hb : Below W.heap.size W W') : Lo w W' := ⟨bstep h.low hb h.low.size, h.lib.below hb⟩
theorem Lo.new {w : World} (h : LibOK w) (o : Obj) : Lo w (w.alloc o) := ⟨bnew w o, h.below (bnew w o)⟩
theorem box_new (W : World) (r r0 : RuleM) : Box ((W.alloc (.cells (ruleC r0) 75)).setCells W.heap.size 0 (ruleC r).toList) W.heap.size r := by
  have h := Mem.puts_row (ruleC r).toList 0 (heap_alloc_new W (.cells (ruleC r0) 75))
  rw [put_all] at h
  exact h
theorem below_new (W : World) (r r0 : RuleM) : Below W.heap.size W ((W.alloc (.cells (ruleC r0) 75)).setCells W.heap.size 0 (ruleC r).toList) := Mem.puts_below (bnew W _) (Nat.le_refl _) _ 0
theorem info32 (r : RuleM) : (Tryz.prog.info? 75).map (·.size) = some (ruleC r).size := by kernel_rfl
set_option maxRecDepth 20000 in
theorem rsame_any (p q : RuleM) (w : World) : Calls Tryz.prog 32 #[.agg (ruleC p), .agg (ruleC q)] w fun e w' => e = .returned (.bool (decide (p = q))) ∧ Below w.heap.size w w' := by
  have HE := Lib.hid (fun W => eql_rule p q W)
  have HI := Lib.hid (info32 p)
  have HJ := Lib.hid (info32 q)
  have HB := Lib.hid (bnew2 w (.cells (ruleC p) 75) (.cells (ruleC q) 75))
  have HP := Lib.hid (heap_alloc2_old w (.cells (ruleC p) 75) (.cells (ruleC q) 75))
  have HQ := Lib.hid (heap_alloc2_new w (.cells (ruleC p) 75) (.cells (ruleC q) 75))
  generalize hc : ruleC p = cp at *
  generalize hd : ruleC q = cq at *
  clear hc hd
  have he := HE.out
  go_enter Tryz.func32, Tryz.ntmps32
  go_wp2_with (first
    | ((with_reducible refine Mem.load_row w.heap.size ?_ HP.out Tryz.underlying75 HI.out ?_ ?_); rfl; rfl)
    | ((with_reducible refine Mem.load_row (w.heap.size + 1) ?_ HQ.out Tryz.underlying75 HJ.out ?_ ?_); rfl; rfl))
  go_ret
  exact ⟨rfl, HB.out⟩
/-- The bytes that are looked at. -/
def bytesR (r : RuleM) : Nat := r.on.length + r.frm.table.length + r.dst.table.length + r.routeTo.iface.length + r.replyTo.iface.length
/-- A rule's text. -/
def printed (r : RuleM) : Wd := if ruleR r then spaced (tokens r) else []
/-- rule.Print's contract. -/
def PrintSaid : Prop := ∀ (r : RuleM), Fits r → ∀ (w : World), LibOK w → Calls Tryz.prog 78 #[.agg (ruleC r)] w fun e w' => e = .returned (.string ⟨(printed r).toArray⟩) ∧ Below w.heap.size w w'
/-- castellanref14.Print's contract. -/
def RPrintSaid : Prop := ∀ (r : RuleM), Fits r → ∀ (w : World), LibOK w → Calls Tryz.prog 85 #[.agg (ruleC r)] w fun e w' => e = .returned (.string ⟨(printed r).toArray⟩) ∧ Below w.heap.size w w'
/-- What a parse answers, told apart. -/
def ruleE (r : Option RuleM) : Int := if r.isSome then 0 else 2
theorem ruleV_eq (x : Option RuleM) : ruleV x = .tuple #[.agg (ruleC (x.getD {})), .int .i64 (ruleE x)] := by cases x <;> rfl
end Go.Proofs.YtnmbbnhgoedjgaaGreatDoor.RuY
/- heavy, whatever the rule. -/
namespace Go.Proofs.YtnmbbnhgoedjgaaGreatDoor.RuYa
open Go Go.RowKit Go.Proofs.YtnmbbnhgoedjgaaGreatDoor.Ru0 Go.Proofs.YtnmbbnhgoedjgaaGreatDoor.Ad1 Go.Proofs.YtnmbbnhgoedjgaaGreatDoor.St2 Go.Proofs.YtnmbbnhgoedjgaaGreatDoor.Ru1 Go.Proofs.YtnmbbnhgoedjgaaGreatDoor.Ru2 Go.Proofs.YtnmbbnhgoedjgaaGreatDoor.Ru3 Go.Proofs.YtnmbbnhgoedjgaaGreatDoor.Ru6 Go.Proofs.YtnmbbnhgoedjgaaGreatDoor.Ru4 Go.Proofs.YtnmbbnhgoedjgaaGreatDoor.Ru9 Go.Proofs.YtnmbbnhgoedjgaaGreatDoor.RuB Go.Proofs.YtnmbbnhgoedjgaaGreatDoor.RuC Go.Proofs.YtnmbbnhgoedjgaaGreatDoor.RuD Go.Proofs.YtnmbbnhgoedjgaaGreatDoor.RuE Go.Proofs.YtnmbbnhgoedjgaaGreatDoor.RuH Go.Proofs.YtnmbbnhgoedjgaaGreatDoor.RuI Go.Proofs.YtnmbbnhgoedjgaaGreatDoor.RuJ Go.Proofs.YtnmbbnhgoedjgaaGreatDoor.RuY
set_option linter.unusedVariables false
set_option linter.unusedSimpArgs false
/-- Are there more bytes than are looked at? As it is reckoned. -/
def heavyF (r : RuleM) : Bool := decide (400 < wrap64 (wrap64 (wrap64 (wrap64 (((⟨r.on.toArray⟩ : ByteArray).size : Int) + (⟨r.frm.table.toArray⟩ : ByteArray).size) + (⟨r.dst.table.toArray⟩ : ByteArray).size) + (⟨r.routeTo.iface.toArray⟩ : ByteArray).size) + (⟨r.replyTo.iface.toArray⟩ : ByteArray).size))
end Go.Proofs.YtnmbbnhgoedjgaaGreatDoor.RuYa
/- known: a rule of one address is printed as it should. -/
namespace Go.Proofs.YtnmbbnhgoedjgaaGreatDoor.RuZ
open Go Go.RowKit Go.Proofs.YtnmbbnhgoedjgaaGreatDoor.Ru0 Go.Proofs.YtnmbbnhgoedjgaaGreatDoor.Ad1 Go.Proofs.YtnmbbnhgoedjgaaGreatDoor.St2 Go.Proofs.YtnmbbnhgoedjgaaGreatDoor.Ru1 Go.Proofs.YtnmbbnhgoedjgaaGreatDoor.Ru2 Go.Proofs.YtnmbbnhgoedjgaaGreatDoor.Ru3 Go.Proofs.YtnmbbnhgoedjgaaGreatDoor.Ru6 Go.Proofs.YtnmbbnhgoedjgaaGreatDoor.Ru4 Go.Proofs.YtnmbbnhgoedjgaaGreatDoor.Ru9 Go.Proofs.YtnmbbnhgoedjgaaGreatDoor.RuB Go.Proofs.YtnmbbnhgoedjgaaGreatDoor.RuC Go.Proofs.YtnmbbnhgoedjgaaGreatDoor.RuD Go.Proofs.YtnmbbnhgoedjgaaGreatDoor.RuE Go.Proofs.YtnmbbnhgoedjgaaGreatDoor.RuH Go.Proofs.YtnmbbnhgoedjgaaGreatDoor.RuI Go.Proofs.YtnmbbnhgoedjgaaGreatDoor.RuJ Go.Proofs.YtnmbbnhgoedjgaaGreatDoor.RuY
set_option linter.unusedVariables false
set_option linter.unusedSimpArgs false
def kr : RuleM := { pass := true, frm := { any := true, high := 65535 }, dst := { pfx := ⟨167772161, 32⟩, high := 65535 }, typ := -1 }
def kText : Wd := [112, 97, 115, 115, 32, 102, 114, 111, 109, 32, 97, 110, 121, 32, 116, 111, 32, 49, 48, 46, 48, 46, 48, 46, 49]
def kText2 : Wd := [112, 97, 115, 115, 32, 102, 114, 111, 109, 32, 97, 110, 121, 32, 116, 111, 32, 49, 48, 46, 48, 46, 48, 46, 49, 47, 51, 50]
theorem kr_parse : ruleOf (wordsL kText) = some kr := by decide +kernel
theorem kr_print : printed kr = kText2 := by decide +kernel
theorem kr_fits : Fits kr := ⟨by decide, by decide, by show (0 : Nat) < 4294967296; decide, by decide, by show (167772161 : Nat) < 4294967296; decide, by decide, by decide, by decide, by decide, by decide⟩
end Go.Proofs.YtnmbbnhgoedjgaaGreatDoor.RuZ

namespace Go.Proofs.YtnmbbnhgoedjgaaGreatDoor.Cf0
open Go Go.RowKit Go.Proofs.YtnmbbnhgoedjgaaGreatDoor.Ad0 Go.Proofs.YtnmbbnhgoedjgaaGreatDoor.St0 Go.Proofs.YtnmbbnhgoedjgaaGreatDoor.St3 Go.Proofs.YtnmbbnhgoedjgaaGreatDoor.St4 Go.Proofs.YtnmbbnhgoedjgaaGreatDoor.StC Go.Proofs.YtnmbbnhgoedjgaaGreatDoor.Ru0 Go.Proofs.YtnmbbnhgoedjgaaGreatDoor.Ru1 Go.Proofs.YtnmbbnhgoedjgaaGreatDoor.Ru3 Go.Proofs.YtnmbbnhgoedjgaaGreatDoor.Ru4 Go.Proofs.YtnmbbnhgoedjgaaGreatDoor.Ru6 Go.Proofs.YtnmbbnhgoedjgaaGreatDoor.RuH Go.Proofs.YtnmbbnhgoedjgaaGreatDoor.Rw0 Go.Proofs.YtnmbbnhgoedjgaaGreatDoor.RuY
set_option linter.unusedVariables false
set_option linter.unusedSimpArgs false
structure IfaceM where
  name : Wd := []
  addr : Pfx := ⟨0, 0⟩
  mtu : Int := 0
  rpf : Int := 0
  deriving DecidableEq
structure NamedM where
  name : Wd := []
  l : List Pfx := []
  deriving DecidableEq
structure ConfM where
  ifaces : List IfaceM := []
  bogons : List Pfx := []
  tables : List NamedM := []
  rules : List RuleM := []
  flows : Int := 0
  errors : Int := 0
  deriving DecidableEq
def wFlows : Wd := [102, 108, 111, 119, 115]
def wErrors : Wd := [101, 114, 114, 111, 114, 115]
def wIface : Wd := [105, 102, 97, 99, 101]
def wMtu : Wd := [109, 116, 117]
def wRpf : Wd := [114, 112, 102]
def wBogon : Wd := [98, 111, 103, 111, 110]
def modes : List Wd := [[110, 111, 110, 101], [115, 116, 114, 105, 99, 116], [108, 111, 111, 115, 101], [108, 111, 111, 115, 101, 114], [102, 101, 97, 115, 105, 98, 108, 101]]
def modeW (n : Int) : Wd := modes.getD n.toNat []
def modeOf (s : Wd) : Option Nat := modes.findIdx? (· == s)
/-- May an interface be? -/
def isI (x : IfaceM) : Bool := nameL x.name && (decide (1 ≤ x.addr.len) && (decide (x.addr.len ≤ 32) && (decide (16777216 ≤ x.addr.addr) && (!castF x.addr.addr && (decide (68 ≤ x.mtu) && (decide (x.mtu ≤ 65535) && (decide (0 ≤ x.rpf) && decide (x.rpf ≤ 4))))))))
def prefsOK (l : List Pfx) : Bool := decide (l.length ≤ 256) && l.all isF
def ifaceW (x : IfaceM) : List Wd := [wIface, x.name, printP x.addr, wMtu, Lib.itoa x.mtu, wRpf, modeW x.rpf]
def tableW (t : NamedM) : List Wd := wTable :: t.name :: t.l.map printP
def linesT (c : ConfM) : List Wd := spaced [wFlows, Lib.itoa c.flows] :: spaced [wErrors, Lib.itoa c.errors] :: (c.ifaces.map (fun x => spaced (ifaceW x)) ++ (c.bogons.map (fun p => spaced [wBogon, printP p]) ++ (c.tables.map (fun t => spaced (tableW t)) ++ c.rules.map printed)))
def unlines (l : List Wd) : Wd := l.flatMap fun x => x ++ [10]
def textC (c : ConfM) : Wd := unlines (linesT c)
def isC (c : ConfM) : Bool := decide (1 ≤ c.flows) && (decide (c.flows ≤ 64) && (decide (0 ≤ c.errors) && (decide (c.errors ≤ 100) && (decide (1 ≤ c.ifaces.length) && (decide (c.ifaces.length ≤ 8) && (decide (c.rules.length ≤ 64) && (prefsOK c.bogons && (c.ifaces.all isI && (c.tables.all (fun t => nameL t.name && prefsOK t.l) && (c.rules.all ruleR && decide ((textC c).length ≤ 8192)))))))))))
/-- The first name that stood ahead. -/
def twiceL : List Wd → List Wd → Option Wd
  | _, [] => none
  | pre, x :: t => if pre.contains x then some x else twiceL (pre ++ [x]) t
def hasIface (c : ConfM) (n : Wd) : Bool := c.ifaces.any fun x => x.name == n
def hasTable (c : ConfM) (n : Wd) : Bool := c.tables.any fun x => x.name == n
def wrongOf (c : ConfM) (r : RuleM) : Option Wd := ([r.on, r.routeTo.iface, r.replyTo.iface].find? fun n => !n.isEmpty && !hasIface c n).orElse fun _ => [r.frm.table, r.dst.table].find? fun n => !n.isEmpty && !hasTable c n
def checkC (c : ConfM) : Int × Wd :=
  if !isC c then (2, []) else
  match twiceL [] (c.ifaces.map (·.name)) with
  | some n => (8, n)
  | none => match twiceL [] (c.tables.map (·.name)) with
    | some n => (8, n)
    | none => match c.rules.findSome? (wrongOf c) with
      | some n => (8, n)
      | none => (0, [])
def numIn (s : Wd) (low high : Nat) : Option Nat := if okNum 9 s && (decide (low ≤ dv s) && decide (dv s ≤ high)) then some (dv s) else none
def prefOK (s : Wd) : Option Pfx := (prefL s).bind fun p => if isF p then some p else none
def ifaceOf (w : List Wd) : Option IfaceM := match w with
  | [_, name, a, m, n, r, md] => if m = wMtu ∧ r = wRpf then (prefL a).bind fun p => (modeOf md).bind fun k => if okNum 9 n && isI ⟨name, p, (dv n : Nat), (k : Nat)⟩ then some ⟨name, p, (dv n : Nat), (k : Nat)⟩ else none else none
  | _ => none
def prefsOf : List Wd → Option (List Pfx)
  | [] => some []
  | s :: t => (prefOK s).bind fun p => (prefsOf t).map fun l => p :: l
def tableOf (w : List Wd) : Option NamedM := match w with
  | _ :: name :: ps => if nameL name then (prefsOf ps).map fun l => ⟨name, l⟩ else none
  | _ => none
/-- A line is taken in. -/
def lineL (c : ConfM) (line : Wd) (w : List Wd) : Option ConfM := match w with
  | [] => some c
  | h :: t =>
    if h = wFlows then (if c.flows ≠ 0 then none else match t with
      | [s] => (numIn s 1 64).map fun n => { c with flows := (n : Nat) }
      | _ => none)
    else if h = wErrors then (if 0 ≤ c.errors then none else match t with
      | [s] => (numIn s 0 100).map fun n => { c with errors := (n : Nat) }
      | _ => none)
    else if h = wIface then (ifaceOf (h :: t)).map fun x => { c with ifaces := c.ifaces ++ [x] }
    else if h = wBogon then (match t with
      | [s] => (prefOK s).map fun p => { c with bogons := c.bogons ++ [p] }
      | _ => none)
    else if h = wTable then (tableOf (h :: t)).map fun x => { c with tables := c.tables ++ [x] }
    else (ruleOf (wordsL line)).map fun r => { c with rules := c.rules ++ [r] }
def skipW (w : List Wd) : Bool := match w with
  | [] => true
  | h :: _ => h.head? == some 35
def stepL (c : ConfM) (line : Wd) : Option ConfM := if skipW (wordsL line) then some c else lineL c line (wordsL line)
def endC (c : ConfM) : ConfM × Int × Int := if (checkC c).1 ≠ 0 then ({}, 0, (checkC c).1) else (c, 0, 0)
def goL : ConfM → Nat → List Wd → ConfM × Int × Int
  | c, _, [] => endC c
  | c, i, l :: t => match stepL c l with
    | some c' => goL c' (i + 1) t
    | none => ({}, ((i + 1 : Nat) : Int), 2)
def startC : ConfM := { errors := -1 }
def parseC (s : Wd) : ConfM × Int × Int := if 8192 < s.length then ({}, 0, 5) else goL startC 0 (parts 10 s)
/-! ## A text is parsed back. -/
def runL : ConfM → List Wd → Option ConfM
  | c, [] => some c
  | c, l :: t => (stepL c l).bind fun c' => runL c' t
theorem runL_append : ∀ (a b : List Wd) (c : ConfM), runL c (a ++ b) = (runL c a).bind fun c' => runL c' b
  | [], b, c => rfl
  | l :: t, b, c => by
    show (stepL c l).bind (fun c' => runL c' (t ++ b)) = _
    cases h : stepL c l with
    | none => simp [runL, h]
    | some c' => simp [runL, h, runL_append t b c']
theorem goL_run : ∀ (l : List Wd) (c c' : ConfM) (i : Nat), runL c l = some c' → goL c i l = endC c'
  | [], c, c', i, h => by cases h; rfl
  | x :: t, c, c', i, h => by
    unfold runL at h
    unfold goL
    cases hs : stepL c x with
    | none => rw [hs] at h; cases h
    | some d =>
      rw [hs] at h
      exact goL_run t d c' (i + 1) h
theorem goL_append : ∀ (a b : List Wd) (c c' : ConfM) (i : Nat), runL c a = some c' → goL c i (a ++ b) = goL c' (i + a.length) b
  | [], b, c, c', i, h => by cases h; rfl
  | x :: t, b, c, c', i, h => by
    unfold runL at h
    have e : goL c i (x :: (t ++ b)) = (match stepL c x with
      | some c' => goL c' (i + 1) (t ++ b)
      | none => ({}, ((i + 1 : Nat) : Int), 2)) := rfl
    rw [List.cons_append, e]
    cases hs : stepL c x with
    | none => rw [hs] at h; cases h
    | some d =>
      rw [hs] at h
      show goL d (i + 1) (t ++ b) = _
      rw [goL_append t b d c' (i + 1) h, List.length_cons, show i + 1 + t.length = i + (t.length + 1) from by omega]
theorem parts_unlines : ∀ (l : List Wd) (s : Wd), (∀ x ∈ l, (10 : UInt8) ∉ x) → parts 10 (unlines l ++ s) = l ++ parts 10 s
  | [], s, _ => rfl
  | x :: t, s, h => by
    have e : unlines (x :: t) ++ s = x ++ 10 :: (unlines t ++ s) := by simp [unlines]
    rw [e, parts_append 10 x _ (h x (by simp)), parts_unlines t s (fun y hy => h y (List.mem_cons_of_mem _ hy))]
    rfl
structure OkC (c : ConfM) : Prop where
  ifaces : ∀ x ∈ c.ifaces, x.addr.ok
  bogons : ∀ p ∈ c.bogons, p.ok
  tables : ∀ t ∈ c.tables, ∀ p ∈ t.l, p.ok
  rules : ∀ r ∈ c.rules, Fits r
theorem num_in (n : Int) (low high : Nat) (h0 : (low : Int) ≤ n) (h1 : n ≤ high) (hh : high < 1000000000) : numIn (Lib.itoa n) low high = some n.toNat := by
  rw [itoa_of n (by omega)]
  unfold numIn
  rw [ok_dec n.toNat (by omega), dv_dec]
  have : low ≤ n.toNat ∧ n.toNat ≤ high := by omega
  simp [this]
theorem pref_back (p : Pfx) (h : p.ok) (h0 : 0 ≤ p.len) (h1 : p.len ≤ 32) : prefL (printP p) = some p := by
  obtain ⟨a, n⟩ := p
  obtain ⟨k, rfl⟩ : ∃ k : Nat, n = k := ⟨n.toNat, by simp at h0; omega⟩
  exact back_pfx a k h (by simp at h1; omega)
theorem mode_back : ∀ k : Fin 5, modeOf (modeW (k.val : Nat)) = some k.val := by decide +kernel
theorem mode_back' (n : Int) (h0 : 0 ≤ n) (h1 : n ≤ 4) : modeOf (modeW n) = some n.toNat := by
  have := mode_back ⟨n.toNat, by omega⟩
  have e : ((n.toNat : Nat) : Int) = n := by omega
  simp only [e] at this
  exact this
theorem isI_facts (x : IfaceM) (h : isI x = true) : nameL x.name = true ∧ (1 ≤ x.addr.len ∧ x.addr.len ≤ 32) ∧ (68 ≤ x.mtu ∧ x.mtu ≤ 65535) ∧ (0 ≤ x.rpf ∧ x.rpf ≤ 4) := by
  unfold isI at h
  simp only [Bool.and_eq_true, decide_eq_true_eq] at h
  exact ⟨h.1, ⟨h.2.1, h.2.2.1⟩, ⟨h.2.2.2.2.2.1, h.2.2.2.2.2.2.1⟩, ⟨h.2.2.2.2.2.2.2.1, h.2.2.2.2.2.2.2.2⟩⟩
theorem iface_back (x : IfaceM) (h : isI x = true) (hp : x.addr.ok) : ifaceOf (ifaceW x) = some x := by
  obtain ⟨h1, h2, h3, h4⟩ := isI_facts x h
  unfold ifaceOf ifaceW
  have hd := itoa_of x.mtu (by omega)
  have e1 : ((dv (Lib.itoa x.mtu) : Nat) : Int) = x.mtu := by rw [hd, dv_dec]; omega
  have e2 : okNum 9 (Lib.itoa x.mtu) = true := by rw [hd]; exact ok_dec _ (by omega)
  have e3 : ((x.rpf.toNat : Nat) : Int) = x.rpf := by omega
  simp only [and_self, if_true]
  rw [pref_back x.addr hp (by omega) h2.2, mode_back' x.rpf h4.1 h4.2]
  simp only [Option.bind_some]
  rw [e1, e2, e3]
  rw [show ({ name := x.name, addr := x.addr, mtu := x.mtu, rpf := x.rpf } : IfaceM) = x from rfl, h]
  rfl
theorem prefOK_back (p : Pfx) (h : p.ok) (hf : isF p = true) : prefOK (printP p) = some p := by
  have hl := isF_len p hf
  unfold prefOK
  rw [pref_back p h hl.1 hl.2]
  simp [hf]
theorem prefs_back : ∀ (l : List Pfx), (∀ p ∈ l, p.ok) → l.all isF = true → prefsOf (l.map printP) = some l
  | [], _, _ => rfl
  | p :: t, ho, hf => by
    simp only [List.all_cons, Bool.and_eq_true] at hf
    show (prefOK (printP p)).bind _ = _
    rw [prefOK_back p (ho p (by simp)) hf.1]
    simp [prefs_back t (fun q hq => ho q (List.mem_cons_of_mem _ hq)) hf.2]
theorem isW_pfx (p : Pfx) (hf : isF p = true) : isW (printP p) := isW_printP p (isF_len p hf).1 (isF_len p hf).2
theorem isW_mode : ∀ k : Fin 5, modeW (k.val : Nat) ≠ [] ∧ (32 : UInt8) ∉ modeW (k.val : Nat) := by decide +kernel
theorem all_iface (x : IfaceM) (h : isI x = true) : All (ifaceW x) := by
  obtain ⟨h1, h2, h3, h4⟩ := isI_facts x h
  have hm := isW_mode ⟨x.rpf.toNat, by omega⟩
  have e3 : ((x.rpf.toNat : Nat) : Int) = x.rpf := by omega
  simp only [e3] at hm
  exact all_cons ⟨by decide, by decide⟩ (all_cons (isW_name _ h1) (all_cons (isW_printP _ (by omega) h2.2) (all_cons ⟨by decide, by decide⟩ (all_cons (isW_itoa _ (by omega)) (all_cons ⟨by decide, by decide⟩ (all_cons hm all_nil))))))
theorem all_pfxs : ∀ (l : List Pfx), l.all isF = true → All (l.map printP)
  | [], _ => all_nil
  | p :: t, hf => by
    simp only [List.all_cons, Bool.and_eq_true] at hf
    exact all_cons (isW_pfx p hf.1) (all_pfxs t hf.2)
/-- A line of words that is no remark. -/
theorem step_words (c : ConfM) (ws : List Wd) (h : All ws) (hne : ws ≠ []) (hs : skipW ws = false) : stepL c (spaced ws) = lineL c (spaced ws) ws := by
  unfold stepL
  rw [words_spaced ws hne h, hs]
  rfl
theorem run_ifaces : ∀ (l : List IfaceM) (c : ConfM), l.all isI = true → (∀ x ∈ l, x.addr.ok) → runL c (l.map fun x => spaced (ifaceW x)) = some { c with ifaces := c.ifaces ++ l }
  | [], c, _, _ => by simp [runL]
  | x :: t, c, hi, ho => by
    simp only [List.all_cons, Bool.and_eq_true] at hi
    show (stepL c (spaced (ifaceW x))).bind _ = _
    rw [step_words c _ (all_iface x hi.1) (by simp [ifaceW]) rfl]
    have e : lineL c (spaced (ifaceW x)) (ifaceW x) = some { c with ifaces := c.ifaces ++ [x] } := by
      show (ifaceOf (ifaceW x)).map _ = _
      rw [iface_back x hi.1 (ho x (by simp))]
      rfl
    rw [e]
    show runL { c with ifaces := c.ifaces ++ [x] } (t.map _) = _
    rw [run_ifaces t _ hi.2 (fun y hy => ho y (List.mem_cons_of_mem _ hy))]
    simp
theorem run_bogons : ∀ (l : List Pfx) (c : ConfM), l.all isF = true → (∀ x ∈ l, x.ok) → runL c (l.map fun p => spaced [wBogon, printP p]) = some { c with bogons := c.bogons ++ l }
  | [], c, _, _ => by simp [runL]
  | x :: t, c, hi, ho => by
    simp only [List.all_cons, Bool.and_eq_true] at hi
    show (stepL c (spaced [wBogon, printP x])).bind _ = _
    rw [step_words c _ (all_cons ⟨by decide, by decide⟩ (all_cons (isW_pfx x hi.1) all_nil)) (by simp) rfl]
    have e : lineL c (spaced [wBogon, printP x]) [wBogon, printP x] = some { c with bogons := c.bogons ++ [x] } := by
      show (prefOK (printP x)).map _ = _
      rw [prefOK_back x (ho x (by simp)) hi.1]
      rfl
    rw [e]
    show runL { c with bogons := c.bogons ++ [x] } (t.map _) = _
    rw [run_bogons t _ hi.2 (fun y hy => ho y (List.mem_cons_of_mem _ hy))]
    simp
theorem run_tables : ∀ (l : List NamedM) (c : ConfM), l.all (fun t => nameL t.name && prefsOK t.l) = true → (∀ t ∈ l, ∀ p ∈ t.l, p.ok) → runL c (l.map fun t => spaced (tableW t)) = some { c with tables := c.tables ++ l }
  | [], c, _, _ => by simp [runL]
  | x :: t, c, hi, ho => by
    simp only [List.all_cons, Bool.and_eq_true] at hi
    obtain ⟨⟨hn, hp⟩, ht⟩ := hi
    unfold prefsOK at hp
    simp only [Bool.and_eq_true] at hp
    show (stepL c (spaced (tableW x))).bind _ = _
    have ha : All (tableW x) := all_cons ⟨by decide, by decide⟩ (all_cons (isW_name _ hn) (all_pfxs x.l hp.2))
    rw [step_words c (tableW x) ha (by simp [tableW]) rfl]
    have e : lineL c (spaced (tableW x)) (tableW x) = some { c with tables := c.tables ++ [x] } := by
      show (tableOf (tableW x)).map _ = _
      show (if nameL x.name then (prefsOf (x.l.map printP)).map _ else none).map _ = _
      rw [if_pos hn, prefs_back x.l (ho x (by simp)) hp.2]
      rfl
    rw [e]
    show runL { c with tables := c.tables ++ [x] } (t.map _) = _
    rw [run_tables t _ (by rw [ht]) (fun y hy => ho y (List.mem_cons_of_mem _ hy))]
    simp
theorem rule_line (c : ConfM) (r : RuleM) (h : ruleR r = true) (hf : Fits r) : stepL c (printed r) = some { c with rules := c.rules ++ [r] } := by
  unfold printed
  rw [if_pos h]
  have hw : (tokens r) = (if r.pass then wPass else wBlock) :: tk1 r := rfl
  rw [step_words c _ (isW_tokens r h hf.set.2) (tokens_ne r) (by rw [hw]; cases r.pass <;> rfl)]
  have e : lineL c (spaced (tokens r)) (tokens r) = (ruleOf (wordsL (spaced (tokens r)))).map fun r => { c with rules := c.rules ++ [r] } := by
    rw [hw]
    cases r.pass <;> rfl
  rw [e, parse_back r h hf]
  rfl
theorem run_rules : ∀ (l : List RuleM) (c : ConfM), l.all ruleR = true → (∀ r ∈ l, Fits r) → runL c (l.map printed) = some { c with rules := c.rules ++ l }
  | [], c, _, _ => by simp [runL]
  | x :: t, c, hi, ho => by
    simp only [List.all_cons, Bool.and_eq_true] at hi
    show (stepL c (printed x)).bind _ = _
    rw [rule_line c x hi.1 (ho x (by simp))]
    show runL { c with rules := c.rules ++ [x] } (t.map _) = _
    rw [run_rules t _ hi.2 (fun y hy => ho y (List.mem_cons_of_mem _ hy))]
    simp
structure IsC (c : ConfM) : Prop where
  flows : 1 ≤ c.flows ∧ c.flows ≤ 64
  errors : 0 ≤ c.errors ∧ c.errors ≤ 100
  nif : 1 ≤ c.ifaces.length ∧ c.ifaces.length ≤ 8
  nr : c.rules.length ≤ 64
  bogons : c.bogons.length ≤ 256 ∧ c.bogons.all isF = true
  ifaces : c.ifaces.all isI = true
  tables : c.tables.all (fun t => nameL t.name && prefsOK t.l) = true
  rules : c.rules.all ruleR = true
  text : (textC c).length ≤ 8192
theorem isC_facts (c : ConfM) (h : isC c = true) : IsC c := by
  unfold isC at h
  simp only [Bool.and_eq_true, decide_eq_true_eq, prefsOK] at h
  obtain ⟨a1, a2, a3, a4, a5, a6, a7, ⟨a8, a9⟩, a10, a11, a12, a13⟩ := h
  exact ⟨⟨a1, a2⟩, ⟨a3, a4⟩, ⟨a5, a6⟩, a7, ⟨a8, a9⟩, a10, by simpa [prefsOK] using a11, a12, a13⟩
theorem run_text (c : ConfM) (h : IsC c) (ho : OkC c) : runL startC (linesT c) = some c := by
  unfold linesT
  have e1 : stepL startC (spaced [wFlows, Lib.itoa c.flows]) = some { startC with flows := c.flows } := by
    rw [step_words startC _ (all_cons ⟨by decide, by decide⟩ (all_cons (isW_itoa _ (by have := h.flows; omega)) all_nil)) (by simp) rfl]
    show (numIn (Lib.itoa c.flows) 1 64).map _ = _
    rw [num_in c.flows 1 64 (by have := h.flows; omega) (by have := h.flows; omega) (by decide)]
    have : ((c.flows.toNat : Nat) : Int) = c.flows := by have := h.flows; omega
    simp [this]
  have e2 : stepL { startC with flows := c.flows } (spaced [wErrors, Lib.itoa c.errors]) = some { startC with flows := c.flows, errors := c.errors } := by
    rw [step_words _ _ (all_cons ⟨by decide, by decide⟩ (all_cons (isW_itoa _ h.errors.1) all_nil)) (by simp) rfl]
    show (numIn (Lib.itoa c.errors) 0 100).map _ = _
    rw [num_in c.errors 0 100 (by have := h.errors; omega) (by have := h.errors; omega) (by decide)]
    have : ((c.errors.toNat : Nat) : Int) = c.errors := by have := h.errors; omega
    simp [this]
  show (stepL startC _).bind _ = _
  rw [e1]
  show (stepL { startC with flows := c.flows } _).bind _ = _
  rw [e2]
  show runL { startC with flows := c.flows, errors := c.errors } _ = _
  rw [runL_append, run_ifaces _ _ h.ifaces ho.ifaces]
  show runL _ _ = _
  rw [runL_append, run_bogons _ _ h.bogons.2 ho.bogons]
  show runL _ _ = _
  rw [runL_append, run_tables _ _ h.tables ho.tables]
  show runL _ _ = _
  rw [run_rules _ _ h.rules ho.rules]
  simp [startC]
end Go.Proofs.YtnmbbnhgoedjgaaGreatDoor.Cf0

namespace Go.Proofs.YtnmbbnhgoedjgaaGreatDoor.Cg0
open Go Go.RowKit Go.Proofs.YtnmbbnhgoedjgaaGreatDoor.Ad0 Go.Proofs.YtnmbbnhgoedjgaaGreatDoor.St2 Go.Proofs.YtnmbbnhgoedjgaaGreatDoor.Ru0 Go.Proofs.YtnmbbnhgoedjgaaGreatDoor.Ru6 Go.Proofs.YtnmbbnhgoedjgaaGreatDoor.RuB Go.Proofs.YtnmbbnhgoedjgaaGreatDoor.RuC Go.Proofs.YtnmbbnhgoedjgaaGreatDoor.Rw0 Go.Proofs.YtnmbbnhgoedjgaaGreatDoor.RuY Go.Proofs.YtnmbbnhgoedjgaaGreatDoor.Cf0 Go.Proofs.YtnmbbnhgoedjgaaGreatDoor.Cf4 Go.Proofs.YtnmbbnhgoedjgaaGreatDoor.Cf6
set_option linter.unusedVariables false
set_option linter.unusedSimpArgs false
def ifL (x : IfaceM) : List Value := [.string ⟨x.name.toArray⟩, .int .u32 (x.addr.addr : Nat), .int .i64 x.addr.len, .int .i64 x.mtu, .int .i64 x.rpf]
theorem ifL_len (x : IfaceM) : (ifL x).length = 5 := rfl
/-- A table and the slice of its prefixes. -/
def nmL (t : NamedM × Value) : List Value := [.string ⟨t.1.name.toArray⟩, t.2]
theorem nmL_len (t : NamedM × Value) : (nmL t).length = 2 := rfl
def rlL (r : RuleM) : List Value := (ruleC r).toList
theorem rlL_len (r : RuleM) : (rlL r).length = 28 := rfl
structure ConfIn (W : World) (v0 v1 v2 v3 : Value) (ts : List (NamedM × Value)) (c : ConfM) : Prop where
  ifaces : Sl W v0 c.ifaces.length (c.ifaces.flatMap ifL)
  bogons : Sl W v1 c.bogons.length (c.bogons.flatMap pfxL)
  tables : Sl W v2 ts.length (ts.flatMap nmL)
  rules : Sl W v3 c.rules.length (c.rules.flatMap rlL)
  tab : ts.map (·.1) = c.tables
  tin : ∀ t ∈ ts, Sl W t.2 t.1.l.length (t.1.l.flatMap pfxL)
theorem ConfIn.below {W W' : World} {v0 v1 v2 v3 : Value} {ts : List (NamedM × Value)} {c : ConfM} (h : ConfIn W v0 v1 v2 v3 ts c) (hb : Below W.heap.size W W') : ConfIn W' v0 v1 v2 v3 ts c :=
  ⟨h.ifaces.below hb, h.bogons.below hb, h.tables.below hb, h.rules.below hb, h.tab, fun t ht => (h.tin t ht).below hb⟩
theorem ConfIn.tlen {W : World} {v0 v1 v2 v3 : Value} {ts : List (NamedM × Value)} {c : ConfM} (h : ConfIn W v0 v1 v2 v3 ts c) : ts.length = c.tables.length := by rw [← h.tab, List.length_map]
/-- A configuration as a value. -/
def confC (v0 v1 v2 v3 : Value) (c : ConfM) : Array Value := #[v0, v1, v2, v3, .int .i64 c.flows, .int .i64 c.errors]
/-- All but the text's length. -/
def isC0 (c : ConfM) : Bool := decide (1 ≤ c.flows) && (decide (c.flows ≤ 64) && (decide (0 ≤ c.errors) && (decide (c.errors ≤ 100) && (decide (1 ≤ c.ifaces.length) && (decide (c.ifaces.length ≤ 8) && (decide (c.rules.length ≤ 64) && (prefsOK c.bogons && (c.ifaces.all isI && (c.tables.all (fun t => nameL t.name && prefsOK t.l) && c.rules.all ruleR)))))))))
/-- What is handed about is no more than that. -/
structure FitC (c : ConfM) : Prop where
  ok : OkC c
  ni : c.ifaces.length ≤ 140737488355328
  nb : c.bogons.length ≤ 140737488355328
  nt : c.tables.length ≤ 140737488355328
  nr : c.rules.length ≤ 140737488355328
  il : ∀ x ∈ c.ifaces, x.name.length ≤ 9223372036854775807
  tl : ∀ t ∈ c.tables, t.name.length ≤ 9223372036854775807 ∧ t.l.length ≤ 140737488355328
  sm : isC0 c = true → c.tables.length ≤ 1048576
theorem isC_split (c : ConfM) : isC c = (isC0 c && decide ((textC c).length ≤ 8192)) := by
  unfold isC isC0
  simp only [Bool.and_assoc]
/-- conf.isIface's contract. -/
def IsIfaceSaid : Prop := ∀ (x : IfaceM), x.name.length ≤ 9223372036854775807 → x.addr.ok → ∀ (W : World), Calls Tryz.prog 41 #[.agg (ifL x).toArray] W fun e w' => e = .returned (.bool (isI x)) ∧ Below W.heap.size W w'
/-- conf.printed's contract. -/
def PrintedSaid : Prop := ∀ (c : ConfM) (v0 v1 v2 v3 : Value) (ts : List (NamedM × Value)) (W : World), ConfIn W v0 v1 v2 v3 ts c → FitC c → isC0 c = true → LibOK W →
  Calls Tryz.prog 34 #[.agg (confC v0 v1 v2 v3 c)] W fun e w' => e = .returned (.string ⟨(textC c).toArray⟩) ∧ Below W.heap.size W w'
theorem prefsB_ok : prefsB = prefsOK := rfl
structure IsC0 (c : ConfM) : Prop where
  f0 : 1 ≤ c.flows
  f1 : c.flows ≤ 64
  e0 : 0 ≤ c.errors
  e1 : c.errors ≤ 100
  i0 : 1 ≤ c.ifaces.length
  i1 : c.ifaces.length ≤ 8
  nr : c.rules.length ≤ 64
  bogons : prefsOK c.bogons = true
  ifaces : c.ifaces.all isI = true
  tables : c.tables.all (fun t => nameL t.name && prefsOK t.l) = true
  rules : c.rules.all ruleR = true
theorem isC0_facts (c : ConfM) (h : isC0 c = true) : IsC0 c := by
  unfold isC0 at h
  simp only [Bool.and_eq_true, decide_eq_true_eq] at h
  obtain ⟨a1, a2, a3, a4, a5, a6, a7, a8, a10, a11, a12⟩ := h
  exact ⟨a1, a2, a3, a4, a5, a6, a7, a8, a10, by simpa using a11, a12⟩
theorem isC0_of (c : ConfM) (h : IsC0 c) : isC0 c = true := by
  unfold isC0
  rw [h.bogons, h.ifaces, h.tables, h.rules]
  simp [h.f0, h.f1, h.e0, h.e1, h.i0, h.i1, h.nr]
theorem isC0_not {c : ConfM} (h : IsC0 c → False) : isC0 c = false := by
  cases hq : isC0 c with
  | false => rfl
  | true => exact (h (isC0_facts c hq)).elim
theorem fit_small {c : ConfM} (hf : FitC c) (h : isC c = true) : c.ifaces.length ≤ 1048576 ∧ c.tables.length ≤ 1048576 ∧ c.rules.length ≤ 1048576 := by
  rw [isC_split, Bool.and_eq_true] at h
  have I := isC0_facts c h.1
  exact ⟨by have := I.i1; omega, hf.sm h.1, by have := I.nr; omega⟩
end Go.Proofs.YtnmbbnhgoedjgaaGreatDoor.Cg0

