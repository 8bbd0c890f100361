/- A rule's text is parsed back: plain Lean. -/
import Derived.Test.YtefhoecdoemgbaaGreatDoorRuI
import Derived.Test.YtefhoecdoemgbaaGreatDoorRuH
import Derived.Test.YtefhoecdoemgbaaGreatDoorRu5
import Derived.Test.YtefhoecdoemgbaaGreatDoorRuS
import Derived.Test.YtefhoecdoemgbaaGreatDoorRu9
namespace Go.Proofs.YtefhoecdoemgbaaGreatDoor.Rw0
open Go Go.RowKit Go.Proofs.YtefhoecdoemgbaaGreatDoor.Ad0 Go.Proofs.YtefhoecdoemgbaaGreatDoor.Ru0 Go.Proofs.YtefhoecdoemgbaaGreatDoor.Ad1 Go.Proofs.YtefhoecdoemgbaaGreatDoor.St0 Go.Proofs.YtefhoecdoemgbaaGreatDoor.St1 Go.Proofs.YtefhoecdoemgbaaGreatDoor.St2 Go.Proofs.YtefhoecdoemgbaaGreatDoor.St3 Go.Proofs.YtefhoecdoemgbaaGreatDoor.Ru1 Go.Proofs.YtefhoecdoemgbaaGreatDoor.Ru2 Go.Proofs.YtefhoecdoemgbaaGreatDoor.B1 Go.Proofs.YtefhoecdoemgbaaGreatDoor.Ad3 Go.Proofs.YtefhoecdoemgbaaGreatDoor.St4 Go.Proofs.YtefhoecdoemgbaaGreatDoor.St5 Go.Proofs.YtefhoecdoemgbaaGreatDoor.St7 Go.Proofs.YtefhoecdoemgbaaGreatDoor.St8 Go.Proofs.YtefhoecdoemgbaaGreatDoor.St9 Go.Proofs.YtefhoecdoemgbaaGreatDoor.StC Go.Proofs.YtefhoecdoemgbaaGreatDoor.Ru3 Go.Proofs.YtefhoecdoemgbaaGreatDoor.Ru6 Go.Proofs.YtefhoecdoemgbaaGreatDoor.Ru7 Go.Proofs.YtefhoecdoemgbaaGreatDoor.Ru4 Go.Proofs.YtefhoecdoemgbaaGreatDoor.Ru5 Go.Proofs.YtefhoecdoemgbaaGreatDoor.St6 Go.Proofs.YtefhoecdoemgbaaGreatDoor.StA Go.Proofs.YtefhoecdoemgbaaGreatDoor.Ru8 Go.Proofs.YtefhoecdoemgbaaGreatDoor.Ru9 Go.Proofs.YtefhoecdoemgbaaGreatDoor.RuB Go.Proofs.YtefhoecdoemgbaaGreatDoor.RuC Go.Proofs.YtefhoecdoemgbaaGreatDoor.RuD Go.Proofs.YtefhoecdoemgbaaGreatDoor.RuE Go.Proofs.YtefhoecdoemgbaaGreatDoor.RuI Go.Proofs.YtefhoecdoemgbaaGreatDoor.RuF Go.Proofs.YtefhoecdoemgbaaGreatDoor.RuG Go.Proofs.YtefhoecdoemgbaaGreatDoor.RuH
set_option linter.unusedVariables false
set_option linter.unusedSimpArgs false

def All (l : List Wd) : Prop := ∀ w ∈ l, isW w
theorem all_nil : All [] := fun _ h => by cases h
theorem all_cons {a : Wd} {l : List Wd} (h : isW a) (t : All l) : All (a :: l) := fun w hw => by
  rcases List.mem_cons.1 hw with rfl | h'
  · exact h
  · exact t w h'
theorem all_app {a b : List Wd} (h : All a) (t : All b) : All (a ++ b) := fun w hw => by
  rcases List.mem_append.1 hw with h' | h'
  · exact h w h'
  · exact t w h'
theorem all_if {c : Prop} [Decidable c] {a b : List Wd} (h : c → All a) (t : ¬c → All b) : All (if c then a else b) := by
  split
  · exact h ‹_›
  · exact t ‹_›
theorem flags_word : ∀ n : Fin 64, flagsW n.val ≠ [] ∧ 32 ∉ flagsW n.val := by decide +kernel
theorem isW_flags (a b : Nat) (ha : a < 64) (hb : b < 64) : isW (flagsW a ++ 47 :: flagsW b) := by
  have h1 := flags_word ⟨a, ha⟩
  have h2 := flags_word ⟨b, hb⟩
  refine ⟨by simp, fun hm => ?_⟩
  rcases List.mem_append.1 hm with h | h
  · exact h1.2 h
  · rcases List.mem_cons.1 h with h | h
    · cases h
    · exact h2.2 h
theorem isW_proto (n : Int) (h : 0 ≤ n) : isW (protoW n) := by
  unfold protoW
  split
  · exact ⟨by decide, by decide⟩
  · split
    · exact ⟨by decide, by decide⟩
    · split
      · exact ⟨by decide, by decide⟩
      · exact isW_itoa n h
theorem pin_name (p : PinM) (h : pinR p = true) (ho : p.on = true) : nameL p.iface = true := by
  unfold pinR at h
  rw [if_pos ho] at h
  exact h
theorem on_name (r : RuleM) (h : ruleR r = true) (ho : r.on ≠ []) : nameL r.on = true := by
  cases hn : nameL r.on with
  | true => rfl
  | false =>
    have : ruleR r = false := by
      unfold ruleR
      have e : (decide (r.on ≠ []) && !nameL r.on) = true := by rw [hn]; simpa using ho
      simp_all
    rw [this] at h
    cases h
theorem isW_tokens (r : RuleM) (h : ruleR r = true) (hs : r.set ≤ 9223372036854775807) : All (tokens r) := by
  have hf := facts r h hs
  have c (w : Wd) (h1 : w ≠ []) (h2 : 32 ∉ w) : isW w := ⟨h1, h2⟩
  refine all_cons (by split <;> exact ⟨by decide, by decide⟩) ?_
  refine all_app (all_if (fun _ => all_cons ⟨by decide, by decide⟩ all_nil) (fun _ => all_nil)) ?_
  refine all_app (all_if (fun _ => all_cons ⟨by decide, by decide⟩ all_nil) (fun _ => all_nil)) ?_
  refine all_app (all_if (fun _ => all_nil) (fun ho => all_cons ⟨by decide, by decide⟩ (all_cons (isW_name _ (on_name r h ho)) all_nil))) ?_
  refine all_app (all_if (fun _ => all_nil) (fun ho => all_cons ⟨by decide, by decide⟩ (all_cons (isW_proto _ hf.proto.1) all_nil))) ?_
  refine all_cons ⟨by decide, by decide⟩ ?_
  refine all_app (isW_side r.frm _ hf.sides.1) ?_
  refine all_cons ⟨by decide, by decide⟩ ?_
  refine all_app (isW_side r.dst _ hf.sides.2) ?_
  refine all_app (all_if (fun _ => all_nil) (fun ho => all_cons ⟨by decide, by decide⟩ (all_cons (isW_flags _ _ (by have := hf.set; have := hf.mask; omega) (by have := hf.mask; omega)) all_nil))) ?_
  refine all_app (all_if (fun _ => all_nil) (fun ho => all_cons ⟨by decide, by decide⟩ (all_cons (isW_itoa _ (by have := hf.typ; omega)) all_nil))) ?_
  refine all_app (all_if (fun _ => all_cons ⟨by decide, by decide⟩ all_nil) (fun _ => all_nil)) ?_
  refine all_app (all_if (fun ho => all_cons ⟨by decide, by decide⟩ (all_cons (isW_name _ (pin_name _ hf.pins.1 ho)) (all_cons (isW_printL _) all_nil))) (fun _ => all_nil)) ?_
  refine all_app (all_if (fun ho => all_cons ⟨by decide, by decide⟩ (all_cons (isW_name _ (pin_name _ hf.pins.2 ho)) (all_cons (isW_printL _) all_nil))) (fun _ => all_nil)) ?_
  exact all_if (fun _ => all_nil) (fun ho => all_cons ⟨by decide, by decide⟩ (all_cons (isW_itoa _ hf.tab.1) all_nil))
theorem tokens_ne (r : RuleM) : tokens r ≠ [] := by simp [tokens]
theorem words_back (r : RuleM) (h : ruleR r = true) (hs : r.set ≤ 9223372036854775807) : wordsL (spaced (tokens r)) = tokens r := words_spaced _ (tokens_ne r) (isW_tokens r h hs)
/-- The same words, with more blanks. -/
def wide (l : List Wd) : Wd := (l.flatMap fun w => 32 :: 32 :: w) ++ [32]
theorem wide_cons (w : Wd) (t : List Wd) : wide (w :: t) = 32 :: 32 :: (w ++ wide t) := by simp [wide]
theorem wide_head (l : List Wd) : ∃ T, wide l = 32 :: T := by
  cases l with
  | nil => exact ⟨[], rfl⟩
  | cons w t => exact ⟨_, wide_cons w t⟩
theorem parts_blank (l : Wd) : parts 32 (32 :: l) = [] :: parts 32 l := parts_append 32 [] l (by simp)
theorem wide_parts : ∀ (l : List Wd), (∀ w ∈ l, isW w) → ∃ q, parts 32 (wide l) = [] :: q ∧ (q.filter fun w => !w.isEmpty) = l
  | [], _ => ⟨[[]], by simp [wide, parts], rfl⟩
  | w :: t, h => by
    obtain ⟨q, hq, hf⟩ := wide_parts t (fun x hx => h x (List.mem_cons_of_mem _ hx))
    obtain ⟨T, hT⟩ := wide_head t
    rw [hT, parts_blank] at hq
    have hq' : parts 32 T = q := by injection hq
    have hw := h w (by simp)
    refine ⟨[] :: w :: q, ?_, ?_⟩
    · rw [wide_cons, parts_blank, parts_blank, hT, parts_append 32 w T hw.2, hq']
    · have : w.isEmpty = false := by simpa using hw.1
      simp [this, hf]
theorem words_wide (l : List Wd) (h : All l) : wordsL (wide l) = l := by
  obtain ⟨q, hq, hf⟩ := wide_parts l h
  unfold wordsL
  rw [hq]
  simpa using hf
theorem portsP_pfx (s : SideM) (w : Ws) : (portsP s w).1.pfx = s.pfx := (portsP_who s w).2
theorem sideF_pfx (ws : Ws) : (sideF ws).1.pfx.ok := by
  unfold sideF
  dsimp only
  rw [portsP_pfx, whoP_eq]
  generalize (nextF ws).1 = x
  unfold whoF
  split
  · show (0 : Nat) < 4294967296; decide
  · split
    · show (0 : Nat) < 4294967296; decide
    · exact prefL_ok x
theorem pinF_gate (ws : Ws) (x : Wd) : (pinF ws x).1.gate < 4294967296 := by
  unfold pinF
  dsimp only
  split
  · exact parseL_lt _
  · show (0 : Nat) < 4294967296; decide
theorem side_tab (s : SideM) (b : Bool) (h : sideR s b = true) : s.table.length ≤ 8 := by
  unfold sideR at h
  split at h
  · exact absurd h (by simp)
  · split at h
    · simp only [Bool.and_eq_true, decide_eq_true_eq] at h
      simp [h.1]
    · split at h
      · simp only [Bool.and_eq_true, nameL, decide_eq_true_eq] at h
        exact h.1.1.2
      · rename_i h2
        simp only [ne_eq, Classical.not_not] at h2
        simp [h2]
theorem name_le {l : Wd} (h : nameL l = true) : l.length ≤ 8 := by
  simp only [nameL, Bool.and_eq_true, decide_eq_true_eq] at h
  exact h.1.2
theorem pin_le (p : PinM) (h : pinR p = true) : p.iface.length ≤ 8 := by
  unfold pinR at h
  split at h
  · exact name_le h
  · have : p = {} := by simpa using h
    simp [this]
theorem on_le (r : RuleM) (h : ruleR r = true) : r.on.length ≤ 8 := by
  by_cases ho : r.on = []
  · simp [ho]
  · exact name_le (on_name r h ho)
/-- What holds of a rule that is parsed. -/
theorem parsed_fits (l : List Wd) (r : RuleM) (h : ruleOf l = some r) : ruleR r = true ∧ Fits r := by
  rw [ruleOf_chain l _ _ _ _ _ _ _ _ _ _ _ _ _ rfl rfl rfl rfl rfl rfl rfl rfl rfl rfl rfl rfl rfl] at h
  unfold endP at h
  split at h
  · cases h
  · rename_i hc
    have hr := Option.some.inj h
    rw [hr] at hc
    have hrr : ruleR r = true := by
      cases hq : ruleR r with
      | true => rfl
      | false => rw [hq] at hc; simp at hc
    refine ⟨hrr, ?_⟩
    have hset : 0 ≤ r.set ∧ r.set ≤ 63 := by rw [← hr]; exact flagsP_range _
    have hf := facts r hrr (by omega)
    have := on_le r hrr
    have := side_tab r.frm _ hf.sides.1
    have := side_tab r.dst _ hf.sides.2
    have := pin_le r.routeTo hf.pins.1
    have := pin_le r.replyTo hf.pins.2
    exact ⟨by omega, by omega, by rw [← hr]; exact sideF_pfx _, by omega, by rw [← hr]; exact sideF_pfx _, by omega, by omega, by rw [← hr]; exact pinF_gate _ _, by rw [← hr]; exact pinF_gate _ _, by omega, by omega⟩
theorem parse_back (r : RuleM) (h : ruleR r = true) (hf : Fits r) : ruleOf (wordsL (spaced (tokens r))) = some r := by
  rw [words_back r h hf.set.2]
  exact rule_back r h hf.set.2 hf.fp hf.dp hf.rg hf.pg
theorem parse_wide (r : RuleM) (h : ruleR r = true) (hf : Fits r) : ruleOf (wordsL (wide (tokens r))) = some r := by
  rw [words_wide _ (isW_tokens r h hf.set.2)]
  exact rule_back r h hf.set.2 hf.fp hf.dp hf.rg hf.pg
end Go.Proofs.YtefhoecdoemgbaaGreatDoor.Rw0
/- What the laws RulePorts and RuleFlags read: plain Lean. -/
namespace Go.Proofs.YtefhoecdoemgbaaGreatDoor.Rw1
open Go Go.RowKit Go.Proofs.YtefhoecdoemgbaaGreatDoor.Ad0 Go.Proofs.YtefhoecdoemgbaaGreatDoor.Ru0 Go.Proofs.YtefhoecdoemgbaaGreatDoor.Ad1 Go.Proofs.YtefhoecdoemgbaaGreatDoor.St0 Go.Proofs.YtefhoecdoemgbaaGreatDoor.St1 Go.Proofs.YtefhoecdoemgbaaGreatDoor.St2 Go.Proofs.YtefhoecdoemgbaaGreatDoor.St3 Go.Proofs.YtefhoecdoemgbaaGreatDoor.Ru1 Go.Proofs.YtefhoecdoemgbaaGreatDoor.Ru2 Go.Proofs.YtefhoecdoemgbaaGreatDoor.B1 Go.Proofs.YtefhoecdoemgbaaGreatDoor.Ad3 Go.Proofs.YtefhoecdoemgbaaGreatDoor.St4 Go.Proofs.YtefhoecdoemgbaaGreatDoor.St5 Go.Proofs.YtefhoecdoemgbaaGreatDoor.St7 Go.Proofs.YtefhoecdoemgbaaGreatDoor.St8 Go.Proofs.YtefhoecdoemgbaaGreatDoor.St9 Go.Proofs.YtefhoecdoemgbaaGreatDoor.StC Go.Proofs.YtefhoecdoemgbaaGreatDoor.Ru3 Go.Proofs.YtefhoecdoemgbaaGreatDoor.Ru6 Go.Proofs.YtefhoecdoemgbaaGreatDoor.Ru7 Go.Proofs.YtefhoecdoemgbaaGreatDoor.Ru4 Go.Proofs.YtefhoecdoemgbaaGreatDoor.Ru5 Go.Proofs.YtefhoecdoemgbaaGreatDoor.St6 Go.Proofs.YtefhoecdoemgbaaGreatDoor.StA Go.Proofs.YtefhoecdoemgbaaGreatDoor.Ru8 Go.Proofs.YtefhoecdoemgbaaGreatDoor.Ru9 Go.Proofs.YtefhoecdoemgbaaGreatDoor.RuB Go.Proofs.YtefhoecdoemgbaaGreatDoor.RuC Go.Proofs.YtefhoecdoemgbaaGreatDoor.RuD Go.Proofs.YtefhoecdoemgbaaGreatDoor.RuE Go.Proofs.YtefhoecdoemgbaaGreatDoor.RuI Go.Proofs.YtefhoecdoemgbaaGreatDoor.RuF Go.Proofs.YtefhoecdoemgbaaGreatDoor.RuG Go.Proofs.YtefhoecdoemgbaaGreatDoor.RuH Go.Proofs.YtefhoecdoemgbaaGreatDoor.Rw0 Go.Proofs.YtefhoecdoemgbaaGreatDoor.Ad2 Go.Proofs.YtefhoecdoemgbaaGreatDoor.RuQ Go.Proofs.YtefhoecdoemgbaaGreatDoor.RuR Go.Proofs.YtefhoecdoemgbaaGreatDoor.RuS
set_option linter.unusedVariables false
set_option linter.unusedSimpArgs false

/-- Behind the ends nothing stands. -/
theorem p5_nil (r : RuleM) : p5 r ⟨[], false⟩ = (if ruleR { r with set := 0, mask := 0, typ := -1, keep := false, routeTo := {}, replyTo := {}, table := 0 } then some { r with set := 0, mask := 0, typ := -1, keep := false, routeTo := {}, replyTo := {}, table := 0 } else none) := by
  have e : p5 r ⟨[], false⟩ = endP { r with set := 0, mask := 0, typ := -1, keep := false, routeTo := {}, replyTo := {}, table := 0 } ⟨[], false⟩ := rfl
  rw [e]
  unfold endP
  cases ruleR { r with set := 0, mask := 0, typ := -1, keep := false, routeTo := {}, replyTo := {}, table := 0 } <;> rfl
theorem any_back (l : List Wd) : whoP ⟨wAny :: l, false⟩ = ({ any := true, high := 65535 }, ⟨l, false⟩) := rfl
theorem side_any' : sideF ⟨[wAny], false⟩ = ({ any := true, high := 65535 }, ⟨[], false⟩) := rfl
/-- Ports as a word. -/
def portT (low high : Int) : Wd := if high = low then Lib.itoa low else (Lib.itoa low ++ [58]) ++ Lib.itoa high
theorem portT_eq (s : SideM) : portT s.low s.high = portsW s := by
  unfold portT portsW
  split
  · rfl
  · simp
theorem side_ports (low high : Int) (l0 : 0 ≤ low) (l1 : low ≤ 99999) (h0 : 0 ≤ high) (h1 : high ≤ 99999) (t : List Wd) :
    sideF ⟨wAny :: wPort :: portT low high :: t, false⟩ = ({ any := true, low := low, high := high }, ⟨t, false⟩) := by
  unfold sideF
  rw [any_back]
  dsimp only
  unfold portsP
  rw [takes_hit]
  simp only [if_true]
  rw [next_hit]
  dsimp only
  unfold portT
  by_cases he : high = low
  · rw [if_pos he, cut_none 58 _ (no_colon _ (by omega))]
    dsimp only
    rw [num_back _ (by omega) (by omega)]
    simp [he]
  · rw [if_neg he, List.append_assoc, List.cons_append, List.nil_append, cut_hit 58 _ _ (no_colon _ (by omega))]
    simp only [if_true]
    rw [num_back _ (by omega) (by omega)]
    dsimp only
    rw [num_back _ (by omega) (by omega)]
    have hb : (high == low) = false := by rw [beq_eq_false_iff_ne]; exact he
    rw [hb, orBad_false]
def portR (low high p : Int) : RuleM := { proto := p, frm := { any := true, low := low, high := high }, dst := { any := true, high := 65535 }, typ := -1 }
def portL (low high p : Int) : List Wd := [wBlock, wProto, protoW p, wFrom, wAny, wPort, portT low high, wTo, wAny]
theorem ports_parse (low high p : Int) (l0 : 0 ≤ low) (l1 : low ≤ 99999) (h0 : 0 ≤ high) (h1 : high ≤ 99999) (p0 : 1 ≤ p) (p1' : p ≤ 255) :
    ruleOf (portL low high p) = if ruleR (portR low high p) then some (portR low high p) else none := by
  unfold ruleOf portL
  have e0 : headP ⟨[wBlock, wProto, protoW p, wFrom, wAny, wPort, portT low high, wTo, wAny], false⟩ = (false, ⟨[wProto, protoW p, wFrom, wAny, wPort, portT low high, wTo, wAny], false⟩) := rfl
  rw [e0]
  dsimp only
  unfold p1
  have a1 : takesP ⟨[wProto, protoW p, wFrom, wAny, wPort, portT low high, wTo, wAny], false⟩ wReturn = (false, ⟨[wProto, protoW p, wFrom, wAny, wPort, portT low high, wTo, wAny], false⟩) := rfl
  have a2 : takesP ⟨[wProto, protoW p, wFrom, wAny, wPort, portT low high, wTo, wAny], false⟩ wQuick = (false, ⟨[wProto, protoW p, wFrom, wAny, wPort, portT low high, wTo, wAny], false⟩) := rfl
  have a3 : onP ⟨[wProto, protoW p, wFrom, wAny, wPort, portT low high, wTo, wAny], false⟩ = ([], ⟨[wProto, protoW p, wFrom, wAny, wPort, portT low high, wTo, wAny], false⟩) := rfl
  rw [a1]
  dsimp only
  rw [a2]
  dsimp only
  rw [a3]
  dsimp only
  unfold p2 prP
  rw [takes_hit]
  simp only [if_true]
  rw [proto_back p (by omega) p1']
  dsimp only
  unfold p3
  rw [kw_hit, side_ports low high l0 l1 h0 h1]
  dsimp only
  unfold p4
  rw [kw_hit, side_any']
  dsimp only
  rw [p5_nil]
  rfl
theorem ports_may (low high p : Int) (l0 : 0 ≤ low) (p0 : 1 ≤ p) (p1' : p ≤ 255) : ruleR (portR low high p) = (decide (low ≤ high) && (decide (high ≤ 65535) && ((p == 6 || p == 17) || (low == 0 && high == 65535)))) := by
  rw [ruleR_chain]
  unfold c1a c1b c2a c2b c2c c3a c3b c4a c4b c5 sideR portR portedF allP pinR
  have b0 : bits .andNot .i64 0 0 = 0 := by decide +kernel
  have x1 : decide (low < 0) = false := by simpa using l0
  have x2 : decide (p < 0) = false := by simp; omega
  have x3 : decide (255 < p) = false := by simp; omega
  have x4 : decide (65535 < high) = !decide (high ≤ 65535) := by by_cases h : high ≤ 65535 <;> simp [h] <;> omega
  have x5 : decide (high < low) = !decide (low ≤ high) := by by_cases h : low ≤ high <;> simp [h] <;> omega
  simp only [x1, x2, x3, x4, x5, b0]
  cases decide (high ≤ 65535) <;> cases decide (low ≤ high) <;> cases (p == 6) <;> cases (p == 17) <;> cases (low == 0) <;> cases (high == 65535) <;> cases (p == 1) <;> simp
def portTx (low high p : Int) : Wd := ((([98, 108, 111, 99, 107, 32, 112, 114, 111, 116, 111, 32] ++ protoW p) ++ [32, 102, 114, 111, 109, 32, 97, 110, 121, 32, 112, 111, 114, 116, 32]) ++ portT low high) ++ [32, 116, 111, 32, 97, 110, 121]
theorem portT_word (low high : Int) (l0 : 0 ≤ low) (h0 : 0 ≤ high) : isW (portT low high) := by
  have h1 := isW_itoa low l0
  have h2 := isW_itoa high h0
  unfold portT
  split
  · exact h1
  · refine ⟨by simp, fun hm => ?_⟩
    rcases List.mem_append.1 hm with h | h
    · rcases List.mem_append.1 h with h | h
      · exact h1.2 h
      · simp at h
    · exact h2.2 h
theorem ports_words (low high p : Int) (l0 : 0 ≤ low) (h0 : 0 ≤ high) (p0 : 1 ≤ p) : wordsL (portTx low high p) = portL low high p := by
  have e : portTx low high p = spaced (portL low high p) := by
    simp [portTx, portL, spaced, wBlock, wProto, wFrom, wAny, wPort, wTo]
  rw [e]
  refine words_spaced _ (by simp [portL]) ?_
  have w1 := isW_proto p (by omega)
  have w2 := portT_word low high l0 h0
  refine all_cons ⟨by decide, by decide⟩ (all_cons ⟨by decide, by decide⟩ (all_cons w1 (all_cons ⟨by decide, by decide⟩ (all_cons ⟨by decide, by decide⟩ (all_cons ⟨by decide, by decide⟩ (all_cons w2 (all_cons ⟨by decide, by decide⟩ (all_cons ⟨by decide, by decide⟩ all_nil))))))))
end Go.Proofs.YtefhoecdoemgbaaGreatDoor.Rw1
/- What the law RuleFlags reads: plain Lean. -/
namespace Go.Proofs.YtefhoecdoemgbaaGreatDoor.Rw2
open Go Go.RowKit Go.Proofs.YtefhoecdoemgbaaGreatDoor.Ad0 Go.Proofs.YtefhoecdoemgbaaGreatDoor.Ru0 Go.Proofs.YtefhoecdoemgbaaGreatDoor.Ad1 Go.Proofs.YtefhoecdoemgbaaGreatDoor.St0 Go.Proofs.YtefhoecdoemgbaaGreatDoor.St1 Go.Proofs.YtefhoecdoemgbaaGreatDoor.St2 Go.Proofs.YtefhoecdoemgbaaGreatDoor.St3 Go.Proofs.YtefhoecdoemgbaaGreatDoor.Ru1 Go.Proofs.YtefhoecdoemgbaaGreatDoor.Ru2 Go.Proofs.YtefhoecdoemgbaaGreatDoor.B1 Go.Proofs.YtefhoecdoemgbaaGreatDoor.Ad3 Go.Proofs.YtefhoecdoemgbaaGreatDoor.St4 Go.Proofs.YtefhoecdoemgbaaGreatDoor.St5 Go.Proofs.YtefhoecdoemgbaaGreatDoor.St7 Go.Proofs.YtefhoecdoemgbaaGreatDoor.St8 Go.Proofs.YtefhoecdoemgbaaGreatDoor.St9 Go.Proofs.YtefhoecdoemgbaaGreatDoor.StC Go.Proofs.YtefhoecdoemgbaaGreatDoor.Ru3 Go.Proofs.YtefhoecdoemgbaaGreatDoor.Ru6 Go.Proofs.YtefhoecdoemgbaaGreatDoor.Ru7 Go.Proofs.YtefhoecdoemgbaaGreatDoor.Ru4 Go.Proofs.YtefhoecdoemgbaaGreatDoor.Ru5 Go.Proofs.YtefhoecdoemgbaaGreatDoor.St6 Go.Proofs.YtefhoecdoemgbaaGreatDoor.StA Go.Proofs.YtefhoecdoemgbaaGreatDoor.Ru8 Go.Proofs.YtefhoecdoemgbaaGreatDoor.Ru9 Go.Proofs.YtefhoecdoemgbaaGreatDoor.RuB Go.Proofs.YtefhoecdoemgbaaGreatDoor.RuC Go.Proofs.YtefhoecdoemgbaaGreatDoor.RuD Go.Proofs.YtefhoecdoemgbaaGreatDoor.RuE Go.Proofs.YtefhoecdoemgbaaGreatDoor.RuI Go.Proofs.YtefhoecdoemgbaaGreatDoor.RuF Go.Proofs.YtefhoecdoemgbaaGreatDoor.RuG Go.Proofs.YtefhoecdoemgbaaGreatDoor.RuH Go.Proofs.YtefhoecdoemgbaaGreatDoor.Rw0 Go.Proofs.YtefhoecdoemgbaaGreatDoor.Ad2 Go.Proofs.YtefhoecdoemgbaaGreatDoor.RuQ Go.Proofs.YtefhoecdoemgbaaGreatDoor.RuR Go.Proofs.YtefhoecdoemgbaaGreatDoor.RuS Go.Proofs.YtefhoecdoemgbaaGreatDoor.Rw1
set_option linter.unusedVariables false
set_option linter.unusedSimpArgs false

def flR (s m : Nat) : RuleM := { pass := true, proto := 6, frm := { any := true, high := 65535 }, dst := { any := true, high := 65535 }, set := s, mask := m, typ := -1 }
theorem fl_tokens (s m : Nat) (h : m ≠ 0) : tokens (flR s m) = [wPass, wProto, wTcp, wFrom, wAny, wTo, wAny, wFlags, flagsW s ++ 47 :: flagsW m] := by
  have h' : ((m : Nat) : Int) ≠ 0 := by omega
  simp [tokens, tk1, tk2, tk3, tk4, tk5, tk6, tk7, tk8, tkPin, tkS, whoW, allP, flR, protoW, h', h]
theorem fl_parse (s m : Nat) (hs : s < 64) (hm : m < 64) (h0 : m ≠ 0) : ruleOf (tokens (flR s m)) = if ruleR (flR s m) then some (flR s m) else none := by
  have hh : headP ⟨tokens (flR s m), false⟩ = (true, ⟨tk1 (flR s m), false⟩) := by
    unfold headP tokens
    show (let t := takesP ⟨wPass :: tk1 (flR s m), false⟩ wPass; _) = _
    rw [takes_hit]
    rfl
  have hsd : sideR ({ any := true, high := 65535 } : SideM) true = true := by decide +kernel
  have hpn : pinR ({} : PinM) = true := by decide +kernel
  unfold ruleOf
  rw [hh]
  dsimp only
  rw [e1_back]
  dsimp only
  rw [e2_back (flR s m) _ (by show (0 : Int) ≤ 6; decide) (by show (6 : Int) ≤ 255; decide)]
  dsimp only
  rw [e3_back (flR s m) _ true hsd (by show (0 : Nat) < 4294967296; decide)]
  dsimp only
  rw [e4_back (flR s m) _ true hsd (by show (0 : Nat) < 4294967296; decide)]
  dsimp only
  rw [e5_back (flR s m) _ (by show (0 : Int) ≤ (m : Nat); omega) (by show ((m : Nat) : Int) ≤ 63; omega) (by show (0 : Int) ≤ (s : Nat); omega) (by show ((s : Nat) : Int) ≤ 63; omega) (by show ((m : Nat) : Int) = 0 → _; intro h; omega)]
  dsimp only
  rw [e6_back (flR s m) _ (by show (-1 : Int) ≤ -1; decide) (by show (-1 : Int) ≤ 255; decide)]
  dsimp only
  rw [e7_back (flR s m) _ hpn hpn (by show (0 : Nat) < 4294967296; decide) (by show (0 : Nat) < 4294967296; decide)]
  dsimp only
  unfold p8
  rw [table_back (flR s m) (by show (0 : Int) ≤ 0; decide) (by show (0 : Int) < 4; decide)]
  dsimp only
  show endP (flR s m) ⟨[], false⟩ = _
  unfold endP
  cases ruleR (flR s m) <;> rfl
theorem fl_may (s m : Nat) (hs : s < 64) (hm : m < 64) : ruleR (flR s m) = (bits .andNot .i64 (s : Nat) (m : Nat) == 0) := by
  rw [ruleR_chain]
  have hsd : sideR ({ any := true, high := 65535 } : SideM) true = true := by decide +kernel
  have hpn : pinR ({} : PinM) = true := by decide +kernel
  have x1 : decide (((m : Nat) : Int) < 0) = false := by simp
  have x2 : decide (63 < ((m : Nat) : Int)) = false := by simp; omega
  have x3 : decide (((s : Nat) : Int) < 0) = false := by simp
  have d1 : c1a (flR s m) = false := rfl
  have d2 : c1b (flR s m) = false := rfl
  have d3 : c2a (flR s m) = false := rfl
  have d4 : c2b (flR s m) = false := rfl
  have d5 : c2c (flR s m) = false := by
    show (!sideR ({ any := true, high := 65535 } : SideM) true || !sideR ({ any := true, high := 65535 } : SideM) true) = false
    rw [hsd]; rfl
  have d6 : c3a (flR s m) = !(bits .andNot .i64 (s : Nat) (m : Nat) == 0) := by
    show (decide (((m : Nat) : Int) < 0) || decide (63 < ((m : Nat) : Int)) || decide (((s : Nat) : Int) < 0) || !(bits .andNot .i64 (s : Nat) (m : Nat) == 0)) = _
    rw [x1, x2, x3]; rfl
  have d7 : c3b (flR s m) = false := rfl
  have d8 : c4a (flR s m) = false := rfl
  have d9 : c4b (flR s m) = false := rfl
  have d10 : c5 (flR s m) = true := by
    show (pinR ({} : PinM) && pinR ({} : PinM) && decide ((0 : Int) ≤ 0) && decide ((0 : Int) < 4)) = true
    rw [hpn]; rfl
  rw [d1, d2, d3, d4, d5, d6, d7, d8, d9, d10]
  cases (bits .andNot .i64 (s : Nat) (m : Nat) == 0) <;> rfl
def flT (s m : Nat) : Wd := (([112, 97, 115, 115, 32, 112, 114, 111, 116, 111, 32, 116, 99, 112, 32, 102, 114, 111, 109, 32, 97, 110, 121, 32, 116, 111, 32, 97, 110, 121, 32, 102, 108, 97, 103, 115, 32] ++ flagsW s) ++ [47]) ++ flagsL m
theorem flags_some : ∀ m : Fin 64, m.val ≠ 0 → flagsL m.val ≠ [] := by decide +kernel
theorem fl_words (s m : Nat) (hs : s < 64) (hm : m < 64) (h0 : m ≠ 0) : wordsL (flT s m) = tokens (flR s m) := by
  have hne := flags_some ⟨m, hm⟩ h0
  have hfm : flagsW m = flagsL m := by unfold flagsW; rw [if_neg hne]
  have e : flT s m = spaced (tokens (flR s m)) := by
    rw [fl_tokens s m h0, hfm]
    simp [flT, spaced, wPass, wProto, wTcp, wFrom, wAny, wTo, wFlags]
  rw [e]
  refine words_spaced _ (tokens_ne _) ?_
  rw [fl_tokens s m h0]
  exact all_cons ⟨by decide, by decide⟩ (all_cons ⟨by decide, by decide⟩ (all_cons ⟨by decide, by decide⟩ (all_cons ⟨by decide, by decide⟩ (all_cons ⟨by decide, by decide⟩ (all_cons ⟨by decide, by decide⟩ (all_cons ⟨by decide, by decide⟩ (all_cons ⟨by decide, by decide⟩ (all_cons (isW_flags s m hs hm) all_nil))))))))
end Go.Proofs.YtefhoecdoemgbaaGreatDoor.Rw2
