/- A rule's text: its words, some of them joined already. -/
import Derived.Test.YtefhoecdoemgbaaGreatDoorRu5
import Derived.Test.YtefhoecdoemgbaaGreatDoorRu6
import Derived.Deep.MidRow
import Derived.BigFrame
import Derived.RegionTactic
import Derived.BigRegion
import Derived.Deep.DeepCutAuto
import Derived.BigGuardPart
namespace Go.Proofs.YtefhoecdoemgbaaGreatDoor.RuVa
open Go Go.RowKit Go.Proofs.YtefhoecdoemgbaaGreatDoor.Ad0 Go.Proofs.YtefhoecdoemgbaaGreatDoor.Ru0 Go.Proofs.YtefhoecdoemgbaaGreatDoor.Ad1 Go.Proofs.YtefhoecdoemgbaaGreatDoor.St0 Go.Proofs.YtefhoecdoemgbaaGreatDoor.St1 Go.Proofs.YtefhoecdoemgbaaGreatDoor.St2 Go.Proofs.YtefhoecdoemgbaaGreatDoor.St3 Go.Proofs.YtefhoecdoemgbaaGreatDoor.Ru1 Go.Proofs.YtefhoecdoemgbaaGreatDoor.Ru2 Go.Proofs.YtefhoecdoemgbaaGreatDoor.B1 Go.Proofs.YtefhoecdoemgbaaGreatDoor.Ad3 Go.Proofs.YtefhoecdoemgbaaGreatDoor.St4 Go.Proofs.YtefhoecdoemgbaaGreatDoor.St5 Go.Proofs.YtefhoecdoemgbaaGreatDoor.St7 Go.Proofs.YtefhoecdoemgbaaGreatDoor.St8 Go.Proofs.YtefhoecdoemgbaaGreatDoor.St9 Go.Proofs.YtefhoecdoemgbaaGreatDoor.StC Go.Proofs.YtefhoecdoemgbaaGreatDoor.Ru3 Go.Proofs.YtefhoecdoemgbaaGreatDoor.Ru4 Go.Proofs.YtefhoecdoemgbaaGreatDoor.Ru6
set_option linter.unusedVariables false
set_option linter.unusedSimpArgs false

theorem spaced_mid (a m b : List Wd) (hm : m ≠ []) : spaced (a ++ spaced m :: b) = spaced (a ++ (m ++ b)) := by
  cases m with
  | nil => exact absurd rfl hm
  | cons y t => cases a with
    | nil => simp [spaced]
    | cons x a => simp [spaced]
theorem spaced_snoc (a : List Wd) (ha : a ≠ []) (b : Wd) : spaced (a ++ [b]) = spaced a ++ 32 :: b := by
  cases a with
  | nil => exact absurd rfl ha
  | cons x a => simp [spaced]
theorem tkS_ne (s : SideM) : tkS s ≠ [] := by unfold tkS; simp
theorem if_ne (n k : Int) (a : List Wd) : (if (n != k) then a else []) = (if n = k then [] else a) := by by_cases h : n = k <;> simp [h]
theorem if_on (l : Wd) (a : List Wd) : (if (!l.isEmpty) then a else []) = (if l = [] then [] else a) := by cases l <;> simp
/-- What stands behind the ends. -/
def tailW (r : RuleM) : List Wd := tk5 r
theorem chunks (r : RuleM) (x0 x1 x2 x3 x4 x5 x6 x7 x8 x9 x10 x11 : List Wd) (h0 : [if r.pass then wPass else wBlock] = x0)
    (h1 : x0 ++ (if r.ret then [wReturn] else []) = x1) (h2 : x1 ++ (if r.quick then [wQuick] else []) = x2) (h3 : x2 ++ (if (!r.on.isEmpty) then [wOn, r.on] else []) = x3)
    (h4 : x3 ++ (if (r.proto != 0) then [wProto, protoW r.proto] else []) = x4) (h5 : x4 ++ [wFrom, spaced (tkS r.frm), wTo, spaced (tkS r.dst)] = x5)
    (h6 : x5 ++ (if (r.mask != 0) then [wFlags, (flagsW r.set.toNat ++ [47]) ++ flagsW r.mask.toNat] else []) = x6) (h7 : x6 ++ (if (r.typ != -1) then [wType, Lib.itoa r.typ] else []) = x7)
    (h8 : x7 ++ (if r.keep then [wKeep] else []) = x8) (h9 : x8 ++ (if r.routeTo.on then [wRoute, r.routeTo.iface, printL r.routeTo.gate] else []) = x9)
    (h10 : x9 ++ (if r.replyTo.on then [wReply, r.replyTo.iface, printL r.replyTo.gate] else []) = x10) (h11 : x10 ++ (if (r.table != 0) then [wTable, Lib.itoa r.table] else []) = x11) : spaced x11 = spaced (tokens r) := by
  have e11 : x11 = x5 ++ tk5 r := by
    rw [← h11, ← h10, ← h9, ← h8, ← h7, ← h6, if_ne, if_ne, if_ne]
    simp only [tk5, tk6, tk7, tk8, tkPin, List.append_assoc, List.cons_append, List.nil_append]
  have e4 : tokens r = x4 ++ tk3 r := by
    rw [← h4, ← h3, ← h2, ← h1, ← h0, if_ne, if_on]
    simp only [tokens, tk1, tk2, List.append_assoc, List.cons_append, List.nil_append]
  rw [e4, e11, ← h5]
  have s1 := spaced_mid (x4 ++ [wFrom]) (tkS r.frm) ([wTo, spaced (tkS r.dst)] ++ tk5 r) (tkS_ne _)
  have s2 := spaced_mid (x4 ++ wFrom :: (tkS r.frm ++ [wTo])) (tkS r.dst) (tk5 r) (tkS_ne _)
  simp only [List.append_assoc, List.cons_append, List.nil_append] at s1 s2 ⊢
  rw [s1, s2]
  rfl
end Go.Proofs.YtefhoecdoemgbaaGreatDoor.RuVa
