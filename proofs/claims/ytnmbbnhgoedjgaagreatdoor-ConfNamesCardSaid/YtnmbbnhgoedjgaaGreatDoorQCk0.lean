/- castellanlaw20: known; the law ConfParses, walked. -/
import Derived.Test.YtnmbbnhgoedjgaaGreatDoorQChp
import Derived.Test.YtnmbbnhgoedjgaaGreatDoorQChc
import Derived.Test.YtnmbbnhgoedjgaaGreatDoorQCg5
import Derived.Test.YtnmbbnhgoedjgaaGreatDoorQCg8
import Derived.Test.YtnmbbnhgoedjgaaGreatDoorQCh9
import Derived.Test.YtnmbbnhgoedjgaaGreatDoorQCgS
import Derived.Test.YtnmbbnhgoedjgaaGreatDoorQCgR
import Derived.Test.YtnmbbnhgoedjgaaGreatDoorQHr
import Derived.Test.YtnmbbnhgoedjgaaGreatDoorQCgM
import Derived.Test.YtnmbbnhgoedjgaaGreatDoorQRuO
import Derived.Test.YtnmbbnhgoedjgaaGreatDoorQRu5
import Derived.Test.YtnmbbnhgoedjgaaGreatDoorQRuS
import Derived.Test.YtnmbbnhgoedjgaaGreatDoorQCg0
import Derived.Test.YtnmbbnhgoedjgaaGreatDoorQCgV
import Derived.Test.YtnmbbnhgoedjgaaGreatDoorQRuU
import Derived.Test.YtnmbbnhgoedjgaaGreatDoorQCgU
namespace Go.Proofs.YtnmbbnhgoedjgaaGreatDoor.Ck0
open Go Go.RowKit Go.Proofs.YtnmbbnhgoedjgaaGreatDoor.Ad1 Go.Proofs.YtnmbbnhgoedjgaaGreatDoor.St2 Go.Proofs.YtnmbbnhgoedjgaaGreatDoor.Ru0 Go.Proofs.YtnmbbnhgoedjgaaGreatDoor.Ru6 Go.Proofs.YtnmbbnhgoedjgaaGreatDoor.RuB Go.Proofs.YtnmbbnhgoedjgaaGreatDoor.RuC Go.Proofs.YtnmbbnhgoedjgaaGreatDoor.RuY Go.Proofs.YtnmbbnhgoedjgaaGreatDoor.RuZ Go.Proofs.YtnmbbnhgoedjgaaGreatDoor.Cf0 Go.Proofs.YtnmbbnhgoedjgaaGreatDoor.Cf4 Go.Proofs.YtnmbbnhgoedjgaaGreatDoor.Cg0 Go.Proofs.YtnmbbnhgoedjgaaGreatDoor.Ch4 Go.Proofs.YtnmbbnhgoedjgaaGreatDoor.Ch7 Go.Proofs.YtnmbbnhgoedjgaaGreatDoor.CgM Go.Proofs.YtnmbbnhgoedjgaaGreatDoor.CgB Go.Proofs.YtnmbbnhgoedjgaaGreatDoor.CgL Go.Proofs.YtnmbbnhgoedjgaaGreatDoor.RuX Go.Proofs.YtnmbbnhgoedjgaaGreatDoor.Cg2 Go.Proofs.YtnmbbnhgoedjgaaGreatDoor.Cg5 Go.Proofs.YtnmbbnhgoedjgaaGreatDoor.Cg9 Go.Proofs.YtnmbbnhgoedjgaaGreatDoor.Chp Go.Proofs.YtnmbbnhgoedjgaaGreatDoor.Ch5 Go.Proofs.YtnmbbnhgoedjgaaGreatDoor.RuN Go.Proofs.YtnmbbnhgoedjgaaGreatDoor.RuO Go.Proofs.YtnmbbnhgoedjgaaGreatDoor.Cg7 Go.Proofs.YtnmbbnhgoedjgaaGreatDoor.CgW Go.Proofs.YtnmbbnhgoedjgaaGreatDoor.CgV Go.Proofs.YtnmbbnhgoedjgaaGreatDoor.CgT Go.Proofs.YtnmbbnhgoedjgaaGreatDoor.CgU
set_option linter.unusedVariables false
set_option linter.unusedSimpArgs false
def kS : Wd := [102, 108, 111, 119, 115, 32, 52, 10, 101, 114, 114, 111, 114, 115, 32, 49, 10, 105, 102, 97, 99, 101, 32, 97, 32, 49, 48, 46, 48, 46, 48, 46, 49, 47, 56, 32, 109, 116, 117, 32, 49, 53, 48, 48, 32, 114, 112, 102, 32, 110, 111, 110, 101, 10]
def kC : ConfM := { ifaces := [⟨[97], ⟨167772161, 8⟩, 1500, 0⟩], flows := 4, errors := 1 }
theorem kS_parse : parseC kS = (kC, 0, 0) := by decide +kernel
theorem kC_text : (if isC kC then textC kC else []) = kS := by decide +kernel
theorem kC_fit : FitC kC := by
  refine ⟨⟨fun x hx => ?_, by simp [kC], by simp [kC], by simp [kC]⟩, by simp [kC], by simp [kC], by simp [kC], by simp [kC], fun x hx => ?_, by simp [kC], by simp [kC]⟩
  · simp only [kC, List.mem_singleton] at hx
    subst hx
    show (167772161 : Nat) < 4294967296
    decide
  · simp only [kC, List.mem_singleton] at hx
    subst hx
    decide
/-- A configuration in a box. -/
structure CBox (W : World) (g : Nat) (v0 v1 v2 v3 : Value) (ts : List (NamedM × Value)) (c : ConfM) : Prop where
  row : W.heap[g]? = some (.cells (confC v0 v1 v2 v3 c) 27 (0, 0))
  conf : ConfIn W v0 v1 v2 v3 ts c
theorem CBox.below {W W' : World} {g : Nat} {v0 v1 v2 v3 : Value} {ts : List (NamedM × Value)} {c : ConfM} (h : CBox W g v0 v1 v2 v3 ts c) (hb : Below W.heap.size W W') : CBox W' g v0 v1 v2 v3 ts c :=
  ⟨(hb.block _ (blk_lt' h.row)).trans h.row, h.conf.below hb⟩
set_option maxRecDepth 100000 in
set_option maxHeartbeats 4000000 in
theorem known_any (HI : IsIfaceSaid) (HPr : PrintedSaid) (W : World) (hl : LibOK W) : Calls Tryz.prog 12 #[] W fun e w' => e = .returned (.bool true) ∧ Below W.heap.size W w' := by
  have KP := parse_any HI HPr kS (by decide) W hl
  unfold ParseGot at KP
  rw [kS_parse] at KP
  have KP := Lib.hid (show Calls Tryz.prog 9 #[.string ⟨#[102, 108, 111, 119, 115, 32, 52, 10, 101, 114, 114, 111, 114, 115, 32, 49, 10, 105, 102, 97, 99, 101, 32, 97, 32, 49, 48, 46, 48, 46, 48, 46, 49, 47, 56, 32, 109, 116, 117, 32, 49, 53, 48, 48, 32, 114, 112, 102, 32, 110, 111, 110, 101, 10]⟩] W _ from KP)
  have HL := Lib.hid (fun W' (hb : Below W.heap.size W W') => hl.below hb)
  have KC := Lib.hid (fun W' (hb : Below W.heap.size W W') v0 v1 v2 v3 ts (h : ConfIn W' v0 v1 v2 v3 ts kC) => by
    have h1 := print_conf HI HPr kC v0 v1 v2 v3 ts W' h kC_fit (hl.below hb)
    rw [kC_text] at h1
    exact h1)
  have KC := Lib.hid (show ∀ W' (hb : Below W.heap.size W W') v0 v1 v2 v3 ts (h : ConfIn W' v0 v1 v2 v3 ts kC), Calls Tryz.prog 15 #[.agg (confC v0 v1 v2 v3 kC)] W' (fun e w' => e = .returned (.string ⟨#[102, 108, 111, 119, 115, 32, 52, 10, 101, 114, 114, 111, 114, 115, 32, 49, 10, 105, 102, 97, 99, 101, 32, 97, 32, 49, 48, 46, 48, 46, 48, 46, 49, 47, 56, 32, 109, 116, 117, 32, 49, 53, 48, 48, 32, 114, 112, 102, 32, 110, 111, 110, 101, 10]⟩) ∧ Below W'.heap.size W' w') from KC.out)
  clear hl
  go_enter Tryz.func12, Tryz.ntmps12
  go_wp2_with (first
    | (go_at_call 9; (with_reducible refine KP.out.mono ?_); rintro e w1 ⟨v0, v1, v2, v3, ts, rfl, hc, hb1⟩; have HC := Lib.hid hc; have HB := Lib.hid hb1; have HOne := Lib.hid (conf_one hc kC); have HI6 := Lib.hid (Cg2.info6 v0 v1 v2 v3 kC); clear hc hb1)
    | ((with_reducible refine store_new (confC v0 v1 v2 v3 kC) ?_ ?_ ?_ HI6.out HOne.out ?_ ?_); rfl; rfl; rfl; rfl; intro V hV hbV hlV; have HC := Lib.hid (HC.out.below hbV); have HB := Lib.hid (bstep HB.out hbV HB.out.size); have HR := Lib.hid hV; clear hV hbV hlV)
    | ((with_reducible refine Mem.load_row w1.heap.size ?_ HR.out Tryz.underlying27 HI6.out ?_ ?_); rfl; rfl)
    | (go_at_call 15; (with_reducible refine (KC.out _ HB.out _ _ _ _ _ HC.out).mono ?_); rintro e w2 ⟨rfl, hb2⟩; have HB := Lib.hid (bstep HB.out hb2 HB.out.size); clear hb2))
  go_ret
  exact ⟨rfl, HB.out⟩
end Go.Proofs.YtnmbbnhgoedjgaaGreatDoor.Ck0

