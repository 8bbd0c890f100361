/- castellanref14.Parse: a text as a rule, the document's way. -/
import Derived.Test.YtnmbbnhgoedjgaaGreatDoorQRuN
import Derived.Test.YtnmbbnhgoedjgaaGreatDoorQRuG
import Derived.Test.YtnmbbnhgoedjgaaGreatDoorQCf3
import Derived.Test.YtnmbbnhgoedjgaaGreatDoorQRuJ
import Derived.Test.YtnmbbnhgoedjgaaGreatDoorQRu5
import Derived.Test.YtnmbbnhgoedjgaaGreatDoorQRuS
import Derived.Test.YtnmbbnhgoedjgaaGreatDoorQCg0
import Derived.Deep.RegionWith
namespace Go.Proofs.YtnmbbnhgoedjgaaGreatDoor.RuO
open Go Go.RowKit Go.Proofs.YtnmbbnhgoedjgaaGreatDoor.Ru0 Go.Proofs.YtnmbbnhgoedjgaaGreatDoor.Ad1 Go.Proofs.YtnmbbnhgoedjgaaGreatDoor.St2 Go.Proofs.YtnmbbnhgoedjgaaGreatDoor.St3 Go.Proofs.YtnmbbnhgoedjgaaGreatDoor.Ru1 Go.Proofs.YtnmbbnhgoedjgaaGreatDoor.Ru6 Go.Proofs.YtnmbbnhgoedjgaaGreatDoor.RuB Go.Proofs.YtnmbbnhgoedjgaaGreatDoor.RuC Go.Proofs.YtnmbbnhgoedjgaaGreatDoor.RuN Go.Proofs.YtnmbbnhgoedjgaaGreatDoor.RuY
set_option linter.unusedVariables false
set_option linter.unusedSimpArgs false
/-- While a rule is read: the reader, the rule so far; what lay before is as it was. -/
structure QSt (W0 : World) (g gr : Nat) (r : RuleM) (ws : Ws) (W : World) : Prop where
  rd : Rd 162 W g ws
  row : W.heap[gr]? = some (.cells (ruleC r) 75 (0, 0))
  low : Below g W0 W
  lib : LibOK W
  hg : g < gr
  G : LibLow g
theorem QSt.call {W0 W W3 : World} {g gr : Nat} {r : RuleM} {ws ws' : Ws} (h : QSt W0 g gr r ws W) (hr : Rd 162 W3 g ws') (hu : Upto g W W3) : QSt W0 g gr r ws' W3 :=
  ⟨hr, hu.row h.row (Nat.ne_of_gt h.hg), h.low.trans (hu.low (Nat.le_of_lt h.rd.lt)), lib_upto h.lib hu h.G (Nat.le_of_lt h.rd.lt), h.hg, h.G⟩
theorem QSt.below {W0 W W3 : World} {g gr : Nat} {r : RuleM} {ws : Ws} (h : QSt W0 g gr r ws W) (hb : Below W.heap.size W W3) : QSt W0 g gr r ws W3 :=
  h.call (h.rd.below hb) (Upto.of_below hb)
theorem QSt.draw {W0 W : World} {g gr : Nat} {r : RuleM} {ws : Ws} (h : QSt W0 g gr r ws W) (n : Nat) : QSt W0 g gr r ws (W.drewN n) := h.below (bdrewN (Below.refl _ _) n)
theorem QSt.bad {W0 W : World} {g gr : Nat} {r : RuleM} {ws : Ws} (h : QSt W0 g gr r ws W) (b : Bool) : QSt W0 g gr r ⟨ws.l, b⟩ (W.setCell ⟨g, 1, none⟩ (.bool b)) := h.call (h.rd.bad b) (Upto.refl _ _).set
theorem QSt.put {W0 W : World} {g gr k : Nat} {r r' : RuleM} {ws : Ws} {v : Value} (h : QSt W0 g gr r ws W) (he : (ruleC r).setIfInBounds k v = ruleC r') : QSt W0 g gr r' ws (W.setCell ⟨gr, k, none⟩ v) :=
  ⟨h.rd.above (set_b (Below.refl _ _) h.hg), by rw [← he]; exact set_at h.row, set_b h.low (Nat.le_of_lt h.hg), lib_low h.lib (set_b (Below.refl _ _) (Nat.le_of_lt h.hg)) h.G, h.hg, h.G⟩
theorem QSt.cell {W0 W : World} {g gr : Nat} {r : RuleM} {ws : Ws} (h : QSt W0 g gr r ws W) (k : Nat) : W.cell? ⟨gr, k, none⟩ = (ruleC r)[k]? := cell_of_row _ _ _ _ _ _ h.row
theorem QSt.free {W0 W : World} {g gr : Nat} {r : RuleM} {ws : Ws} (h : QSt W0 g gr r ws W) (k : Nat) : W.frozen? ⟨gr, k, none⟩ = false := frozen_of_row _ _ _ _ _ h.row
end Go.Proofs.YtnmbbnhgoedjgaaGreatDoor.RuO

