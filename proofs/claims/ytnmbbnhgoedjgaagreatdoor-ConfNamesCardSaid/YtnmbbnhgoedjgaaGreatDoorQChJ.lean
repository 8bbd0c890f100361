/- conf.isIface, conf.printed: joined. -/
import Derived.Test.YtnmbbnhgoedjgaaGreatDoorQCf7
import Derived.Test.YtnmbbnhgoedjgaaGreatDoorQCg3
import Derived.Test.YtnmbbnhgoedjgaaGreatDoorQCg5
namespace Go.Proofs.YtnmbbnhgoedjgaaGreatDoor.ChJ
open Go Go.RowKit Go.Proofs.YtnmbbnhgoedjgaaGreatDoor.Cf7 Go.Proofs.YtnmbbnhgoedjgaaGreatDoor.RuY Go.Proofs.YtnmbbnhgoedjgaaGreatDoor.Cg0 Go.Proofs.YtnmbbnhgoedjgaaGreatDoor.Cg3 Go.Proofs.YtnmbbnhgoedjgaaGreatDoor.CgP
set_option linter.unusedVariables false
theorem isIface_said : IsIfaceSaid := fun x hx hp W => by
  obtain ⟨nm, ⟨a, n⟩, mtu, rpf⟩ := x
  exact isIface_any nm hx ⟨a, n⟩ hp mtu rpf W
theorem printed_said_conf (KPR : PrintSaid) : PrintedSaid := fun c v0 v1 v2 v3 ts W h hf hc hl =>
  printed_any KPR c v0 v1 v2 v3 ts W h hf hc hl (Nat.le_trans (text_bound c (isC0_facts c hc) hf) (by decide))
end Go.Proofs.YtnmbbnhgoedjgaaGreatDoor.ChJ

