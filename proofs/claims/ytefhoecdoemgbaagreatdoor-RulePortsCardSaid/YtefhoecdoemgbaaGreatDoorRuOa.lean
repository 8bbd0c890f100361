/- castellanref14.Parse: its contract. -/
import Derived.Test.YtefhoecdoemgbaaGreatDoorRuO
import Derived.Test.YtefhoecdoemgbaaGreatDoorRuP
import Derived.Test.YtefhoecdoemgbaaGreatDoorRuS
import Derived.Test.YtefhoecdoemgbaaGreatDoorRuZ
namespace Go.Proofs.YtefhoecdoemgbaaGreatDoor.RuOa
open Go Go.RowKit Go.Proofs.YtefhoecdoemgbaaGreatDoor.Ad0 Go.Proofs.YtefhoecdoemgbaaGreatDoor.Ru0 Go.Proofs.YtefhoecdoemgbaaGreatDoor.Ad1 Go.Proofs.YtefhoecdoemgbaaGreatDoor.St0 Go.Proofs.YtefhoecdoemgbaaGreatDoor.St1 Go.Proofs.YtefhoecdoemgbaaGreatDoor.St2 Go.Proofs.YtefhoecdoemgbaaGreatDoor.St3 Go.Proofs.YtefhoecdoemgbaaGreatDoor.Ru1 Go.Proofs.YtefhoecdoemgbaaGreatDoor.Ru2 Go.Proofs.YtefhoecdoemgbaaGreatDoor.B1 Go.Proofs.YtefhoecdoemgbaaGreatDoor.Ad3 Go.Proofs.YtefhoecdoemgbaaGreatDoor.St4 Go.Proofs.YtefhoecdoemgbaaGreatDoor.St5 Go.Proofs.YtefhoecdoemgbaaGreatDoor.St7 Go.Proofs.YtefhoecdoemgbaaGreatDoor.St8 Go.Proofs.YtefhoecdoemgbaaGreatDoor.St9 Go.Proofs.YtefhoecdoemgbaaGreatDoor.StC Go.Proofs.YtefhoecdoemgbaaGreatDoor.Ru3 Go.Proofs.YtefhoecdoemgbaaGreatDoor.Ru6 Go.Proofs.YtefhoecdoemgbaaGreatDoor.Ru7 Go.Proofs.YtefhoecdoemgbaaGreatDoor.Ru4 Go.Proofs.YtefhoecdoemgbaaGreatDoor.Ru5 Go.Proofs.YtefhoecdoemgbaaGreatDoor.St6 Go.Proofs.YtefhoecdoemgbaaGreatDoor.StA Go.Proofs.YtefhoecdoemgbaaGreatDoor.Ru8 Go.Proofs.YtefhoecdoemgbaaGreatDoor.Ru9 Go.Proofs.YtefhoecdoemgbaaGreatDoor.RuB Go.Proofs.YtefhoecdoemgbaaGreatDoor.RuC Go.Proofs.YtefhoecdoemgbaaGreatDoor.RuK Go.Proofs.YtefhoecdoemgbaaGreatDoor.RuN Go.Proofs.YtefhoecdoemgbaaGreatDoor.RuA Go.Proofs.YtefhoecdoemgbaaGreatDoor.RuD Go.Proofs.YtefhoecdoemgbaaGreatDoor.RuE Go.Proofs.YtefhoecdoemgbaaGreatDoor.RuL Go.Proofs.YtefhoecdoemgbaaGreatDoor.RuM Go.Proofs.YtefhoecdoemgbaaGreatDoor.RuF Go.Proofs.YtefhoecdoemgbaaGreatDoor.RuG Go.Proofs.YtefhoecdoemgbaaGreatDoor.RuH Go.Proofs.YtefhoecdoemgbaaGreatDoor.RuI Go.Proofs.YtefhoecdoemgbaaGreatDoor.RuJ Go.Proofs.YtefhoecdoemgbaaGreatDoor.RuP Go.Proofs.YtefhoecdoemgbaaGreatDoor.Ad2 Go.Proofs.YtefhoecdoemgbaaGreatDoor.RuQ Go.Proofs.YtefhoecdoemgbaaGreatDoor.RuR Go.Proofs.YtefhoecdoemgbaaGreatDoor.RuS Go.Proofs.YtefhoecdoemgbaaGreatDoor.RuT Go.Proofs.YtefhoecdoemgbaaGreatDoor.RuW Go.Proofs.YtefhoecdoemgbaaGreatDoor.RuY Go.Proofs.YtefhoecdoemgbaaGreatDoor.RuO
set_option linter.unusedVariables false
set_option linter.unusedSimpArgs false

theorem words_said : WordsSaid := fun s hs w => by
  refine (words_any s (by omega) w).mono ?_
  rintro e w' ⟨v, xs, rfl, hxs, hxz, ho, hb⟩
  have hlen : xs.length = (wordsL s.data.toList).length := by rw [← hxs, List.length_map]
  have hsh : ∀ x ∈ wordsL s.data.toList, x.length < 4294967281 := by
    intro x hx
    rw [← hxs] at hx
    obtain ⟨b, hb1, rfl⟩ := List.mem_map.1 hx
    have := hxz b hb1
    have e : b.data.toList.length = b.size := rfl
    omega
  rcases ho.2 with ⟨h1, h0⟩ | ⟨g, cap, cur, hv, _, hg, hcap, _⟩
  · refine ⟨none, 0, 0, by rw [h1], by omega, Nat.le_refl _, .inl (List.length_eq_zero_iff.1 (by omega)), hsh, hb⟩
  · subst hv
    refine ⟨_, xs.length, cap, rfl, hlen, hcap, .inr ⟨g, 0, rfl, blk_lt' hg, blk_lt' hg, ?_⟩, hsh, hb⟩
    intro j x hj
    rw [← hxs, List.getElem?_map, Option.map_eq_some_iff] at hj
    obtain ⟨y, hy, rfl⟩ := hj
    have hjl := (List.getElem?_eq_some_iff.1 hy).1
    rw [Nat.zero_add, ho.cellAt j (by omega), List.getElem?_map, hy]
    rfl
theorem read_said : ReadSaid := fun s hs w hl => readR_any words_said s hs w hl (fun r h W => isR_any r h W)
end Go.Proofs.YtefhoecdoemgbaaGreatDoor.RuOa
