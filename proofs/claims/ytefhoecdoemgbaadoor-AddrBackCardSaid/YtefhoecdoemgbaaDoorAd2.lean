/- Contracts of the reference's functions over addresses and prefixes (castellanref3): what each returns; what lay in memory is as it was. -/
import Derived.Test.YtefhoecdoemgbaaDoorAd1
namespace Go.Proofs.YtefhoecdoemgbaaDoor.Ad2
open Go Go.RowKit Go.Proofs.YtefhoecdoemgbaaDoor.Ad0 Go.Proofs.YtefhoecdoemgbaaDoor.Ad1
set_option linter.unusedVariables false
set_option linter.unusedSimpArgs false

theorem maskU (n : Int) : (IntKind.u64.wrap (4294967295 * 2 ^ (32 - heldF n).toNat) % 4294967296 : Int) = (maskN n : Int) := by
  rw [← maskI n, IntKind.wrap_u64]
  exact Int.emod_emod_of_dvd _ (by decide)

end Go.Proofs.YtefhoecdoemgbaaDoor.Ad2
