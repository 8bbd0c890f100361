-- PRINTED BY print.sh 35421559b90ae4d0a3588c463048766b98c2df88dd9212a6774a882060cdf62d: not written by this session
import Derived.Test.YtfeencjpdfnkhaaProg
import Derived.Below
import Derived.Deep.Draws
import Derived.Deep.AppendLies
import Derived.Maps.AppendAt
import Derived.OwnWalk
import Derived.Laws.BytesArg
import Derived.Laws.MakeOwn
import Derived.Laws.OwnMore
import Derived.Deep.OwnRows
import Derived.Tactics
import Derived.Lib.ConvBytes
import Derived.Laws.Slices
import Derived.WalkKit
import Derived.KernelRfl
import Derived.RowKit3
import Derived.Deep.LoopGhost
import Derived.Deep.QuietTactic
import Derived.BigQuiet
import Derived.WideLaws
import Derived.Deep.DeepCutAuto
import Derived.Deep.CutBlock
import Derived.Deep.RegionHeld3
import Derived.Laws.Rows
import Derived.Lib.AppendStr
import Derived.ArgAppend
import Derived.Laws.IdiomCopy
import Derived.OrdersHeld
import Derived.Laws.BitsLemmas
import Derived.RowKit
import Derived.Test.YtfeencjpdfnkhaaWWords
import Derived.Test.YtfeencjpdfnkhaaWLast
import Derived.Test.YtfeencjpdfnkhaaWTab
import Derived.Test.YtfeencjpdfnkhaaWFour
import Derived.Test.YtfeencjpdfnkhaaWQPut
import Derived.Test.YtfeencjpdfnkhaaWApart
import Derived.Test.YtfeencjpdfnkhaaWArr
import Derived.Test.YtfeencjpdfnkhaaWZeros
import Derived.Test.YtfeencjpdfnkhaaWFoot
import Derived.Test.YtfeencjpdfnkhaaWKept
import Derived.Test.YtfeencjpdfnkhaaWShare
import Derived.Test.YtfeencjpdfnkhaaWN
import Derived.Test.YtfeencjpdfnkhaaWFootNe
import Derived.Test.YtfeencjpdfnkhaaWAt
import Derived.Test.YtfeencjpdfnkhaaWEqStruct
import Derived.Test.YtfeencjpdfnkhaaWRepsOne
import Derived.Test.YtfeencjpdfnkhaaWInv
import Derived.Test.YtfeencjpdfnkhaaWInvWords
import Derived.Test.YtfeencjpdfnkhaaWGuard
import Derived.Test.YtfeencjpdfnkhaaWNEv
import Derived.Test.YtfeencjpdfnkhaaWMore
namespace Go.Proofs.Ytfeencjpdfnkhaa.PStateLong
open Go.RowKit Go.Proofs.YtfeencjpdfnkhaaW.PrintWords Go.Proofs.YtfeencjpdfnkhaaW.PrintLast Go.Proofs.YtfeencjpdfnkhaaW.PrintMore
attribute [local go_sem] max2_int min2_int max_two min_two max_three min_three max_four min_four   -- for this text's walks alone
set_option linter.unusedVariables false
set_option linter.unusedSimpArgs false



def errW : Option Int → Value
  | none => .nilIface
  | some c => .iface 0 (.int .i64 c)
theorem errW_none : errW none = .nilIface := rfl
theorem errW_some (c : Int) : errW (some c) = .iface 0 (.int .i64 c) := rfl

-- the values' own types

end Go.Proofs.Ytfeencjpdfnkhaa.PStateLong
