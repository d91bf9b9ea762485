/- Ytjolaegjdfajbaa: Go functions as plain Lean functions, and that the calls come to them; written by a program of this session (wip/tools/mkprint.py). -/
import Derived.Test.YtjolaegjdfajbaaProg
import Derived.Below
import Derived.Deep.Draws
import Derived.Deep.AppendLies
import Derived.Maps.AppendAt
import Derived.OwnWalk
import Derived.Laws.BytesArg
import Derived.Laws.MakeOwn
import Derived.Laws.OwnMore
import Derived.Deep.OwnRows
import Derived.Tactics
import Derived.Lib.ConvBytes
import Derived.Laws.Slices
import Derived.WalkKit
import Derived.KernelRfl
import Derived.RowKit3
import Derived.Deep.LoopGhost
import Derived.Deep.QuietTactic
import Derived.BigQuiet
import Derived.WideLaws
import Derived.Deep.DeepCutAuto
import Derived.Deep.CutBlock
import Derived.Deep.RegionHeld3
import Derived.Laws.Rows
import Derived.Lib.AppendStr
import Derived.ArgAppend
import Derived.Laws.IdiomCopy
import Derived.OrdersHeld
import Derived.Laws.BitsLemmas
import Derived.RowKit
import Derived.Test.YtjolaegjdfajbaaShelf
import Derived.Test.YtjolaegjdfajbaaFv
import Derived.Test.YtjolaegjdfajbaaWWords
import Derived.Test.YtjolaegjdfajbaaWLast
import Derived.Test.YtjolaegjdfajbaaWTab
import Derived.Test.YtjolaegjdfajbaaWFour
import Derived.Test.YtjolaegjdfajbaaWQPut
import Derived.Test.YtjolaegjdfajbaaWApart
import Derived.Test.YtjolaegjdfajbaaWArr
import Derived.Test.YtjolaegjdfajbaaWZeros
import Derived.Test.YtjolaegjdfajbaaWFoot
import Derived.Test.YtjolaegjdfajbaaWKept
import Derived.Test.YtjolaegjdfajbaaWShare
import Derived.Test.YtjolaegjdfajbaaWN
import Derived.Test.YtjolaegjdfajbaaWFootNe
import Derived.Test.YtjolaegjdfajbaaWAt
import Derived.Test.YtjolaegjdfajbaaWEqStruct
import Derived.Test.YtjolaegjdfajbaaWRepsOne
import Derived.Test.YtjolaegjdfajbaaWInv
import Derived.Test.YtjolaegjdfajbaaWInvWords
import Derived.Test.YtjolaegjdfajbaaWGuard
import Derived.Test.YtjolaegjdfajbaaWNEv
import Derived.Test.YtjolaegjdfajbaaWMore
namespace Go.Proofs.Ytjolaegjdfajbaa.PA
open Go.RowKit Go.Proofs.YtjolaegjdfajbaaW.PrintWords Go.Proofs.YtjolaegjdfajbaaW.PrintLast Go.Proofs.YtjolaegjdfajbaaW.PrintMore
attribute [local go_sem] max2_int min2_int max_two min_two max_three min_three max_four min_four   -- for this text's walks alone
set_option linter.unusedVariables false
set_option linter.unusedSimpArgs false



def errW : Option Int → Value
  | none => .nilIface
  | some c => .iface 0 (.int .i64 c)
theorem errW_none : errW none = .nilIface := rfl
theorem errW_some (c : Int) : errW (some c) = .iface 0 (.int .i64 c) := rfl

-- the values' own types

end Go.Proofs.Ytjolaegjdfajbaa.PA
