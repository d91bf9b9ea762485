/- YtmbpgnmhfmcbmaaDoor: Go functions as plain Lean functions, and that the calls come to them; written by a program of this session (wip/tools/mkprint.py). -/
import Derived.Test.YtmbpgnmhfmcbmaaDoorProg
import Derived.Below
import Derived.Deep.Draws
import Derived.Deep.AppendLies
import Derived.Maps.AppendAt
import Derived.OwnWalk
import Derived.Laws.BytesArg
import Derived.Laws.MakeOwn
import Derived.Laws.OwnMore
import Derived.Deep.OwnRows
import Derived.Tactics
import Derived.Lib.ConvBytes
import Derived.Laws.Slices
import Derived.WalkKit
import Derived.KernelRfl
import Derived.RowKit3
import Derived.Deep.LoopGhost
import Derived.Deep.QuietTactic
import Derived.BigQuiet
import Derived.WideLaws
import Derived.Deep.DeepCutAuto
import Derived.Deep.CutBlock
import Derived.Deep.RegionHeld3
import Derived.Laws.Rows
import Derived.Lib.AppendStr
import Derived.ArgAppend
import Derived.Laws.IdiomCopy
import Derived.OrdersHeld
import Derived.Laws.BitsLemmas
import Derived.RowKit
import Derived.Test.YtmbpgnmhfmcbmaaDoorAmb
import Derived.Test.YtmbpgnmhfmcbmaaDoorWWords
import Derived.Test.YtmbpgnmhfmcbmaaDoorWLast
import Derived.Test.YtmbpgnmhfmcbmaaDoorWTab
import Derived.Test.YtmbpgnmhfmcbmaaDoorWFour
import Derived.Test.YtmbpgnmhfmcbmaaDoorWQPut
import Derived.Test.YtmbpgnmhfmcbmaaDoorWApart
import Derived.Test.YtmbpgnmhfmcbmaaDoorWArr
import Derived.Test.YtmbpgnmhfmcbmaaDoorWZeros
import Derived.Test.YtmbpgnmhfmcbmaaDoorWFoot
import Derived.Test.YtmbpgnmhfmcbmaaDoorWKept
import Derived.Test.YtmbpgnmhfmcbmaaDoorWShare
import Derived.Test.YtmbpgnmhfmcbmaaDoorWN
import Derived.Test.YtmbpgnmhfmcbmaaDoorWFootNe
import Derived.Test.YtmbpgnmhfmcbmaaDoorWAt
import Derived.Test.YtmbpgnmhfmcbmaaDoorWEqStruct
import Derived.Test.YtmbpgnmhfmcbmaaDoorWRepsOne
import Derived.Test.YtmbpgnmhfmcbmaaDoorWInv
import Derived.Test.YtmbpgnmhfmcbmaaDoorWInvWords
import Derived.Test.YtmbpgnmhfmcbmaaDoorWGuard
import Derived.Test.YtmbpgnmhfmcbmaaDoorWNEv
import Derived.Test.YtmbpgnmhfmcbmaaDoorWMore
namespace Go.Proofs.YtmbpgnmhfmcbmaaDoor.PA
open Go.RowKit Go.Proofs.YtmbpgnmhfmcbmaaDoorW.PrintWords Go.Proofs.YtmbpgnmhfmcbmaaDoorW.PrintLast Go.Proofs.YtmbpgnmhfmcbmaaDoorW.PrintMore
attribute [local go_sem] max2_int min2_int max_two min_two max_three min_three max_four min_four   -- for this text's walks alone
set_option linter.unusedVariables false
set_option linter.unusedSimpArgs false



def errW : Option Int → Value
  | none => .nilIface
  | some c => .iface 0 (.int .i64 c)
theorem errW_none : errW none = .nilIface := rfl
theorem errW_some (c : Int) : errW (some c) = .iface 0 (.int .i64 c) := rfl

theorem info3 : (Tryd.prog.info? 3).map (fun i => (i.zero, i.size, i.bytes)) = some (some (.int .i64 0), 1, 8) := by kernel_rfl
theorem info4 : (Tryd.prog.info? 4).map (fun i => (i.zero, i.size, i.bytes)) = some (some (.bool false), 1, 1) := by kernel_rfl
theorem info22 : (Tryd.prog.info? 22).map (fun i => (i.zero, i.size, i.bytes)) = some (some (.int .u64 0), 1, 8) := by kernel_rfl
-- the values' own types

end Go.Proofs.YtmbpgnmhfmcbmaaDoor.PA
