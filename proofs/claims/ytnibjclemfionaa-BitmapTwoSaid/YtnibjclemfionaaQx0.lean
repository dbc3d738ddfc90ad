-- Written by mp.py (a program of this repo, over the print) for this seat: functions, contracts, walks.
import Derived.Test.YtnibjclemfionaaProg
import Derived.Below
import Derived.Deep.Draws
import Derived.Deep.AppendLies
import Derived.Maps.AppendAt
import Derived.OwnWalk
import Derived.Laws.BytesArg
import Derived.Laws.MakeOwn
import Derived.Laws.OwnMore
import Derived.Deep.OwnRows
import Derived.Tactics
import Derived.Lib.ConvBytes
import Derived.Laws.Slices
import Derived.WalkKit
import Derived.KernelRfl
import Derived.RowKit3
import Derived.Deep.LoopGhost
import Derived.Deep.QuietTactic
import Derived.BigQuiet
import Derived.WideLaws
import Derived.Deep.DeepCutAuto
import Derived.Deep.CutBlock
import Derived.Deep.RegionHeld3
import Derived.Laws.Rows
import Derived.Lib.AppendStr
import Derived.ArgAppend
import Derived.Laws.IdiomCopy
import Derived.OrdersHeld
import Derived.Laws.BitsLemmas
import Derived.RowKit
import Derived.Lib.ConvBytes
import Derived.Test.YtnibjclemfionaaShelf
import Derived.Test.YtnibjclemfionaaWWords
import Derived.Test.YtnibjclemfionaaWLast
import Derived.Test.YtnibjclemfionaaWTab
import Derived.Test.YtnibjclemfionaaWFour
import Derived.Test.YtnibjclemfionaaWQPut
import Derived.Test.YtnibjclemfionaaWApart
import Derived.Test.YtnibjclemfionaaWArr
import Derived.Test.YtnibjclemfionaaWZeros
import Derived.Test.YtnibjclemfionaaWFoot
import Derived.Test.YtnibjclemfionaaWKept
import Derived.Test.YtnibjclemfionaaWShare
import Derived.Test.YtnibjclemfionaaWN
import Derived.Test.YtnibjclemfionaaWFootNe
import Derived.Test.YtnibjclemfionaaWAt
import Derived.Test.YtnibjclemfionaaWEqStruct
import Derived.Test.YtnibjclemfionaaWRepsOne
import Derived.Test.YtnibjclemfionaaWInv
import Derived.Test.YtnibjclemfionaaWInvWords
import Derived.Test.YtnibjclemfionaaWGuard
import Derived.Test.YtnibjclemfionaaWNEv
import Derived.Test.YtnibjclemfionaaWMore
namespace Go.Proofs.Ytnibjclemfionaa.Q
open Go.RowKit Go.Proofs.YtnibjclemfionaaW.PrintWords Go.Proofs.YtnibjclemfionaaW.PrintLast Go.Proofs.YtnibjclemfionaaW.PrintMore
attribute [local go_sem] max2_int min2_int max_two min_two max_three min_three max_four min_four   -- for this text's walks alone
set_option linter.unusedVariables false
set_option linter.unusedSimpArgs false



def errW : Option Int → Value
  | none => .nilIface
  | some c => .iface 0 (.int .i64 c)
theorem errW_none : errW none = .nilIface := rfl
theorem errW_some (c : Int) : errW (some c) = .iface 0 (.int .i64 c) := rfl

theorem info3 : (Try.prog.info? 3).map (fun i => (i.zero, i.size, i.bytes)) = some (some (.int .i64 0), 1, 8) := by kernel_rfl
theorem info5 : (Try.prog.info? 5).map (fun i => (i.zero, i.size, i.bytes)) = some (some (.int .u8 0), 1, 1) := by kernel_rfl
-- the values' own types

end Go.Proofs.Ytnibjclemfionaa.Q
