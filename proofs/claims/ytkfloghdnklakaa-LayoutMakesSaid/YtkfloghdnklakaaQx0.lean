-- Written by mp.py (a program of this repo, over the print) for this seat: functions, contracts, walks.
import Derived.Test.YtkfloghdnklakaaProg
import Derived.Below
import Derived.Deep.Draws
import Derived.Deep.AppendLies
import Derived.Maps.AppendAt
import Derived.OwnWalk
import Derived.Laws.BytesArg
import Derived.Laws.MakeOwn
import Derived.Laws.OwnMore
import Derived.Deep.OwnRows
import Derived.Tactics
import Derived.Lib.ConvBytes
import Derived.Laws.Slices
import Derived.WalkKit
import Derived.KernelRfl
import Derived.RowKit3
import Derived.Deep.LoopGhost
import Derived.Deep.QuietTactic
import Derived.BigQuiet
import Derived.WideLaws
import Derived.Deep.DeepCutAuto
import Derived.Deep.CutBlock
import Derived.Deep.RegionHeld3
import Derived.Laws.Rows
import Derived.Lib.AppendStr
import Derived.ArgAppend
import Derived.Laws.IdiomCopy
import Derived.OrdersHeld
import Derived.Laws.BitsLemmas
import Derived.RowKit
import Derived.Lib.ConvBytes
import Derived.ChangeKeysEq
import Derived.Test.YtkfloghdnklakaaShelf
import Derived.Test.YtkfloghdnklakaaWWords
import Derived.Test.YtkfloghdnklakaaWLast
import Derived.Test.YtkfloghdnklakaaWTab
import Derived.Test.YtkfloghdnklakaaWFour
import Derived.Test.YtkfloghdnklakaaWQPut
import Derived.Test.YtkfloghdnklakaaWApart
import Derived.Test.YtkfloghdnklakaaWArr
import Derived.Test.YtkfloghdnklakaaWZeros
import Derived.Test.YtkfloghdnklakaaWFoot
import Derived.Test.YtkfloghdnklakaaWKept
import Derived.Test.YtkfloghdnklakaaWShare
import Derived.Test.YtkfloghdnklakaaWN
import Derived.Test.YtkfloghdnklakaaWFootNe
import Derived.Test.YtkfloghdnklakaaWAt
import Derived.Test.YtkfloghdnklakaaWEqStruct
import Derived.Test.YtkfloghdnklakaaWRepsOne
import Derived.Test.YtkfloghdnklakaaWInv
import Derived.Test.YtkfloghdnklakaaWInvWords
import Derived.Test.YtkfloghdnklakaaWGuard
import Derived.Test.YtkfloghdnklakaaWNEv
import Derived.Test.YtkfloghdnklakaaWMore
namespace Go.Proofs.Ytkfloghdnklakaa.Q
open Go.RowKit Go.Proofs.YtkfloghdnklakaaW.PrintWords Go.Proofs.YtkfloghdnklakaaW.PrintLast Go.Proofs.YtkfloghdnklakaaW.PrintMore
attribute [local go_sem] max2_int min2_int max_two min_two max_three min_three max_four min_four   -- for this text's walks alone
set_option linter.unusedVariables false
set_option linter.unusedSimpArgs false



def errW : Option Int → Value
  | none => .nilIface
  | some c => .iface 0 (.int .i64 c)
theorem errW_none : errW none = .nilIface := rfl
theorem errW_some (c : Int) : errW (some c) = .iface 0 (.int .i64 c) := rfl

theorem info5 : (Try.prog.info? 5).map (fun i => (i.zero, i.size, i.bytes)) = some (some (.int .u8 0), 1, 1) := by kernel_rfl
-- the values' own types

end Go.Proofs.Ytkfloghdnklakaa.Q
