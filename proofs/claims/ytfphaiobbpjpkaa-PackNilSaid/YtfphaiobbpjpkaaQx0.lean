-- Written by mp.py (a program of this repo, over the print) for this seat: functions, contracts, walks.
import Derived.Test.YtfphaiobbpjpkaaProg
import Derived.Below
import Derived.Deep.Draws
import Derived.Deep.AppendLies
import Derived.Maps.AppendAt
import Derived.OwnWalk
import Derived.Laws.BytesArg
import Derived.Laws.MakeOwn
import Derived.Laws.OwnMore
import Derived.Deep.OwnRows
import Derived.Tactics
import Derived.Lib.ConvBytes
import Derived.Laws.Slices
import Derived.WalkKit
import Derived.KernelRfl
import Derived.RowKit3
import Derived.Deep.LoopGhost
import Derived.Deep.QuietTactic
import Derived.BigQuiet
import Derived.WideLaws
import Derived.Deep.DeepCutAuto
import Derived.Deep.CutBlock
import Derived.Deep.RegionHeld3
import Derived.Laws.Rows
import Derived.Lib.AppendStr
import Derived.ArgAppend
import Derived.Laws.IdiomCopy
import Derived.OrdersHeld
import Derived.Laws.BitsLemmas
import Derived.RowKit
import Derived.Lib.ConvBytes
import Derived.ChangeKeysEq
import Derived.Test.YtfphaiobbpjpkaaShelf
import Derived.Test.YtfphaiobbpjpkaaWWords
import Derived.Test.YtfphaiobbpjpkaaWLast
import Derived.Test.YtfphaiobbpjpkaaWTab
import Derived.Test.YtfphaiobbpjpkaaWFour
import Derived.Test.YtfphaiobbpjpkaaWQPut
import Derived.Test.YtfphaiobbpjpkaaWApart
import Derived.Test.YtfphaiobbpjpkaaWArr
import Derived.Test.YtfphaiobbpjpkaaWZeros
import Derived.Test.YtfphaiobbpjpkaaWFoot
import Derived.Test.YtfphaiobbpjpkaaWKept
import Derived.Test.YtfphaiobbpjpkaaWShare
import Derived.Test.YtfphaiobbpjpkaaWN
import Derived.Test.YtfphaiobbpjpkaaWFootNe
import Derived.Test.YtfphaiobbpjpkaaWAt
import Derived.Test.YtfphaiobbpjpkaaWEqStruct
import Derived.Test.YtfphaiobbpjpkaaWRepsOne
import Derived.Test.YtfphaiobbpjpkaaWInv
import Derived.Test.YtfphaiobbpjpkaaWInvWords
import Derived.Test.YtfphaiobbpjpkaaWGuard
import Derived.Test.YtfphaiobbpjpkaaWNEv
import Derived.Test.YtfphaiobbpjpkaaWMore
namespace Go.Proofs.Ytfphaiobbpjpkaa.Q
open Go.RowKit Go.Proofs.YtfphaiobbpjpkaaW.PrintWords Go.Proofs.YtfphaiobbpjpkaaW.PrintLast Go.Proofs.YtfphaiobbpjpkaaW.PrintMore
attribute [local go_sem] max2_int min2_int max_two min_two max_three min_three max_four min_four   -- for this text's walks alone
set_option linter.unusedVariables false
set_option linter.unusedSimpArgs false



def errW : Option Int → Value
  | none => .nilIface
  | some c => .iface 0 (.int .i64 c)
theorem errW_none : errW none = .nilIface := rfl
theorem errW_some (c : Int) : errW (some c) = .iface 0 (.int .i64 c) := rfl

theorem info5 : (Try.prog.info? 5).map (fun i => (i.zero, i.size, i.bytes)) = some (some (.int .u8 0), 1, 1) := by kernel_rfl
-- the values' own types

end Go.Proofs.Ytfphaiobbpjpkaa.Q
