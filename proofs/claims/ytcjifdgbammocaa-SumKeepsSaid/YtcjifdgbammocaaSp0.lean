-- by fakeprint.py
import Derived.Test.YtcjifdgbammocaaProg
import Derived.Below
import Derived.Deep.Draws
import Derived.Deep.AppendLies
import Derived.Maps.AppendAt
import Derived.OwnWalk
import Derived.Laws.BytesArg
import Derived.Laws.MakeOwn
import Derived.Laws.OwnMore
import Derived.Deep.OwnRows
import Derived.Tactics
import Derived.Lib.ConvBytes
import Derived.Laws.Slices
import Derived.WalkKit
import Derived.KernelRfl
import Derived.RowKit3
import Derived.Deep.LoopGhost
import Derived.Deep.QuietTactic
import Derived.BigQuiet
import Derived.WideLaws
import Derived.Deep.DeepCutAuto
import Derived.Deep.CutBlock
import Derived.Deep.RegionHeld3
import Derived.Laws.Rows
import Derived.Lib.AppendStr
import Derived.ArgAppend
import Derived.Laws.IdiomCopy
import Derived.OrdersHeld
import Derived.Laws.BitsLemmas
import Derived.RowKit
import Derived.Test.YtcjifdgbammocaaSumAwake
import Derived.Test.YtcjifdgbammocaaWWords
import Derived.Test.YtcjifdgbammocaaWLast
import Derived.Test.YtcjifdgbammocaaWTab
import Derived.Test.YtcjifdgbammocaaWFour
import Derived.Test.YtcjifdgbammocaaWQPut
import Derived.Test.YtcjifdgbammocaaWApart
import Derived.Test.YtcjifdgbammocaaWArr
import Derived.Test.YtcjifdgbammocaaWZeros
import Derived.Test.YtcjifdgbammocaaWFoot
import Derived.Test.YtcjifdgbammocaaWKept
import Derived.Test.YtcjifdgbammocaaWShare
import Derived.Test.YtcjifdgbammocaaWN
import Derived.Test.YtcjifdgbammocaaWFootNe
import Derived.Test.YtcjifdgbammocaaWAt
import Derived.Test.YtcjifdgbammocaaWEqStruct
import Derived.Test.YtcjifdgbammocaaWRepsOne
import Derived.Test.YtcjifdgbammocaaWInv
import Derived.Test.YtcjifdgbammocaaWInvWords
import Derived.Test.YtcjifdgbammocaaWGuard
import Derived.Test.YtcjifdgbammocaaWNEv
import Derived.Test.YtcjifdgbammocaaWMore
namespace Go.Proofs.Ytcjifdgbammocaa.Sp
open Go.Proofs.Ytcjifdgbammocaa.Hand
open Go.RowKit Go.Proofs.YtcjifdgbammocaaW.PrintWords Go.Proofs.YtcjifdgbammocaaW.PrintLast Go.Proofs.YtcjifdgbammocaaW.PrintMore
attribute [local go_sem] max2_int min2_int max_two min_two max_three min_three max_four min_four   -- for this text's walks alone
set_option linter.unusedVariables false
set_option linter.unusedSimpArgs false



def errW : Option Int → Value
  | none => .nilIface
  | some c => .iface 0 (.int .i64 c)
theorem errW_none : errW none = .nilIface := rfl
theorem errW_some (c : Int) : errW (some c) = .iface 0 (.int .i64 c) := rfl

theorem info5 : (Try.prog.info? 5).map (fun i => (i.zero, i.size, i.bytes)) = some (some (.int .u8 0), 1, 1) := by kernel_rfl
-- the values' own types

end Go.Proofs.Ytcjifdgbammocaa.Sp
