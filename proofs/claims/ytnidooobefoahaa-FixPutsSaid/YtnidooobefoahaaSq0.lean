-- by fakeprint.py
import Derived.Test.YtnidooobefoahaaProg
import Derived.Below
import Derived.Deep.Draws
import Derived.Deep.AppendLies
import Derived.Maps.AppendAt
import Derived.OwnWalk
import Derived.Laws.BytesArg
import Derived.Laws.MakeOwn
import Derived.Laws.OwnMore
import Derived.Deep.OwnRows
import Derived.Tactics
import Derived.Lib.ConvBytes
import Derived.Laws.Slices
import Derived.WalkKit
import Derived.KernelRfl
import Derived.RowKit3
import Derived.Deep.LoopGhost
import Derived.Deep.QuietTactic
import Derived.BigQuiet
import Derived.WideLaws
import Derived.Deep.DeepCutAuto
import Derived.Deep.CutBlock
import Derived.Deep.RegionHeld3
import Derived.Laws.Rows
import Derived.Lib.AppendStr
import Derived.ArgAppend
import Derived.Laws.IdiomCopy
import Derived.OrdersHeld
import Derived.Laws.BitsLemmas
import Derived.RowKit
import Derived.Test.YtnidooobefoahaaAwakeFix
import Derived.Test.YtnidooobefoahaaWWords
import Derived.Test.YtnidooobefoahaaWLast
import Derived.Test.YtnidooobefoahaaWTab
import Derived.Test.YtnidooobefoahaaWFour
import Derived.Test.YtnidooobefoahaaWQPut
import Derived.Test.YtnidooobefoahaaWApart
import Derived.Test.YtnidooobefoahaaWArr
import Derived.Test.YtnidooobefoahaaWZeros
import Derived.Test.YtnidooobefoahaaWFoot
import Derived.Test.YtnidooobefoahaaWKept
import Derived.Test.YtnidooobefoahaaWShare
import Derived.Test.YtnidooobefoahaaWN
import Derived.Test.YtnidooobefoahaaWFootNe
import Derived.Test.YtnidooobefoahaaWAt
import Derived.Test.YtnidooobefoahaaWEqStruct
import Derived.Test.YtnidooobefoahaaWRepsOne
import Derived.Test.YtnidooobefoahaaWInv
import Derived.Test.YtnidooobefoahaaWInvWords
import Derived.Test.YtnidooobefoahaaWGuard
import Derived.Test.YtnidooobefoahaaWNEv
import Derived.Test.YtnidooobefoahaaWMore
namespace Go.Proofs.Ytnidooobefoahaa.Sq
open Go.Proofs.Ytnidooobefoahaa.Hand
open Go.Proofs.Ytnidooobefoahaa.Sp
open Go.RowKit Go.Proofs.YtnidooobefoahaaW.PrintWords Go.Proofs.YtnidooobefoahaaW.PrintLast Go.Proofs.YtnidooobefoahaaW.PrintMore
attribute [local go_sem] max2_int min2_int max_two min_two max_three min_three max_four min_four   -- for this text's walks alone
set_option linter.unusedVariables false
set_option linter.unusedSimpArgs false



def errW : Option Int → Value
  | none => .nilIface
  | some c => .iface 0 (.int .i64 c)
theorem errW_none : errW none = .nilIface := rfl
theorem errW_some (c : Int) : errW (some c) = .iface 0 (.int .i64 c) := rfl

theorem info5 : (Try.prog.info? 5).map (fun i => (i.zero, i.size, i.bytes)) = some (some (.int .u8 0), 1, 1) := by kernel_rfl
-- the values' own types

end Go.Proofs.Ytnidooobefoahaa.Sq
