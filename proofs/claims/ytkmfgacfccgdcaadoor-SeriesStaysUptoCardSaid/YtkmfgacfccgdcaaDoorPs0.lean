/- Struct types as kinds, as the kit's print wrote them (taken over by the session's program pick.py). -/
import Derived.Test.YtkmfgacfccgdcaaDoorProg
import Derived.Below
import Derived.Deep.Draws
import Derived.Deep.AppendLies
import Derived.Maps.AppendAt
import Derived.OwnWalk
import Derived.Laws.BytesArg
import Derived.Laws.MakeOwn
import Derived.Laws.OwnMore
import Derived.Deep.OwnRows
import Derived.Tactics
import Derived.Lib.ConvBytes
import Derived.Laws.Slices
import Derived.WalkKit
import Derived.KernelRfl
import Derived.RowKit3
import Derived.Deep.LoopGhost
import Derived.Deep.QuietTactic
import Derived.BigQuiet
import Derived.WideLaws
import Derived.Deep.DeepCutAuto
import Derived.Deep.CutBlock
import Derived.Deep.RegionHeld3
import Derived.Laws.Rows
import Derived.Lib.AppendStr
import Derived.ArgAppend
import Derived.Laws.IdiomCopy
import Derived.OrdersHeld
import Derived.Laws.BitsLemmas
import Derived.RowKit
import Derived.Test.YtkmfgacfccgdcaaDoorWWords
import Derived.Test.YtkmfgacfccgdcaaDoorWLast
import Derived.Test.YtkmfgacfccgdcaaDoorWTab
import Derived.Test.YtkmfgacfccgdcaaDoorWFour
import Derived.Test.YtkmfgacfccgdcaaDoorWQPut
import Derived.Test.YtkmfgacfccgdcaaDoorWApart
import Derived.Test.YtkmfgacfccgdcaaDoorWArr
import Derived.Test.YtkmfgacfccgdcaaDoorWZeros
import Derived.Test.YtkmfgacfccgdcaaDoorWFoot
import Derived.Test.YtkmfgacfccgdcaaDoorWKept
import Derived.Test.YtkmfgacfccgdcaaDoorWShare
import Derived.Test.YtkmfgacfccgdcaaDoorWN
import Derived.Test.YtkmfgacfccgdcaaDoorWFootNe
import Derived.Test.YtkmfgacfccgdcaaDoorWAt
import Derived.Test.YtkmfgacfccgdcaaDoorWEqStruct
import Derived.Test.YtkmfgacfccgdcaaDoorWRepsOne
import Derived.Test.YtkmfgacfccgdcaaDoorWInv
import Derived.Test.YtkmfgacfccgdcaaDoorWInvWords
import Derived.Test.YtkmfgacfccgdcaaDoorWGuard
import Derived.Test.YtkmfgacfccgdcaaDoorWNEv
import Derived.Test.YtkmfgacfccgdcaaDoorWMore
namespace Go.Proofs.YtkmfgacfccgdcaaDoor.Ps
open Go.RowKit Go.Proofs.YtkmfgacfccgdcaaDoorW.PrintWords Go.Proofs.YtkmfgacfccgdcaaDoorW.PrintLast Go.Proofs.YtkmfgacfccgdcaaDoorW.PrintMore
attribute [local go_sem] max2_int min2_int max_two min_two max_three min_three max_four min_four   -- for this text's walks alone
set_option linter.unusedVariables false
set_option linter.unusedSimpArgs false



def errW : Option Int → Value
  | none => .nilIface
  | some c => .iface 0 (.int .i64 c)
theorem errW_none : errW none = .nilIface := rfl
theorem errW_some (c : Int) : errW (some c) = .iface 0 (.int .i64 c) := rfl

-- the values' own types


end Go.Proofs.YtkmfgacfccgdcaaDoor.Ps
