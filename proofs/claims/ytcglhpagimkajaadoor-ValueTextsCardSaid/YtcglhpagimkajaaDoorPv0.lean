/- Struct types as kinds, as the kit's print wrote them (taken over by the session's program pick.py). -/
import Derived.Test.YtcglhpagimkajaaDoorProg
import Derived.Below
import Derived.Deep.Draws
import Derived.Deep.AppendLies
import Derived.Maps.AppendAt
import Derived.OwnWalk
import Derived.Laws.BytesArg
import Derived.Laws.MakeOwn
import Derived.Laws.OwnMore
import Derived.Deep.OwnRows
import Derived.Tactics
import Derived.Lib.ConvBytes
import Derived.Laws.Slices
import Derived.WalkKit
import Derived.KernelRfl
import Derived.RowKit3
import Derived.Deep.LoopGhost
import Derived.Deep.QuietTactic
import Derived.BigQuiet
import Derived.WideLaws
import Derived.Deep.DeepCutAuto
import Derived.Deep.CutBlock
import Derived.Deep.RegionHeld3
import Derived.Laws.Rows
import Derived.Lib.AppendStr
import Derived.ArgAppend
import Derived.Laws.IdiomCopy
import Derived.OrdersHeld
import Derived.Laws.BitsLemmas
import Derived.RowKit
import Derived.Test.YtcglhpagimkajaaDoorWWords
import Derived.Test.YtcglhpagimkajaaDoorWLast
import Derived.Test.YtcglhpagimkajaaDoorWTab
import Derived.Test.YtcglhpagimkajaaDoorWFour
import Derived.Test.YtcglhpagimkajaaDoorWQPut
import Derived.Test.YtcglhpagimkajaaDoorWApart
import Derived.Test.YtcglhpagimkajaaDoorWArr
import Derived.Test.YtcglhpagimkajaaDoorWZeros
import Derived.Test.YtcglhpagimkajaaDoorWFoot
import Derived.Test.YtcglhpagimkajaaDoorWKept
import Derived.Test.YtcglhpagimkajaaDoorWShare
import Derived.Test.YtcglhpagimkajaaDoorWN
import Derived.Test.YtcglhpagimkajaaDoorWFootNe
import Derived.Test.YtcglhpagimkajaaDoorWAt
import Derived.Test.YtcglhpagimkajaaDoorWEqStruct
import Derived.Test.YtcglhpagimkajaaDoorWRepsOne
import Derived.Test.YtcglhpagimkajaaDoorWInv
import Derived.Test.YtcglhpagimkajaaDoorWInvWords
import Derived.Test.YtcglhpagimkajaaDoorWGuard
import Derived.Test.YtcglhpagimkajaaDoorWNEv
import Derived.Test.YtcglhpagimkajaaDoorWMore
namespace Go.Proofs.YtcglhpagimkajaaDoor.Pv
open Go.RowKit Go.Proofs.YtcglhpagimkajaaDoorW.PrintWords Go.Proofs.YtcglhpagimkajaaDoorW.PrintLast Go.Proofs.YtcglhpagimkajaaDoorW.PrintMore
attribute [local go_sem] max2_int min2_int max_two min_two max_three min_three max_four min_four   -- for this text's walks alone
set_option linter.unusedVariables false
set_option linter.unusedSimpArgs false



def errW : Option Int → Value
  | none => .nilIface
  | some c => .iface 0 (.int .i64 c)
theorem errW_none : errW none = .nilIface := rfl
theorem errW_some (c : Int) : errW (some c) = .iface 0 (.int .i64 c) := rfl

theorem info3 : (Tryd.prog.info? 3).map (fun i => (i.zero, i.size, i.bytes)) = some (some (.int .i64 0), 1, 8) := by kernel_rfl
-- the values' own types

theorem eqA23 (d : Nat) (w : World) (x0 y0 : Int) (x1 y1 : Int) (x2 y2 : ByteArray) :
    (Op.equalIn (d + 2) 23 (.agg #[.int .i64 x0, .int .i64 x1, .string x2]) (.agg #[.int .i64 y0, .int .i64 y1, .string y2])).run Tryd.prog w = .ok (x0 == y0 && (x1 == y1 && (x2.toList == y2.toList))) w := by
  refine eqA_of Tryd.underlying23 (by kernel_rfl) ?_
  refine eqf_cons (by rfl) (by go_simp; rfl) (by go_simp; rfl) (by go_simp) ?_
  refine eqf_cons (by rfl) (by go_simp; rfl) (by go_simp; rfl) (by go_simp) ?_
  exact eqf_last (by rfl) (by go_simp; rfl) (by go_simp; rfl) (by go_simp)
end Go.Proofs.YtcglhpagimkajaaDoor.Pv
