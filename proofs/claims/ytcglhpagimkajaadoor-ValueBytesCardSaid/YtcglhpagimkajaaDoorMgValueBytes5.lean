/- value: Of, Int, Text, Any at each kind of any; the chapter's example. -/
import Derived.Test.YtcglhpagimkajaaDoorMgValueBytes1
import Derived.Test.YtcglhpagimkajaaDoorProg
import Derived.Test.YtcglhpagimkajaaDoorMgValueBytes4
import Derived.Test.YtcglhpagimkajaaDoorMgValueBytes3
import Derived.WalkKit
import Derived.KernelRfl
import Derived.WalkLawsBesides
import Derived.WalkSpells
import Derived.Lib.SmallJoins
import Derived.Shelf.Lay
import Derived.Shelf.LaysM
import Derived.Shelf.Strconv.Itoa4
set_option linter.unusedVariables false
set_option linter.unusedSimpArgs false
namespace Go.Proofs.YtcglhpagimkajaaDoor.Vl
open Go.RowKit Go.Proofs.YtcglhpagimkajaaDoor.B0 Go.Proofs.YtcglhpagimkajaaDoor.Pv Go.Proofs.YtcglhpagimkajaaDoorW.PrintWords

/-- an any's value. -/
inductive An where
  | nil
  | int (n : Int)
  | bool (b : Bool)
  | str (s : ByteArray)
  | odd (n : Int)
def An.v : An → Value
  | .nil => .nilIface
  | .int n => .iface 2 (.int .i64 n)
  | .bool b => .iface 4 (.bool b)
  | .str s => .iface 9 (.string s)
  | .odd n => .iface 3 (.int .i64 n)
theorem ta9 (x : An) (w : World) : (Instr.typeAssert x.v 20 9 true).run Tryd.prog w = .ok (match x with | .str s => .tuple #[.string s, .bool true] | _ => .tuple #[.string ByteArray.empty, .bool false]) w := by
  cases x <;> kernel_rfl
theorem ta2 (x : An) (w : World) : (Instr.typeAssert x.v 20 2 true).run Tryd.prog w = .ok (match x with | .int n => .tuple #[.int .i64 n, .bool true] | _ => .tuple #[.int .i64 0, .bool false]) w := by
  cases x <;> kernel_rfl
theorem ta4 (x : An) (w : World) : (Instr.typeAssert x.v 20 4 true).run Tryd.prog w = .ok (match x with | .bool b => .tuple #[.bool b, .bool true] | _ => .tuple #[.bool false, .bool false]) w := by
  cases x <;> kernel_rfl
theorem tb9 (s : ByteArray) (w : World) : (Instr.typeAssert (An.str s).v 20 9 false).run Tryd.prog w = .ok (.string s) w := by kernel_rfl
theorem tb2 (n : Int) (w : World) : (Instr.typeAssert (An.int n).v 20 2 false).run Tryd.prog w = .ok (.int .i64 n) w := by kernel_rfl
theorem tb4 (b : Bool) (w : World) : (Instr.typeAssert (An.bool b).v 20 4 false).run Tryd.prog w = .ok (.bool b) w := by kernel_rfl

def intA : An → Int × Bool
  | .int n => (n, true)
  | .bool true => (1, true)
  | .bool false => (0, true)
  | _ => (0, false)
set_option maxRecDepth 100000 in
set_option maxHeartbeats 1000000 in
theorem Int_c (x : An) (w : World) : Calls Tryd.prog 12 #[x.v] w fun e w' => e = .returned (.tuple #[.int .i64 (intA x).1, .bool (intA x).2]) ∧ w = w' := by
  have h2 := ta2 x
  have h4 := ta4 x
  cases x with
  | bool b =>
    cases b <;> (
    simp only at h2 h4
    unfold An.v at h2 h4 ⊢
    go_enter Tryd.func12, Tryd.ntmps12
    go_wp2_with fail
    go_ret2
    exact ⟨rfl, rfl⟩)
  | _ =>
    simp only at h2 h4
    unfold An.v at h2 h4 ⊢
    go_enter Tryd.func12, Tryd.ntmps12
    go_wp2_with fail
    go_ret2
    exact ⟨rfl, rfl⟩
end Go.Proofs.YtcglhpagimkajaaDoor.Vl
