/- HeapUntil: the law's walk. -/
import Derived.Test.YtfeikcfhionjkaaHeapUntilV
import Derived.Test.YtfeikcfhionjkaaUntil4
set_option linter.unusedVariables false
namespace Go.Proofs.Ytfeikcfhionjkaa.heapUntil
open Go.RowKit Go.Proofs.Ytfeikcfhionjkaa.B0 Go.Proofs.Ytfeikcfhionjkaa.Hp Go.Proofs.YtfeikcfhionjkaaW.PrintWords Go.Proofs.Ytfeikcfhionjkaa.heapSorts
theorem heapUntil_walk (w : World) (A0 : Option Addr) (c0 : Nat) (l0 : List Int) (C0 : Kd.C (Kd.int .u64) w A0 l0.length l0) (_hc0 : l0.length ≤ c0) (m0 : l0.length ≤ maxLen) (W0 : ∀ x ∈ l0, (Lit.int .u64 x).wf = true) (A1 : Option Addr) (c1 : Nat) (l1 : List Int) (C1 : Kd.C (Kd.int .u64) w A1 l1.length l1) (_hc1 : l1.length ≤ c1) (m1 : l1.length ≤ maxLen) (W1 : ∀ x ∈ l1, (Lit.int .u64 x).wf = true) (a2 : Int) (w2 : (Lit.int .u64 a2).wf = true) (a3 : Int) (w3 : (Lit.int .u64 a3).wf = true) :
    Calls Try.prog 7 #[.slice A0 l0.length c0, .slice A1 l1.length c1, .int .u64 a2, .int .u64 a3] w fun e w' => e = .returned (.bool true) ∧ Below w.heap.size w w' :=
  heapUntil_walk0 (fun _ _ _ _ h t hl => Until_q h t hl) w A0 c0 l0 C0 _hc0 m0 W0 A1 c1 l1 C1 _hc1 m1 W1 a2 w2 a3 w3
end Go.Proofs.Ytfeikcfhionjkaa.heapUntil
