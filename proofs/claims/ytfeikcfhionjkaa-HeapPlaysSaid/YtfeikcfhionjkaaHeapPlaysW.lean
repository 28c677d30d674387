/- HeapPlays: the law's walk. -/
import Derived.Test.YtfeikcfhionjkaaHeapPlaysV
import Derived.Test.YtfeikcfhionjkaaUntil4
set_option linter.unusedVariables false
namespace Go.Proofs.Ytfeikcfhionjkaa.heapPlays
open Go.RowKit Go.Proofs.Ytfeikcfhionjkaa.B0 Go.Proofs.Ytfeikcfhionjkaa.Hp Go.Proofs.YtfeikcfhionjkaaW.PrintWords Go.Proofs.Ytfeikcfhionjkaa.Kn
theorem heapPlays_walk (w : World) (A0 : Option Addr) (c0 : Nat) (l0 : List S54) (C0 : Kd.C k54 w A0 l0.length l0) (_hc0 : l0.length ≤ c0) (m0 : l0.length ≤ maxLen) (W0 : ∀ x ∈ l0, W54 x) :
    Calls Try.prog 8 #[.slice A0 l0.length c0] w fun e w' => e = .returned (.bool true) ∧ Below w.heap.size w w' :=
  heapPlays_walk0 (fun _ _ _ _ h t hl => Hp.Until_q h t hl) w A0 c0 l0 C0 _hc0 m0 W0
end Go.Proofs.Ytfeikcfhionjkaa.heapPlays
