/- ExpoParses: the law's walk, whole. -/
import Derived.Test.YtdbmcikoiilanaaDoorXp21
set_option linter.unusedVariables false
set_option linter.unusedSimpArgs false
namespace Go.Proofs.YtdbmcikoiilanaaDoor.expoParses
open Go.RowKit Go.Proofs.YtdbmcikoiilanaaDoor.B0 Go.Proofs.YtdbmcikoiilanaaDoorW.PrintWords Go.Proofs.YtdbmcikoiilanaaDoor.Bld Go.Proofs.YtdbmcikoiilanaaDoor.Xp

theorem expoParses_walk (w : World) (hP : LP w) (s : ByteArray) (hs : s.size ≤ maxLen) :
    Calls Tryd.prog 4 #[.string s] w fun e w' => e = .returned (.bool true) ∧ Below w.heap.size w w' := parses_v alive_c w hP s hs
end Go.Proofs.YtdbmcikoiilanaaDoor.expoParses
