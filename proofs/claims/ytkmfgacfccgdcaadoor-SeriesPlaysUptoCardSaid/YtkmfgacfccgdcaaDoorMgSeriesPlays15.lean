/- SeriesPlays: the law's walk, the sort's contract put in. -/
import Derived.Test.YtkmfgacfccgdcaaDoorMgSeriesPlays11
import Derived.Test.YtkmfgacfccgdcaaDoorMgSeriesPlays14
namespace Go.Proofs.YtkmfgacfccgdcaaDoor.seriesPlays
open Go.RowKit Go.Proofs.YtkmfgacfccgdcaaDoor.B0 Go.Proofs.YtkmfgacfccgdcaaDoorW.PrintWords Go.Proofs.YtkmfgacfccgdcaaDoor.Sr
theorem seriesPlays_walk (w : World) (ht : tabP w) (a0 : Int) (w0 : (Lit.int .i64 a0).wf = true) (A1 : Option Addr) (c1 : Nat) (l1 : List (List ByteArray)) (C1 : Kd.C (Kd.slice 9 Kd.string) w A1 l1.length l1) (hc1 : l1.length ≤ c1) (m1 : l1.length ≤ maxLen) (W1 : ∀ x ∈ l1, x.length ≤ maxLen ∧ ∀ s ∈ x, s.size ≤ maxLen) (a2 : Int) (w2 : (Lit.int .i64 a2).wf = true) (hb : (l1.map tot).sum ≤ 1048576) :
    Calls Tryd.prog 4 #[.int .i64 a0, .slice A1 l1.length c1, .int .i64 a2] w fun e w' => e = .returned (.bool true) ∧ Below w.heap.size w w' :=
  seriesPlays_walk0 sortC sortN w ht a0 w0 A1 c1 l1 C1 hc1 m1 W1 a2 w2 hb
end Go.Proofs.YtkmfgacfccgdcaaDoor.seriesPlays
