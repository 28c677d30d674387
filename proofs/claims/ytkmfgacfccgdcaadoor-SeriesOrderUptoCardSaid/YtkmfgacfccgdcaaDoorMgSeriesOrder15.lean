/- SeriesOrder: the law's walk, the sort's contract put in. -/
import Derived.Test.YtkmfgacfccgdcaaDoorMgSeriesOrder11
import Derived.Test.YtkmfgacfccgdcaaDoorMgSeriesOrder14
namespace Go.Proofs.YtkmfgacfccgdcaaDoor.seriesOrder
open Go.RowKit Go.Proofs.YtkmfgacfccgdcaaDoor.B0 Go.Proofs.YtkmfgacfccgdcaaDoorW.PrintWords Go.Proofs.YtkmfgacfccgdcaaDoor.Sr
theorem seriesOrder_walk (w : World) (ht : tabP w) (A0 : Option Addr) (c0 : Nat) (l0 : List (List ByteArray)) (C0 : Kd.C (Kd.slice 9 Kd.string) w A0 l0.length l0) (hc0 : l0.length ≤ c0) (m0 : l0.length ≤ maxLen) (W0 : ∀ x ∈ l0, x.length ≤ maxLen ∧ ∀ s ∈ x, s.size ≤ maxLen) (a1 : Int) (w1 : (Lit.int .u8 a1).wf = true)
    (A2 : Option Addr) (c2 : Nat) (l2 : List ByteArray) (C2 : Kd.C Kd.string w A2 l2.length l2) (hc2 : l2.length ≤ c2) (m2 : l2.length ≤ maxLen) (W2 : ∀ x ∈ l2, x.size ≤ maxLen)
    (A3 : Option Addr) (c3 : Nat) (l3 : List ByteArray) (C3 : Kd.C Kd.string w A3 l3.length l3) (hc3 : l3.length ≤ c3) (m3 : l3.length ≤ maxLen) (W3 : ∀ x ∈ l3, x.size ≤ maxLen)
    (A4 : Option Addr) (c4 : Nat) (l4 : List ByteArray) (C4 : Kd.C Kd.string w A4 l4.length l4) (hc4 : l4.length ≤ c4) (m4 : l4.length ≤ maxLen) (W4 : ∀ x ∈ l4, x.size ≤ maxLen) (hb : (l0.map tot1).sum + tot1 l2 + tot1 l3 + tot1 l4 ≤ 1048576) :
    Calls Tryd.prog 5 #[.slice A0 l0.length c0, .int .u8 a1, .slice A2 l2.length c2, .slice A3 l3.length c3, .slice A4 l4.length c4] w fun e w' => e = .returned (.bool true) ∧ Below w.heap.size w w' :=
  seriesOrder_walk0 sortC sortN w ht A0 c0 l0 C0 hc0 m0 W0 a1 w1 A2 c2 l2 C2 hc2 m2 W2 A3 c3 l3 C3 hc3 m3 W3 A4 c4 l4 C4 hc4 m4 W4 hb
end Go.Proofs.YtkmfgacfccgdcaaDoor.seriesOrder
