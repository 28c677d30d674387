/- tallyroomlaw12.alive: the chapter's example is true. -/
import Derived.Test.YtfeikcfhionjkaaHq4
set_option linter.unusedVariables false
set_option linter.unusedSimpArgs false
namespace Go.Proofs.Ytfeikcfhionjkaa.Hp
open Go.RowKit Go.Proofs.Ytfeikcfhionjkaa.B0

set_option maxRecDepth 100000 in
set_option maxHeartbeats 4000000 in
theorem alive12 (w : World) : Calls Try.prog 10 #[] w fun e w' => e = .returned (.bool true) ∧ Fr [] w w' := by
  go_enter Try.func10, Try.ntmps10
  go_wp2_with fail
  refine (New_c w).mono ?_
  rintro e w0 ⟨q, fp0, rfl, hQ0, hF0, hn0⟩
  go_wp2_with fail
  refine (Put_q hQ0 1 9 (by decide)).mono ?_
  rintro e w1 ⟨rfl, fp1, hQ1, hn1, hF1⟩
  have e1 : decide ((1 : Int) ∉ ([] : List (Int × Int)).map Prod.fst) = true := by decide
  rw [e1]
  rw [show putS [] 1 9 = [(1, 9)] from by decide] at hQ1
  have H0 := Lib.hid hF0; clear hF0
  have H1 := Lib.hid hF1; clear hF1
  have N0 := Lib.hid hn0; clear hn0
  have N1 := Lib.hid hn1; clear hn1
  clear e1 hQ0
  go_wp2_with fail
  refine (Put_q hQ1 2 5 (by decide)).mono ?_
  rintro e w2 ⟨rfl, fp2, hQ2, hn2, hF2⟩
  rw [show putS [(1, 9)] 2 5 = [(2, 5), (1, 9)] from by decide] at hQ2
  have H2 := Lib.hid hF2; clear hF2
  have N2 := Lib.hid hn2; clear hn2
  clear hQ1
  go_wp2_with fail
  refine (Put_q hQ2 3 5 (by decide)).mono ?_
  rintro e w3 ⟨rfl, fp3, hQ3, hn3, hF3⟩
  rw [show putS [(2, 5), (1, 9)] 3 5 = [(2, 5), (3, 5), (1, 9)] from by decide] at hQ3
  have H3 := Lib.hid hF3; clear hF3
  have N3 := Lib.hid hn3; clear hn3
  clear hQ2
  go_wp2_with fail
  refine (First_q hQ3).mono ?_
  rintro e w4 ⟨rfl, nd, rfl⟩
  have hQ4 := hQ3.fr ((Fr.refl [] w3).drewN nd) (by simp)
  clear hQ3
  rw [show FirstR [(2, 5), (3, 5), (1, 9)] = .tuple #[.int .u64 2, .int .u64 5, .bool true] from rfl]
  go_wp2_with fail
  refine (Len_q hQ4).mono ?_
  rintro e w5 ⟨rfl, rfl⟩
  clear hQ4
  go_wp2_with fail
  go_ret
  refine ⟨rfl, ?_⟩
  have a1 : Fr [] w w1 := H0.out.trans' H1.out (fun k hk => .inr (N0.out k hk))
  have b1 : ∀ k, k ∈ fp1 → w.heap.size ≤ k := fun k hk => by
    rcases N1.out k hk with x | x
    · exact N0.out k x
    · have := H0.out.size; omega
  have a2 : Fr [] w w2 := a1.trans' H2.out (fun k hk => .inr (b1 k hk))
  have b2 : ∀ k, k ∈ fp2 → w.heap.size ≤ k := fun k hk => by
    rcases N2.out k hk with x | x
    · exact b1 k x
    · have := a1.size; omega
  exact (a2.trans' H3.out (fun k hk => .inr (b2 k hk))).drewN nd
end Go.Proofs.Ytfeikcfhionjkaa.Hp
