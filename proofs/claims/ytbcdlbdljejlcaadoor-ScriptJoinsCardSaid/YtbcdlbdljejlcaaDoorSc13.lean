/- script: the document's Check, as a Call. -/
import Derived.Test.YtbcdlbdljejlcaaDoorSc12
set_option linter.unusedVariables false
set_option linter.unusedSimpArgs false
namespace Go.Proofs.YtbcdlbdljejlcaaDoor.Sc
open Go.RowKit Go.Proofs.YtbcdlbdljejlcaaDoor.B0 Go.Proofs.YtbcdlbdljejlcaaDoor.Ps Go.Proofs.YtbcdlbdljejlcaaDoorW.PrintWords Go.Proofs.YtbcdlbdljejlcaaDoor.Bld

abbrev RStp := S35
/-- the document's as the program's. -/
def toS (x : RStp) : Stp := ⟨x.f0, x.f1, x.f2, x.f3⟩
def rstepV (x : RStp) (v : Value) : Value := .agg #[.int .i64 x.f0, .int .i64 x.f1, .int .i64 x.f2, v]
theorem natbeq (n : Nat) : ((n : Int) == 0) = (n == 0) := by rw [Bool.eq_iff_iff, beq_iff_eq, beq_iff_eq]; omega
def rcB (b : Bool) : Value := .int .i64 (if b then 0 else 1)

set_option maxHeartbeats 8000000 in
set_option maxRecDepth 100000 in
theorem rchk0 (w : World) (a b : Int) (A : Option Addr) (n c : Nat) (hn : n ≤ 3000) (b1 b2 b3 : Bool) (h1 : decide (0 ≤ a) = b1) (h2 : decide (a ≤ 15) = b2) (h3 : (b == 0) = b3) :
    Calls Tryd.prog 10 #[.agg #[.int .i64 0, .int .i64 a, .int .i64 b, .slice A n c]] w fun e w' => e = .returned (rcB (b1 && b2 && b3)) ∧ Below w.heap.size w w' := by
  have hb := Lib.hid ((Below.refl w.heap.size w).alloc (Nat.le_refl _) (.cells #[.int .i64 0, .int .i64 a, .int .i64 b, .slice A n c] 35))
  have hl : decide ((65536 : Int) < (n : Int)) = false := decide_eq_false (by omega)
  have hl2 : decide (65536 < n) = false := decide_eq_false (by omega)
  cases b1 <;> cases b2 <;> cases b3 <;>
  · go_enter Tryd.func10, Tryd.ntmps10
    go_wp2_with fail
    go_ret
    exact ⟨rfl, hb.out⟩
set_option maxHeartbeats 8000000 in
set_option maxRecDepth 100000 in
theorem rchk134 (w : World) (k a b : Int) (hk : k = 1 ∨ k = 3 ∨ k = 4) (A : Option Addr) (n c : Nat) (hn : n ≤ 3000) (b1 b2 b3 : Bool) (h1 : (a == 0) = b1) (h2 : (b == 0) = b2) (h3 : ((n : Int) == 0) = b3) (h4 : (n == 0) = b3) :
    Calls Tryd.prog 10 #[.agg #[.int .i64 k, .int .i64 a, .int .i64 b, .slice A n c]] w fun e w' => e = .returned (rcB (b1 && b2 && b3)) ∧ Below w.heap.size w w' := by
  have hb := Lib.hid ((Below.refl w.heap.size w).alloc (Nat.le_refl _) (.cells #[.int .i64 k, .int .i64 a, .int .i64 b, .slice A n c] 35))
  have hl : decide ((65536 : Int) < (n : Int)) = false := decide_eq_false (by omega)
  have hl2 : decide (65536 < n) = false := decide_eq_false (by omega)
  rcases hk with rfl | rfl | rfl <;> cases b1 <;> cases b2 <;> cases b3 <;>
  · go_enter Tryd.func10, Tryd.ntmps10
    go_wp2_with fail
    go_ret
    exact ⟨rfl, hb.out⟩
set_option maxHeartbeats 8000000 in
set_option maxRecDepth 100000 in
theorem rchk2 (w : World) (a b : Int) (A : Option Addr) (n c : Nat) (hn : n ≤ 3000) (b1 b2 b3 b4 : Bool) (h1 : (a == 0) = b1) (h2 : decide (0 ≤ b) = b2) (h3 : decide (b ≤ 63) = b3) (h4 : ((n : Int) == 0) = b4) (h5 : (n == 0) = b4) :
    Calls Tryd.prog 10 #[.agg #[.int .i64 2, .int .i64 a, .int .i64 b, .slice A n c]] w fun e w' => e = .returned (rcB (b1 && b2 && b3 && b4)) ∧ Below w.heap.size w w' := by
  have hb := Lib.hid ((Below.refl w.heap.size w).alloc (Nat.le_refl _) (.cells #[.int .i64 2, .int .i64 a, .int .i64 b, .slice A n c] 35))
  have hl : decide ((65536 : Int) < (n : Int)) = false := decide_eq_false (by omega)
  have hl2 : decide (65536 < n) = false := decide_eq_false (by omega)
  cases b1 <;> cases b2 <;> cases b3 <;> cases b4 <;>
  · go_enter Tryd.func10, Tryd.ntmps10
    go_wp2_with fail
    go_ret
    exact ⟨rfl, hb.out⟩
set_option maxHeartbeats 8000000 in
set_option maxRecDepth 100000 in
theorem rchkX (w : World) (k a b : Int) (A : Option Addr) (n c : Nat) (h0 : (k == 0) = false) (h1 : (k == 1) = false) (h2 : (k == 2) = false) (h3 : (k == 3) = false) (h4 : (k == 4) = false) :
    Calls Tryd.prog 10 #[.agg #[.int .i64 k, .int .i64 a, .int .i64 b, .slice A n c]] w fun e w' => e = .returned (rcB false) ∧ Below w.heap.size w w' := by
  have hb := Lib.hid ((Below.refl w.heap.size w).alloc (Nat.le_refl _) (.cells #[.int .i64 k, .int .i64 a, .int .i64 b, .slice A n c] 35))
  go_enter Tryd.func10, Tryd.ntmps10
  go_wp2_with fail
  go_ret
  exact ⟨rfl, hb.out⟩
/-- the document's Check, at steps that are not long. -/
theorem RCheck_c (x : RStp) (hl : x.f3.length ≤ 3000) (A : Option Addr) (c : Nat) (w : World) :
    ∃ r : Int, (r = 0 ∨ r = 1) ∧ (r = 0 ↔ okS (toS x)) ∧ Calls Tryd.prog 10 #[rstepV x (.slice A x.f3.length c)] w fun e w' => e = .returned (.int .i64 r) ∧ Below w.heap.size w w' := by
  obtain ⟨k, a, b, l⟩ := x
  have hl0 : l = [] ↔ l.length = 0 := ⟨fun h => by rw [h]; rfl, List.eq_nil_of_length_eq_zero⟩
  have fin : ∀ (q : Bool) (p : Prop), (q = true ↔ p) → Calls Tryd.prog 10 #[.agg #[.int .i64 k, .int .i64 a, .int .i64 b, .slice A l.length c]] w (fun e w' => e = .returned (rcB q) ∧ Below w.heap.size w w') →
      ∃ r : Int, (r = 0 ∨ r = 1) ∧ (r = 0 ↔ p) ∧ Calls Tryd.prog 10 #[.agg #[.int .i64 k, .int .i64 a, .int .i64 b, .slice A l.length c]] w fun e w' => e = .returned (.int .i64 r) ∧ Below w.heap.size w w' := by
    intro q p hqp h
    refine ⟨if q then 0 else 1, by cases q <;> simp, ?_, h⟩
    rw [← hqp]; cases q <;> simp
  have hl' : l.length ≤ 3000 := hl
  by_cases k0 : k = 0
  · subst k0
    refine fin _ _ ?_ (rchk0 w a b A l.length c hl _ _ _ rfl rfl rfl)
    dsimp only [okS, toS]
    simp only [hl0, Bool.and_eq_true, decide_eq_true_iff, beq_iff_eq, true_and]
    omega
  by_cases k2 : k = 2
  · subst k2
    refine fin _ _ ?_ (rchk2 w a b A l.length c hl _ _ _ (l.length == 0) rfl rfl rfl (natbeq _) rfl)
    dsimp only [okS, toS]
    simp only [hl0, Bool.and_eq_true, decide_eq_true_iff, beq_iff_eq, true_and]
    omega
  by_cases k1 : k = 1 ∨ k = 3 ∨ k = 4
  · refine fin _ _ ?_ (rchk134 w k a b k1 A l.length c hl _ _ (l.length == 0) rfl rfl (natbeq _) rfl)
    dsimp only [okS, toS]
    simp only [hl0, Bool.and_eq_true, decide_eq_true_iff, beq_iff_eq, true_and]
    omega
  · refine fin _ _ ?_ (rchkX w k a b A l.length c (beq_eq_false_iff_ne.2 k0) (beq_eq_false_iff_ne.2 (fun h => k1 (.inl h))) (beq_eq_false_iff_ne.2 k2) (beq_eq_false_iff_ne.2 (fun h => k1 (.inr (.inl h)))) (beq_eq_false_iff_ne.2 (fun h => k1 (.inr (.inr h)))))
    dsimp only [okS, toS]
    simp only [hl0]
    constructor
    · intro h; cases h
    · intro h; omega
end Go.Proofs.YtbcdlbdljejlcaaDoor.Sc
