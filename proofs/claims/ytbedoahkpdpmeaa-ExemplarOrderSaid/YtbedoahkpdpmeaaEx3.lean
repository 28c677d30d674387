/- exemplar.order as a function; it is a strict total order. -/
import Derived.Test.YtbedoahkpdpmeaaPe14
import Derived.Test.YtbedoahkpdpmeaaEx2
set_option linter.unusedVariables false
set_option linter.unusedSimpArgs false
namespace Go.Proofs.Ytbedoahkpdpmeaa.Ex
open Go.RowKit Go.Proofs.Ytbedoahkpdpmeaa.B0 Go.Proofs.Ytbedoahkpdpmeaa.Pe Go.Proofs.YtbedoahkpdpmeaaW.PrintWords

abbrev One := S31
def cf (a b : Int) : Int := if a < b then -1 else if a > b then 1 else 0
def fi (b : Bool) : Int := if b = true then 0 else 1
def orE (a b : Int) : Int := if a = 0 then b else a
def ordE (x y : One) : Int := orE (cf (fi x.f3) (fi y.f3)) (orE (cf y.f2 x.f2) (orE (cf x.f0 y.f0) (cf x.f1 y.f1)))

theorem cmp_i (a b : Int) : cmp_Compare_int.f a b = some (cf a b) := by
  unfold cmp_Compare_int.f cmp_isNaN_int.f cf
  simp only [Option.bind_some, bne_self_eq_false, Bool.false_eq_true, if_false]
  split
  · rfl
  · split <;> rfl
theorem cmp_u (a b : Int) : cmp_Compare_uint64.f a b = some (cf a b) := by
  unfold cmp_Compare_uint64.f cmp_isNaN_uint64.f cf
  simp only [Option.bind_some, bne_self_eq_false, Bool.false_eq_true, if_false]
  split
  · rfl
  · split <;> rfl
theorem or4 (a b c d : Int) : cmp_Or_int.f 6 [a, b, c, d] = some (orE a (orE b (orE c d))) := by
  have w1 : wrap64 1 = 1 := by kernel_rfl
  have w2 : wrap64 2 = 2 := by kernel_rfl
  have w3 : wrap64 3 = 3 := by kernel_rfl
  have w4 : wrap64 4 = 4 := by kernel_rfl
  unfold orE
  simp only [cmp_Or_int.f, cmp_Or_int.l0, List.length_cons, List.length_nil]
  by_cases ha : a = 0
  · by_cases hb : b = 0
    · by_cases hc : c = 0
      · by_cases hd : d = 0 <;> simp [rd, w1, w2, w3, w4, ha, hb, hc, hd]
      · simp [rd, w1, w2, w3, w4, ha, hb, hc]
    · simp [rd, w1, w2, w3, w4, ha, hb]
  · simp [rd, w1, w2, w3, w4, ha]
theorem order_f (x y : One) : exemplar_order.f 6 x.f0 x.f1 x.f2 x.f3 y.f0 y.f1 y.f2 y.f3 = some (ordE x y) := by
  have e : ∀ b, exemplar_first.f b = some (fi b) := fun b => by unfold exemplar_first.f fi; cases b <;> rfl
  unfold exemplar_order.f
  simp only [e, cmp_i, cmp_u, Option.bind_some, or4]
  rfl

def one4 (x : One) : List Value := [.int .u64 x.f0, .int .u64 x.f1, .int .u64 x.f2, .bool x.f3]
theorem order_c (x y : One) (w : World) : Calls Try.prog 18 #[.agg #[.int .u64 x.f0, .int .u64 x.f1, .int .u64 x.f2, .bool x.f3], .agg #[.int .u64 y.f0, .int .u64 y.f1, .int .u64 y.f2, .bool y.f3]] w fun e w' => e = .returned (.int .i64 (ordE x y)) ∧ Below w.heap.size w w' :=
  exemplar_order.calls 6 _ _ _ _ _ _ _ _ _ w (order_f x y)
theorem better_c (x y : One) (w : World) : Calls Try.prog 12 #[.agg #[.int .u64 x.f0, .int .u64 x.f1, .int .u64 x.f2, .bool x.f3], .agg #[.int .u64 y.f0, .int .u64 y.f1, .int .u64 y.f2, .bool y.f3]] w fun e w' => e = .returned (.bool (decide (ordE x y < 0))) ∧ Below w.heap.size w w' :=
  exemplar_Better.calls 6 _ _ _ _ _ _ _ _ _ w (by unfold exemplar_Better.f; rw [order_f]; rfl)

def lt4 (x y : One) : Prop := fi x.f3 < fi y.f3 ∨ fi x.f3 = fi y.f3 ∧ (y.f2 < x.f2 ∨ y.f2 = x.f2 ∧ (x.f0 < y.f0 ∨ x.f0 = y.f0 ∧ x.f1 < y.f1))
theorem cf_lt {a b : Int} : cf a b < 0 ↔ a < b := by unfold cf; split <;> (try split) <;> simp_all <;> omega
theorem cf_eq {a b : Int} : cf a b = 0 ↔ a = b := by unfold cf; split <;> (try split) <;> simp_all <;> omega
theorem orE_lt {a b : Int} : orE a b < 0 ↔ a < 0 ∨ a = 0 ∧ b < 0 := by unfold orE; split <;> simp_all <;> omega
theorem ordE_lt (x y : One) : ordE x y < 0 ↔ lt4 x y := by
  unfold ordE lt4
  simp only [orE_lt, cf_lt, cf_eq]
theorem fi_inj {a b : Bool} (h : fi a = fi b) : a = b := by cases a <;> cases b <;> simp_all [fi]
theorem lt4_irrefl (x : One) : ¬ lt4 x x := by unfold lt4; omega
theorem lt4_trans {x y z : One} (h1 : lt4 x y) (h2 : lt4 y z) : lt4 x z := by unfold lt4 at *; omega
theorem lt4_total {x y : One} (h : x ≠ y) : lt4 x y ∨ lt4 y x := by
  by_cases e : fi x.f3 = fi y.f3 ∧ x.f2 = y.f2 ∧ x.f0 = y.f0 ∧ x.f1 = y.f1
  · obtain ⟨e1, e2, e3, e4⟩ := e
    exfalso; apply h
    obtain ⟨a, b, c, d⟩ := x
    obtain ⟨a', b', c', d'⟩ := y
    simp only at *
    rw [e2, e3, e4, fi_inj e1]
  · unfold lt4; omega
end Go.Proofs.Ytbedoahkpdpmeaa.Ex
