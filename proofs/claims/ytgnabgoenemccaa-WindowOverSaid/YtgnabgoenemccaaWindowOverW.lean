/- WindowOver: the law's walk. -/
import Derived.Test.YtgnabgoenemccaaWn8
import Derived.Test.YtgnabgoenemccaaOp
set_option linter.unusedVariables false
set_option linter.unusedSimpArgs false
namespace Go.Proofs.Ytgnabgoenemccaa.windowOver
open Go.RowKit Go.Proofs.Ytgnabgoenemccaa.B0 Go.Proofs.Ytgnabgoenemccaa.Wn
set_option maxHeartbeats 4000000 in
set_option maxRecDepth 100000 in
theorem over_walkN (w : World) (t a d l m : Nat) (ht : t < 18446744073709551616) (ha : a < 18446744073709551616) (hd : d < 18446744073709551616) (hl : l < 18446744073709551616) (hm : m < 18446744073709551616) :
    Calls Try.prog 3 #[.int .u64 t, .int .u64 a, .int .u64 d, .int .u64 l, .int .u64 m] w fun e w' => e = .returned (.bool true) ∧ Below w.heap.size w w' := by
  have HB := Lib.hid (And.intro ht (And.intro ha (And.intro hd (And.intro hl hm)))); clear ha hl
  obtain ⟨ov, hov⟩ : ∃ ov, Hid (overN a d l m = ov) := ⟨_, rfl⟩
  obtain ⟨n, hn⟩ : ∃ n, Hid (t / d = n) := ⟨_, rfl⟩
  have hne : (ov != ov) = false := by cases ov <;> rfl
  have HO : Hid (∀ W, Calls Try.prog 8 #[.int .u64 a, .int .u64 d, .int .u64 l, .int .u64 m] W fun e w' => e = .returned (.bool ov) ∧ w' = W) := fun W => by
    have h := Over_c a d l m HB.out.2.1 HB.out.2.2.1 HB.out.2.2.2.1 HB.out.2.2.2.2 W
    rw [hov.out] at h; exact h
  have HR : Hid (∀ W, Calls Try.prog 9 #[.int .u64 a, .int .u64 d, .int .u64 l, .int .u64 m] W fun e w' => e = .returned (.bool ov) ∧ w' = W) := fun W => by
    have h := ROver_c a d l m HB.out.2.1 HB.out.2.2.1 HB.out.2.2.2.1 HB.out.2.2.2.2 W
    rw [hov.out] at h; exact h
  have HF : Hid (∀ W, Calls Try.prog 10 #[.int .u64 t, .int .u64 d] W fun e w' => e = .returned (.int .u64 (n : Int)) ∧ w' = W) := fun W => by
    have h := WOf_c t d HB.out.1 W
    rw [hn.out] at h; exact h
  go_enter Try.func3, Try.ntmps3
  go_wp2_with fail
  refine (alive19 w).mono ?_
  rintro e wa ⟨rfl, hFa⟩
  have HFa := Lib.hid hFa; clear hFa
  go_wp2_with fail
  refine (HO.out _).mono ?_
  rintro e w1 ⟨rfl, hw⟩; subst hw
  go_wp2_with fail
  refine (HR.out _).mono ?_
  rintro e w2 ⟨rfl, hw⟩; subst hw
  by_cases h0 : d = 0
  · have f0 : ((d : Int) == 0) = true := by rw [h0]; rfl
    have hov0 : ov = false := by rw [← hov.out]; unfold overN; exact decide_eq_false (by omega)
    have hn0 : n = 0 := by rw [← hn.out, h0]; simp
    subst hov0 hn0
    clear h0 hd ht hm
    go_wp2_with fail
    refine (HF.out _).mono ?_
    rintro e w1 ⟨rfl, hw⟩; subst hw
    go_wp2_with fail
    refine (HO.out _).mono ?_
    rintro e w1 ⟨rfl, hw⟩; subst hw
    go_wp2_with fail
    go_ret
    exact ⟨rfl, HFa.out⟩
  have f0 : ((d : Int) == 0) = false := by rw [beq_eq_false_iff_ne]; omega
  go_wp2_with fail
  refine (HF.out _).mono ?_
  rintro e w1 ⟨rfl, hw⟩; subst hw
  obtain ⟨q, hq, hq1, hq2⟩ : ∃ q, Hid (n * d = q) ∧ q ≤ t ∧ t - q < d := by
    have := in_window t d (by omega)
    rw [hn.out] at this
    exact ⟨_, rfl, this.1, this.2⟩
  have e1 : IntKind.u64.wrap ((n : Int) * (d : Int)) = (q : Int) := by
    rw [IntKind.wrap_u64, ← Int.natCast_mul, hq.out]; omega
  have f1 : decide ((t : Int) < (q : Int)) = false := decide_eq_false (by omega)
  have f1' : decide (t < q) = false := decide_eq_false (by omega)
  have f2 : decide ((d : Int) ≤ (t : Int) - (q : Int)) = false := decide_eq_false (by omega)
  have e2 : IntKind.u64.wrap ((t : Int) - (q : Int)) = (t : Int) - (q : Int) := by rw [IntKind.wrap_u64]; omega
  have HQ := Lib.hid (And.intro hq1 (And.intro hq2 (And.intro h0 (And.intro hd (And.intro ht hm))))); clear hq1 hq2 h0 hd ht hm
  go_wp2_with fail
  refine (HO.out _).mono ?_
  rintro e w1 ⟨rfl, hw⟩; subst hw
  obtain ⟨on, hon⟩ : ∃ on, Hid (overN n d l m = on) := ⟨_, rfl⟩
  have hnb : n < 18446744073709551616 := by rw [← hn.out]; exact Nat.lt_of_le_of_lt (Nat.div_le_self _ _) HB.out.1
  have HN : Hid (∀ W, Calls Try.prog 8 #[.int .u64 n, .int .u64 d, .int .u64 l, .int .u64 m] W fun e w' => e = .returned (.bool on) ∧ w' = W) := fun W => by
    have h := Over_c n d l m hnb HB.out.2.2.1 HB.out.2.2.2.1 HB.out.2.2.2.2 W
    rw [hon.out] at h; exact h
  clear hnb
  have HT : Hid (on = true → t < m) := fun h => by
    subst h
    refine over_time t d l m ?_
    rw [hn.out]; exact hon.out
  by_cases hmm : m < 18446744073709551615
  · have f3 : decide ((m : Int) < 18446744073709551615) = true := decide_eq_true (by omega)
    have f3' : decide (m < 18446744073709551615) = true := decide_eq_true hmm
    have e3 : IntKind.u64.wrap ((m : Int) + 1) = ((m + 1 : Nat) : Int) := by rw [IntKind.wrap_u64]; omega
    have HU : Hid (ov = true → ∀ W, Calls Try.prog 8 #[.int .u64 a, .int .u64 d, .int .u64 l, .int .u64 ((m : Int) + 1)] W fun e w' => e = .returned (.bool true) ∧ w' = W) := fun ho W => by
      have h := Over_c a d l (m + 1) HB.out.2.1 HB.out.2.2.1 HB.out.2.2.2.1 (by omega) W
      have hh := over_up a d l m (by rw [hov.out]; exact ho)
      rw [hh] at h; exact h
    have HMM := Lib.hid hmm
    cases ov with
    | true =>
      go_wp2_with fail
      refine (HU.out (by first | rfl | trivial) _).mono ?_
      rintro e w1 ⟨rfl, hw⟩; subst hw
      go_wp2_with fail
      refine (HN.out _).mono ?_
      rintro e w1 ⟨rfl, hw⟩; subst hw
      cases on with
      | true =>
        have f4 : decide ((t : Int) < (m : Int)) = true := decide_eq_true (by have := HT.out rfl; omega)
        have f4' : decide (t < m) = true := decide_eq_true (HT.out rfl)
        go_wp2_with fail
        go_ret
        exact ⟨rfl, HFa.out⟩
      | false =>
        go_wp2_with fail
        go_ret
        exact ⟨rfl, HFa.out⟩
    | false =>
      go_wp2_with fail
      refine (HN.out _).mono ?_
      rintro e w1 ⟨rfl, hw⟩; subst hw
      cases on with
      | true =>
        have f4 : decide ((t : Int) < (m : Int)) = true := decide_eq_true (by have := HT.out rfl; omega)
        have f4' : decide (t < m) = true := decide_eq_true (HT.out rfl)
        go_wp2_with fail
        go_ret
        exact ⟨rfl, HFa.out⟩
      | false =>
        go_wp2_with fail
        go_ret
        exact ⟨rfl, HFa.out⟩
  · have f3 : decide ((m : Int) < 18446744073709551615) = false := decide_eq_false (by omega)
    clear hmm
    cases ov with
    | true =>
      go_wp2_with fail
      refine (HN.out _).mono ?_
      rintro e w1 ⟨rfl, hw⟩; subst hw
      cases on with
      | true =>
        have f4 : decide ((t : Int) < (m : Int)) = true := decide_eq_true (by have := HT.out rfl; omega)
        have f4' : decide (t < m) = true := decide_eq_true (HT.out rfl)
        go_wp2_with fail
        go_ret
        exact ⟨rfl, HFa.out⟩
      | false =>
        go_wp2_with fail
        go_ret
        exact ⟨rfl, HFa.out⟩
    | false =>
      go_wp2_with fail
      refine (HN.out _).mono ?_
      rintro e w1 ⟨rfl, hw⟩; subst hw
      cases on with
      | true =>
        have f4 : decide ((t : Int) < (m : Int)) = true := decide_eq_true (by have := HT.out rfl; omega)
        have f4' : decide (t < m) = true := decide_eq_true (HT.out rfl)
        go_wp2_with fail
        go_ret
        exact ⟨rfl, HFa.out⟩
      | false =>
        go_wp2_with fail
        go_ret
        exact ⟨rfl, HFa.out⟩
theorem nat_of {k : IntKind} {a : Int} (h : (Lit.int k a).wf = true) (hk : k = .u64) : ∃ n : Nat, a = n ∧ n < 18446744073709551616 := by
  subst hk
  have h2 : IntKind.u64.min ≤ a ∧ a ≤ IntKind.u64.max := by simpa [Lit.wf] using h
  rw [show IntKind.u64.min = 0 from by decide, show IntKind.u64.max = 18446744073709551615 from by decide] at h2
  exact ⟨a.toNat, by omega, by omega⟩
theorem windowOver_walk (w : World) (a0 : Int) (w0 : (Lit.int .u64 a0).wf = true) (a1 : Int) (w1 : (Lit.int .u64 a1).wf = true) (a2 : Int) (w2 : (Lit.int .u64 a2).wf = true) (a3 : Int) (w3 : (Lit.int .u64 a3).wf = true) (a4 : Int) (w4 : (Lit.int .u64 a4).wf = true) :
    Calls Try.prog 3 #[.int .u64 a0, .int .u64 a1, .int .u64 a2, .int .u64 a3, .int .u64 a4] w fun e w' => e = .returned (.bool true) ∧ Below w.heap.size w w' := by
  obtain ⟨n0, rfl, h0⟩ := nat_of w0 rfl
  obtain ⟨n1, rfl, h1⟩ := nat_of w1 rfl
  obtain ⟨n2, rfl, h2⟩ := nat_of w2 rfl
  obtain ⟨n3, rfl, h3⟩ := nat_of w3 rfl
  obtain ⟨n4, rfl, h4⟩ := nat_of w4 rfl
  exact over_walkN w n0 n1 n2 n3 n4 h0 h1 h2 h3 h4
end Go.Proofs.Ytgnabgoenemccaa.windowOver
