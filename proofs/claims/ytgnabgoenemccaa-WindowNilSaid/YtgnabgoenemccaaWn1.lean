/- window: who is over: the plain law. No program. -/
import Derived.Test.YtgnabgoenemccaaB0
set_option linter.unusedVariables false
namespace Go.Proofs.Ytgnabgoenemccaa.Wn
/-- is a window over? -/
def overN (w width late mark : Nat) : Bool := decide (0 < width ∧ (w + 1) * width + late ≤ mark)
theorem over_prog (w width late mark : Nat) (hw : w < 18446744073709551616) (hd : width < 18446744073709551616) (hl : late < 18446744073709551616) (hm : mark < 18446744073709551616) (next carry high low all more : Nat)
    (e1 : next = (w + 1) % 18446744073709551616) (e2 : carry = (w + 1) / 18446744073709551616) (e3 : high = next * width / 18446744073709551616) (e4 : low = next * width % 18446744073709551616)
    (e5 : all = (low + late) % 18446744073709551616) (e6 : more = (low + late) / 18446744073709551616) :
    (0 < width ∧ (carry + high + more) % 18446744073709551616 = 0 ∧ all ≤ mark) ↔ (0 < width ∧ (w + 1) * width + late ≤ mark) := by
  by_cases hc : w + 1 = 18446744073709551616
  · have hn : next = 0 := by rw [e1, hc]
    have hca : carry = 1 := by rw [e2, hc]
    have hh : high = 0 := by rw [e3, hn, Nat.zero_mul]
    have hlo : low = 0 := by rw [e4, hn, Nat.zero_mul]
    have hmo : more = 0 := by rw [e6, hlo]; omega
    constructor
    · rintro ⟨_, h, _⟩
      rw [hca, hh, hmo] at h; omega
    · rintro ⟨h0, h⟩
      rw [hc] at h
      have : 18446744073709551616 * 1 ≤ 18446744073709551616 * width := Nat.mul_le_mul_left _ h0
      omega
  · have hn : next = w + 1 := by rw [e1]; omega
    have hca : carry = 0 := by rw [e2]; omega
    have hp : next * width = 18446744073709551616 * high + low := by rw [e3, e4]; omega
    have hll : low < 18446744073709551616 := by rw [e4]; omega
    have hhb : high < 18446744073709551615 := by
      rw [e3]
      refine (Nat.div_lt_iff_lt_mul (by omega)).2 ?_
      have h1 : next * width ≤ next * 18446744073709551615 := Nat.mul_le_mul_left _ (by omega)
      have h2 : next * 18446744073709551615 ≤ 18446744073709551615 * 18446744073709551615 := Nat.mul_le_mul_right _ (by omega)
      omega
    have hq : (w + 1) * width = 18446744073709551616 * high + low := by rw [← hn]; exact hp
    rw [hq]
    have hmo : more ≤ 1 := by rw [e6]; omega
    constructor
    · rintro ⟨h0, h, h2⟩
      have : high = 0 ∧ more = 0 := by omega
      refine ⟨h0, ?_⟩
      omega
    · rintro ⟨h0, h⟩
      have : high = 0 := by omega
      refine ⟨h0, by omega, by omega⟩
theorem over_ref (w width late mark : Nat) : (¬ (width = 0 ∨ mark < late) ∧ w < (mark - late) / width) ↔ (0 < width ∧ (w + 1) * width + late ≤ mark) := by
  constructor
  · rintro ⟨h, h2⟩
    have hd : 0 < width := by omega
    have : (w + 1) * width ≤ mark - late := (Nat.le_div_iff_mul_le hd).1 h2
    omega
  · rintro ⟨hd, h⟩
    refine ⟨by omega, ?_⟩
    have : w + 1 ≤ (mark - late) / width := (Nat.le_div_iff_mul_le hd).2 (by omega)
    omega
theorem over_up (w width late mark : Nat) (h : overN w width late mark = true) : overN w width late (mark + 1) = true := by
  have h := of_decide_eq_true h
  exact decide_eq_true ⟨h.1, by omega⟩
theorem over_time (t width late mark : Nat) (h : overN (t / width) width late mark = true) : t < mark := by
  have h := of_decide_eq_true h
  have h1 := Nat.lt_div_mul_add h.1 (a := t)
  have h2 : (t / width + 1) * width = t / width * width + width := Nat.succ_mul _ _
  omega
theorem in_window (t width : Nat) (h : 0 < width) : t / width * width ≤ t ∧ t - t / width * width < width := by
  have h1 := Nat.lt_div_mul_add h (a := t)
  have h2 := Nat.div_mul_le_self t width
  omega
end Go.Proofs.Ytgnabgoenemccaa.Wn
