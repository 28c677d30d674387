/- window: Over and Of, the program's and the document's, as Calls. -/
import Derived.Test.YtgnabgoenemccaaWn1
import Derived.Test.YtgnabgoenemccaaSh
import Derived.Test.YtgnabgoenemccaaProg
import Derived.Shelf.Spec.BitsCarry
set_option linter.unusedVariables false
set_option linter.unusedSimpArgs false
namespace Go.Proofs.Ytgnabgoenemccaa.Wn
open Go.RowKit Go.Proofs.Ytgnabgoenemccaa.B0

def adR : Go.Shelf.Ren := ⟨fun | 25 => 29 | n => n, fun | 22 => 22 | n => n, fun | n => n⟩
theorem adL : Go.Proofs.Lays7.n25 Try.prog adR := {
  mixed := by kernel_rfl
  f25 := Try.func29.trans (congrArg some (by kernel_rfl))
  t22 := Try.underlying22
  a22 := Try.isAgg22
  z22 := Try.sizeOf22
  v22 := Try.zeroValue22
  i22 := by kernel_rfl }
theorem add64 (x y : Nat) (w : World) :
    (callFunc 29 #[.int .u64 (x : Int), .int .u64 (y : Int), .int .u64 0]).run Try.prog w = .ok (.value (.tuple #[.int .u64 (((x + y) % 18446744073709551616 : Nat) : Int), .int .u64 (((x + y) / 18446744073709551616 : Nat) : Int)])) w :=
  Any7.bits_Add64 adL x y 0 (by omega) w
set_option maxHeartbeats 4000000 in
set_option maxRecDepth 100000 in
theorem Over_c (a d l m : Nat) (ha : a < 18446744073709551616) (hd : d < 18446744073709551616) (hl : l < 18446744073709551616) (hm : m < 18446744073709551616) (w : World) :
    Calls Try.prog 8 #[.int .u64 a, .int .u64 d, .int .u64 l, .int .u64 m] w fun e w' => e = .returned (.bool (overN a d l m)) ∧ w' = w := by
  obtain ⟨nx, hnx⟩ : ∃ nx, Hid ((a + 1) % 18446744073709551616 = nx ∧ nx < 18446744073709551616) := ⟨_, rfl, Nat.mod_lt _ (by omega)⟩
  obtain ⟨cy, hcy⟩ : ∃ cy, Hid ((a + 1) / 18446744073709551616 = cy ∧ cy ≤ 1) := ⟨_, rfl, by show _ ≤ _; omega⟩
  obtain ⟨hi, hhi⟩ : ∃ hi, Hid (nx * d / 18446744073709551616 = hi ∧ hi < 18446744073709551615) := ⟨_, rfl, by
    refine (Nat.div_lt_iff_lt_mul (by omega)).2 ?_
    have h1 : nx * d ≤ nx * 18446744073709551615 := Nat.mul_le_mul_left _ (by omega)
    have h2 : nx * 18446744073709551615 ≤ 18446744073709551615 * 18446744073709551615 := Nat.mul_le_mul_right _ (by have := hnx.out.2; omega)
    omega⟩
  obtain ⟨lo, hlo⟩ : ∃ lo, Hid (nx * d % 18446744073709551616 = lo ∧ lo < 18446744073709551616) := ⟨_, rfl, Nat.mod_lt _ (by omega)⟩
  obtain ⟨al, hal⟩ : ∃ al, Hid ((lo + l) % 18446744073709551616 = al ∧ al < 18446744073709551616) := ⟨_, rfl, Nat.mod_lt _ (by omega)⟩
  obtain ⟨mo, hmo⟩ : ∃ mo, Hid ((lo + l) / 18446744073709551616 = mo ∧ mo ≤ 1) := ⟨_, rfl, by have := hlo.out.2; show _ ≤ _; omega⟩
  have hq1 : ∀ W, (callFunc 29 #[.int .u64 (a : Int), .int .u64 1, .int .u64 0]).run Try.prog W = .ok (.value (.tuple #[.int .u64 (nx : Int), .int .u64 (cy : Int)])) W := fun W => by
    have h := add64 a 1 W
    rw [hnx.out.1, hcy.out.1] at h; exact h
  have hq2 : ∀ W, (callFunc 29 #[.int .u64 (lo : Int), .int .u64 (l : Int), .int .u64 0]).run Try.prog W = .ok (.value (.tuple #[.int .u64 (al : Int), .int .u64 (mo : Int)])) W := fun W => by
    have h := add64 lo l W
    rw [hal.out.1, hmo.out.1] at h; exact h
  have HM : Hid (∀ W, Calls Try.prog 30 #[.int .u64 (nx : Int), .int .u64 (d : Int)] W fun e w' => e = .returned (.tuple #[.int .u64 (hi : Int), .int .u64 (lo : Int)]) ∧ w' = W) := fun W => by
    have h := Try.bits_Mul64 nx d hnx.out.2 hd W
    rw [hhi.out.1, hlo.out.1] at h; exact h
  have HP := Lib.hid (over_prog a d l m ha hd hl hm nx cy hi lo al mo hnx.out.1.symm hcy.out.1.symm hhi.out.1.symm hlo.out.1.symm hal.out.1.symm hmo.out.1.symm)
  go_enter Try.func8, Try.ntmps8
  go_wp2_with fail
  refine (HM.out w).mono ?_
  rintro e w2 ⟨rfl, hw2⟩
  subst hw2
  clear hq1
  have hwr : IntKind.u64.wrap (IntKind.u64.wrap ((cy : Int) + (hi : Int)) + (mo : Int)) = (((cy + hi + mo) % 18446744073709551616 : Nat) : Int) := by
    rw [IntKind.wrap_u64, IntKind.wrap_u64]; omega
  have HWR := Lib.hid hwr; clear hwr
  by_cases hd0 : 0 < d
  · have f1 : decide ((0 : Int) < (d : Int)) = true := decide_eq_true (by omega)
    have f2 : decide (0 < d) = true := decide_eq_true hd0
    by_cases hz : (cy + hi + mo) % 18446744073709551616 = 0
    · have f3 : (IntKind.u64.wrap (IntKind.u64.wrap ((cy : Int) + (hi : Int)) + (mo : Int)) == 0) = true := by rw [HWR.out, hz]; rfl
      have HF : Hid (decide (al ≤ m) = overN a d l m) := by
        show _ = _
        unfold overN
        have h := HP.out
        by_cases hle : al ≤ m
        · rw [decide_eq_true hle, decide_eq_true (h.1 ⟨hd0, hz, hle⟩)]
        · rw [decide_eq_false hle, decide_eq_false (fun hh => hle (h.2 hh).2.2)]
      clear hz hd0
      go_wp2_with fail
      go_ret
      exact ⟨by rw [← HF.out]; rfl, rfl⟩
    · have f3 : (IntKind.u64.wrap (IntKind.u64.wrap ((cy : Int) + (hi : Int)) + (mo : Int)) == 0) = false := by rw [HWR.out, beq_eq_false_iff_ne]; omega
      have HF : Hid (overN a d l m = false) := by
        show _ = _
        unfold overN
        exact decide_eq_false (fun hh => hz (HP.out.2 hh).2.1)
      clear hz hd0
      go_wp2_with fail
      go_ret
      exact ⟨by rw [HF.out]; rfl, rfl⟩
  · have f1 : decide ((0 : Int) < (d : Int)) = false := decide_eq_false (by omega)
    have f2 : decide (0 < d) = false := decide_eq_false hd0
    have HF : Hid (overN a d l m = false) := by
      show _ = _
      unfold overN
      exact decide_eq_false (fun hh => hd0 hh.1)
    clear hd0
    go_wp2_with fail
    go_ret
    exact ⟨by rw [HF.out]; rfl, rfl⟩
set_option maxHeartbeats 4000000 in
set_option maxRecDepth 100000 in
theorem ROver_c (a d l m : Nat) (ha : a < 18446744073709551616) (hd : d < 18446744073709551616) (hl : l < 18446744073709551616) (hm : m < 18446744073709551616) (w : World) :
    Calls Try.prog 9 #[.int .u64 a, .int .u64 d, .int .u64 l, .int .u64 m] w fun e w' => e = .returned (.bool (overN a d l m)) ∧ w' = w := by
  have HP := Lib.hid (over_ref a d l m)
  by_cases h0 : d = 0
  · have f1 : ((d : Int) == 0) = true := by rw [h0]; rfl
    have HF : Hid (overN a d l m = false) := by
      show _ = _
      unfold overN
      exact decide_eq_false (fun hh => by omega)
    clear h0
    go_enter Try.func9, Try.ntmps9
    go_wp2_with fail
    go_ret
    exact ⟨by rw [HF.out]; rfl, rfl⟩
  have f1 : ((d : Int) == 0) = false := by rw [beq_eq_false_iff_ne]; omega
  by_cases hml : m < l
  · have f2 : decide ((m : Int) < (l : Int)) = true := decide_eq_true (by omega)
    have f3 : decide (m < l) = true := decide_eq_true hml
    have HF : Hid (overN a d l m = false) := by
      show _ = _
      unfold overN
      exact decide_eq_false (fun hh => by omega)
    clear h0 hml
    go_enter Try.func9, Try.ntmps9
    go_wp2_with fail
    go_ret
    exact ⟨by rw [HF.out]; rfl, rfl⟩
  have f2 : decide ((m : Int) < (l : Int)) = false := decide_eq_false (by omega)
  have f3 : decide (m < l) = false := decide_eq_false hml
  go_enter Try.func9, Try.ntmps9
  go_wp2_with fail
  go_ret
  have HF : Hid (decide ((a : Int) < ((m : Int) - (l : Int)) / (d : Int)) = overN a d l m) := by
    show _ = _
    unfold overN
    have hc : (((m - l) / d : Nat) : Int) = ((m : Int) - (l : Int)) / (d : Int) := by
      rw [Int.natCast_ediv, Int.ofNat_sub (by omega)]
    rw [← hc]
    have h := HP.out
    by_cases hle : a < (m - l) / d
    · rw [decide_eq_true (by omega), decide_eq_true (h.1 ⟨by omega, hle⟩)]
    · rw [decide_eq_false (by omega), decide_eq_false (fun hh => hle (h.2 hh).2)]
  exact ⟨by rw [← HF.out]; rfl, rfl⟩
set_option maxHeartbeats 4000000 in
set_option maxRecDepth 100000 in
theorem WOf_c (t d : Nat) (ht : t < 18446744073709551616) (w : World) :
    Calls Try.prog 10 #[.int .u64 t, .int .u64 d] w fun e w' => e = .returned (.int .u64 ((t / d : Nat) : Int)) ∧ w' = w := by
  by_cases h0 : d = 0
  · subst h0
    go_enter Try.func10, Try.ntmps10
    go_wp2_with fail
    go_ret
    exact ⟨by simp, rfl⟩
  have f1 : ((d : Int) == 0) = false := by rw [beq_eq_false_iff_ne]; omega
  go_enter Try.func10, Try.ntmps10
  go_wp2_with fail
  go_ret
  have hlt : t / d < 18446744073709551616 := Nat.lt_of_le_of_lt (Nat.div_le_self _ _) ht
  have hc : IntKind.u64.wrap ((t : Int) / (d : Int)) = ((t / d : Nat) : Int) := by
    rw [← Int.natCast_ediv, IntKind.wrap_u64]
    generalize t / d = q at hlt ⊢
    omega
  exact ⟨by rw [← hc]; rfl, rfl⟩
end Go.Proofs.Ytgnabgoenemccaa.Wn
