/- A span's exemplar, and the law's helpers on spans: totals of the printed functions. -/
import Derived.Test.YtbedoahkpdpmeaaEx9
import Derived.Test.YtbedoahkpdpmeaaPeS
set_option linter.unusedVariables false
set_option linter.unusedSimpArgs false
namespace Go.Proofs.Ytbedoahkpdpmeaa.Ex
open Go.RowKit Go.Proofs.Ytbedoahkpdpmeaa.B0 Go.Proofs.Ytbedoahkpdpmeaa.Pe Go.Proofs.YtbedoahkpdpmeaaW.PrintWords

abbrev Sp := S42
theorem wrS {i n : Nat} (h : i < n) (hn : n ≤ 1000) : wrap64 ((i : Int) + 1) = ((i + 1 : Nat) : Int) := by unfold wrap64; omega
theorem far_l0 (s : Sp) (hl : s.f9.length ≤ 40) : ∀ (d i : Nat), i + d = s.f9.length → ∃ b, tallyroomlaw06_Far.l0 (d + 1) i s.f0 s.f1 s.f2 s.f3 s.f4 s.f5 s.f6 s.f7 s.f8 s.f9 = some b := by
  intro d
  induction d with
  | zero =>
    intro i hi
    exact ⟨false, by rw [tallyroomlaw06_Far.l0, if_neg (by omega)]⟩
  | succ d ih =>
    intro i hi
    rw [tallyroomlaw06_Far.l0, if_pos (by omega), if_pos (by omega), wrS (show i < s.f9.length by omega) (by omega)]
    split
    · exact ⟨_, rfl⟩
    · split
      · exact ⟨_, rfl⟩
      · exact ih (i + 1) (by omega)
theorem far_f (s : Sp) : ∃ k b, tallyroomlaw06_Far.f k s.f0 s.f1 s.f2 s.f3 s.f4 s.f5 s.f6 s.f7 s.f8 s.f9 = some b ∧ (b = false → s.f9.length ≤ 40) := by
  unfold tallyroomlaw06_Far.f
  by_cases h1 : (s.f3.size : Int) > 5000
  · exact ⟨1, true, by rw [if_pos h1, tallyroomlaw06_Far.j0, if_pos rfl], by simp⟩
  · by_cases h2 : (s.f4.size : Int) > 5000
    · exact ⟨1, true, by rw [if_neg h1, if_pos h2, tallyroomlaw06_Far.j0, if_pos rfl], by simp⟩
    · by_cases h3 : (s.f9.length : Int) > 40
      · exact ⟨1, true, by rw [if_neg h1, if_neg h2, tallyroomlaw06_Far.j0, if_pos (by simpa using h3)], by simp⟩
      · obtain ⟨b, hb⟩ := far_l0 s (by omega) s.f9.length 0 (by omega)
        exact ⟨s.f9.length + 2, b, by rw [if_neg h1, if_neg h2, tallyroomlaw06_Far.j0, if_neg (by simpa using h3)]; exact hb, fun _ => by omega⟩
theorem of_l0 (s : Sp) (hl : s.f9.length ≤ 40) : ∀ (d i : Nat) (R : List S66), i + d = s.f9.length → R.length = i → ∃ R', tallyroomlaw06_Of.l0 (d + 1) i s.f0 s.f1 s.f2 s.f3 s.f4 s.f5 s.f6 s.f7 s.f8 s.f9 s.f0 s.f1 s.f2 s.f3 s.f4 s.f5 s.f6 s.f7 s.f8 R = some (s.f0, s.f1, s.f2, s.f3, s.f4, s.f5, s.f6, s.f7, s.f8, R') := by
  intro d
  induction d with
  | zero =>
    intro i R hi hR
    exact ⟨R, by rw [tallyroomlaw06_Of.l0, if_neg (by omega)]⟩
  | succ d ih =>
    intro i R hi hR
    rw [tallyroomlaw06_Of.l0, if_pos (by omega), if_pos (by omega), if_pos (by omega), wrS (show i < s.f9.length by omega) (by omega)]
    exact ih (i + 1) _ (by omega) (by simp; omega)
theorem Far_c (s : Sp) : ∃ b, (b = false → s.f9.length ≤ 40) ∧ ∀ (w : World) (A : Option Addr) (c : Nat), Kd.C k61 w A s.f9.length s.f9 → s.f9.length ≤ c →
    Calls Try.prog 14 #[.agg #[.int .u64 s.f0, .int .u64 s.f1, .int .u64 s.f2, .string s.f3, .string s.f4, .int .i64 s.f5, .int .i64 s.f6, .int .u64 s.f7, .int .u64 s.f8, .slice A s.f9.length c]] w fun e w' => e = .returned (.bool b) ∧ Below w.heap.size w w' := by
  obtain ⟨k, b, h, hb⟩ := far_f s
  exact ⟨b, hb, fun w A c hC hc => tallyroomlaw06_Far.calls k s.f0 s.f1 s.f2 s.f3 s.f4 s.f5 s.f6 s.f7 s.f8 A c s.f9 b w hC hc h⟩
theorem Of_c (s : Sp) (hl : s.f9.length ≤ 40) (w : World) (A : Option Addr) (c : Nat) (hC : Kd.C k61 w A s.f9.length s.f9) (hc : s.f9.length ≤ c) :
    Calls Try.prog 16 #[.agg #[.int .u64 s.f0, .int .u64 s.f1, .int .u64 s.f2, .string s.f3, .string s.f4, .int .i64 s.f5, .int .i64 s.f6, .int .u64 s.f7, .int .u64 s.f8, .slice A s.f9.length c]] w fun e w' => ∃ (R : List S66) (A' : Option Addr) (c' : Nat), e = .returned (.agg #[.int .u64 s.f0, .int .u64 s.f1, .int .u64 s.f2, .string s.f3, .string s.f4, .int .i64 s.f5, .int .i64 s.f6, .int .u64 s.f7, .int .u64 s.f8, .slice A' R.length c']) ∧ R.length ≤ c' ∧ Kd.C k66 w' A' R.length R ∧ Below w.heap.size w w' := by
  obtain ⟨R, hR⟩ := of_l0 s hl s.f9.length 0 [] (by omega) rfl
  refine (tallyroomlaw06_Of.calls (s.f9.length + 1) s.f0 s.f1 s.f2 s.f3 s.f4 s.f5 s.f6 s.f7 s.f8 A c s.f9 s.f0 s.f1 s.f2 s.f3 s.f4 s.f5 s.f6 s.f7 s.f8 R w hC hc hR).mono ?_
  rintro e w' ⟨v, rfl, hv, hB⟩
  obtain ⟨A', c', rfl, h1, h2⟩ := Kd.R_reads hv
  exact ⟨R, A', c', rfl, h1, h2, hB⟩
def tookS (s : Sp) : Int := if s.f8 < s.f7 then 0 else IntKind.u64.wrap (s.f8 - s.f7)
theorem ExOf_c (s : Sp) (R : List S66) (w : World) (A : Option Addr) (c : Nat) (hC : Kd.C k66 w A R.length R) (hc : R.length ≤ c) :
    Calls Try.prog 15 #[.agg #[.int .u64 s.f0, .int .u64 s.f1, .int .u64 s.f2, .string s.f3, .string s.f4, .int .i64 s.f5, .int .i64 s.f6, .int .u64 s.f7, .int .u64 s.f8, .slice A R.length c]] w fun e w' => e = .returned (.agg #[.int .u64 s.f0, .int .u64 s.f1, .int .u64 (tookS s), .bool (s.f6 == 2)]) ∧ Below w.heap.size w w' := by
  refine exemplar_Of.calls s.f0 s.f1 s.f2 s.f3 s.f4 s.f5 s.f6 s.f7 s.f8 A c R s.f0 s.f1 (tookS s) (s.f6 == 2) w hC hc ?_
  unfold exemplar_Of.f span_Took.f span_Failed.f tookS
  split <;> rfl

set_option maxRecDepth 100000 in
set_option maxHeartbeats 4000000 in
theorem Best_nil (w : World) : Calls Try.prog 10 #[.pointer none] w fun e w' => e = .returned (.slice none 0 0) ∧ w = w' := by
  go_enter Try.func10, Try.ntmps10
  go_wp2_with fail
  go_ret
  exact ⟨rfl, rfl⟩
end Go.Proofs.Ytbedoahkpdpmeaa.Ex
