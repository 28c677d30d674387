/- script: the plain laws of ScriptBytes and ScriptJoins. -/
import Derived.Test.YtbcdlbdljejlcaaDoorSc11
set_option linter.unusedVariables false
set_option linter.unusedSimpArgs false
namespace Go.Proofs.YtbcdlbdljejlcaaDoor.Sc
open Go.RowKit Go.Proofs.YtbcdlbdljejlcaaDoor.B0 Go.Proofs.YtbcdlbdljejlcaaDoor.Ps Go.Proofs.YtbcdlbdljejlcaaDoorW.PrintWords Go.Proofs.YtbcdlbdljejlcaaDoor.Bld

theorem tick_only : parseL (sTick ++ [] ++ [10]) = some [⟨1, 0, 0, []⟩] := by decide +kernel
/-- what stands behind 'tick' on its line is not read. -/
theorem tick_odd (odd : List UInt8) (xs : List Stp) (h : parseL (sTick ++ odd ++ [10]) = some xs) : odd = [] ∨ odd.head? = some 10 := by
  obtain ⟨h1, h2⟩ := parseL_print _ _ h
  cases xs with
  | nil => simp [printL, sTick] at h1
  | cons x xs =>
    have hx := (h2 x List.mem_cons_self).1
    have h3 : lineL x ++ 10 :: printL xs = sTick ++ (odd ++ [10]) := by
      have e : printL (x :: xs) = lineL x ++ 10 :: printL xs := by simp [printL]
      rw [← e, h1, List.append_assoc]
    have h4 : x.f0 = 1 := by
      rcases hx with ⟨h, _⟩ | ⟨h | h | h, _⟩ | ⟨h, _⟩ <;> first | exact h | (exfalso; unfold lineL at h3; rw [h] at h3; simp [sTick, sDeliver, sFlush, sEnd, sClose] at h3)
    have h5 : lineL x = sTick := by unfold lineL; rw [h4]; rfl
    rw [h5] at h3
    have h6 := List.append_cancel_left h3
    cases odd with
    | nil => exact .inl rfl
    | cons c r => right; simp at h6; simp [h6.1]
end Go.Proofs.YtbcdlbdljejlcaaDoor.Sc
