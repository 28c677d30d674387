/- How arguments of the struct types lie in memory, by their kinds: printed by the session's opgen.py. -/
import Derived.Test.YtbcdlbdljejlcaaDoorPs0
import Derived.Test.YtbcdlbdljejlcaaDoorOp
set_option linter.unusedVariables false
set_option linter.unusedSimpArgs false
namespace Go.Proofs.YtbcdlbdljejlcaaDoor.Ps
open Go.RowKit Go.Proofs.YtbcdlbdljejlcaaDoor.B0 Go.Proofs.YtbcdlbdljejlcaaDoorW.PrintWords
def W32 (y : S32) : Prop := (Lit.int .i64 y.f0).wf = true ∧ (Lit.int .i64 y.f1).wf = true ∧ (Lit.int .i64 y.f2).wf = true ∧ (y.f3.length ≤ maxLen ∧ ∀ z ∈ y.f3, (Lit.int .u8 z).wf = true)
theorem op32 : OpK Tryd.prog 32 k32 W32 := by
  intro H enc w base spare held fuel cs x h
  obtain ⟨xs, n, rfl, hx, hl, hxs, hf⟩ := DataW.trod_struct Tryd.underlying32 h
  have hl' : cs.length = 4 := hl.trans (by kernel_rfl)
  obtain ⟨y0, J0, X0⟩ := OpK.field hxs hf 0 _ rfl 3 0 1 rfl rfl (by kernel_rfl) (OpK.int Tryd.underlying3)
  obtain ⟨y1, J1, X1⟩ := OpK.field hxs hf 1 _ rfl 3 1 1 rfl rfl (by kernel_rfl) (OpK.int Tryd.underlying3)
  obtain ⟨y2, J2, X2⟩ := OpK.field hxs hf 2 _ rfl 3 2 1 rfl rfl (by kernel_rfl) (OpK.int Tryd.underlying3)
  obtain ⟨y3, J3, X3⟩ := OpK.field hxs hf 3 _ rfl 30 3 1 rfl rfl (by kernel_rfl) (OpK.slice Tryd.underlying30 (by kernel_rfl) (OpK.int Tryd.underlying5))
  rw [List.take_of_length_le (by rw [List.length_drop]; omega)] at J3
  exact ⟨⟨y0, y1, y2, y3⟩, ⟨_, _, split_at 0 1 cs, J0, ⟨_, _, split_at 1 1 cs, J1, ⟨_, _, split_at 2 1 cs, J2, J3⟩⟩⟩, ⟨X0, X1, X2, X3⟩⟩
def W35 (y : S35) : Prop := (Lit.int .i64 y.f0).wf = true ∧ (Lit.int .i64 y.f1).wf = true ∧ (Lit.int .i64 y.f2).wf = true ∧ (y.f3.length ≤ maxLen ∧ ∀ z ∈ y.f3, (Lit.int .u8 z).wf = true)
theorem op35 : OpK Tryd.prog 35 k35 W35 := by
  intro H enc w base spare held fuel cs x h
  obtain ⟨xs, n, rfl, hx, hl, hxs, hf⟩ := DataW.trod_struct Tryd.underlying35 h
  have hl' : cs.length = 4 := hl.trans (by kernel_rfl)
  obtain ⟨y0, J0, X0⟩ := OpK.field hxs hf 0 _ rfl 3 0 1 rfl rfl (by kernel_rfl) (OpK.int Tryd.underlying3)
  obtain ⟨y1, J1, X1⟩ := OpK.field hxs hf 1 _ rfl 3 1 1 rfl rfl (by kernel_rfl) (OpK.int Tryd.underlying3)
  obtain ⟨y2, J2, X2⟩ := OpK.field hxs hf 2 _ rfl 3 2 1 rfl rfl (by kernel_rfl) (OpK.int Tryd.underlying3)
  obtain ⟨y3, J3, X3⟩ := OpK.field hxs hf 3 _ rfl 30 3 1 rfl rfl (by kernel_rfl) (OpK.slice Tryd.underlying30 (by kernel_rfl) (OpK.int Tryd.underlying5))
  rw [List.take_of_length_le (by rw [List.length_drop]; omega)] at J3
  exact ⟨⟨y0, y1, y2, y3⟩, ⟨_, _, split_at 0 1 cs, J0, ⟨_, _, split_at 1 1 cs, J1, ⟨_, _, split_at 2 1 cs, J2, J3⟩⟩⟩, ⟨X0, X1, X2, X3⟩⟩
end Go.Proofs.YtbcdlbdljejlcaaDoor.Ps
