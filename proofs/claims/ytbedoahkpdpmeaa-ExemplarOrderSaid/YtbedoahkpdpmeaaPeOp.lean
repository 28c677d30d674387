/- How arguments of the struct types lie in memory, by their kinds: printed by the session's opgen.py. -/
import Derived.Test.YtbedoahkpdpmeaaPe15
import Derived.Test.YtbedoahkpdpmeaaOp
set_option linter.unusedVariables false
set_option linter.unusedSimpArgs false
namespace Go.Proofs.Ytbedoahkpdpmeaa.Pe
open Go.RowKit Go.Proofs.Ytbedoahkpdpmeaa.B0 Go.Proofs.YtbedoahkpdpmeaaW.PrintWords
def W31 (y : S31) : Prop := (Lit.int .u64 y.f0).wf = true ∧ (Lit.int .u64 y.f1).wf = true ∧ (Lit.int .u64 y.f2).wf = true ∧ True
theorem op31 : OpK Try.prog 31 k31 W31 := by
  intro H enc w base spare held fuel cs x h
  obtain ⟨xs, n, rfl, hx, hl, hxs, hf⟩ := DataW.trod_struct Try.underlying31 h
  have hl' : cs.length = 4 := hl.trans (by kernel_rfl)
  obtain ⟨y0, J0, X0⟩ := OpK.field hxs hf 0 _ rfl 29 0 1 rfl rfl (by kernel_rfl) (OpK.int Try.underlying29)
  obtain ⟨y1, J1, X1⟩ := OpK.field hxs hf 1 _ rfl 29 1 1 rfl rfl (by kernel_rfl) (OpK.int Try.underlying29)
  obtain ⟨y2, J2, X2⟩ := OpK.field hxs hf 2 _ rfl 29 2 1 rfl rfl (by kernel_rfl) (OpK.int Try.underlying29)
  obtain ⟨y3, J3, X3⟩ := OpK.field hxs hf 3 _ rfl 4 3 1 rfl rfl (by kernel_rfl) (OpK.bool Try.underlying4)
  rw [List.take_of_length_le (by rw [List.length_drop]; omega)] at J3
  exact ⟨⟨y0, y1, y2, y3⟩, ⟨_, _, split_at 0 1 cs, J0, ⟨_, _, split_at 1 1 cs, J1, ⟨_, _, split_at 2 1 cs, J2, J3⟩⟩⟩, ⟨X0, X1, X2, X3⟩⟩
def W59 (y : S59) : Prop := (Lit.int .i64 y.f0).wf = true ∧ (Lit.int .i64 y.f1).wf = true ∧ y.f2.size ≤ maxLen
theorem op59 : OpK Try.prog 59 k59 W59 := by
  intro H enc w base spare held fuel cs x h
  obtain ⟨xs, n, rfl, hx, hl, hxs, hf⟩ := DataW.trod_struct Try.underlying59 h
  have hl' : cs.length = 3 := hl.trans (by kernel_rfl)
  obtain ⟨y0, J0, X0⟩ := OpK.field hxs hf 0 _ rfl 3 0 1 rfl rfl (by kernel_rfl) (OpK.int Try.underlying3)
  obtain ⟨y1, J1, X1⟩ := OpK.field hxs hf 1 _ rfl 2 1 1 rfl rfl (by kernel_rfl) (OpK.int Try.underlying2)
  obtain ⟨y2, J2, X2⟩ := OpK.field hxs hf 2 _ rfl 9 2 1 rfl rfl (by kernel_rfl) (OpK.string Try.underlying9)
  rw [List.take_of_length_le (by rw [List.length_drop]; omega)] at J2
  exact ⟨⟨y0, y1, y2⟩, ⟨_, _, split_at 0 1 cs, J0, ⟨_, _, split_at 1 1 cs, J1, J2⟩⟩, ⟨X0, X1, X2⟩⟩
def W61 (y : S61) : Prop := y.f0.size ≤ maxLen ∧ W59 y.f1
theorem op61 : OpK Try.prog 61 k61 W61 := by
  intro H enc w base spare held fuel cs x h
  obtain ⟨xs, n, rfl, hx, hl, hxs, hf⟩ := DataW.trod_struct Try.underlying61 h
  have hl' : cs.length = 4 := hl.trans (by kernel_rfl)
  obtain ⟨y0, J0, X0⟩ := OpK.field hxs hf 0 _ rfl 9 0 1 rfl rfl (by kernel_rfl) (OpK.string Try.underlying9)
  obtain ⟨y1, J1, X1⟩ := OpK.field hxs hf 1 _ rfl 59 1 3 rfl rfl (by kernel_rfl) op59
  rw [List.take_of_length_le (by rw [List.length_drop]; omega)] at J1
  exact ⟨⟨y0, y1⟩, ⟨_, _, split_at 0 1 cs, J0, J1⟩, ⟨X0, X1⟩⟩
def W64 (y : S64) : Prop := (Lit.int .i64 y.f0).wf = true ∧ (Lit.int .i64 y.f1).wf = true ∧ y.f2.size ≤ maxLen
theorem op64 : OpK Try.prog 64 k64 W64 := by
  intro H enc w base spare held fuel cs x h
  obtain ⟨xs, n, rfl, hx, hl, hxs, hf⟩ := DataW.trod_struct Try.underlying64 h
  have hl' : cs.length = 3 := hl.trans (by kernel_rfl)
  obtain ⟨y0, J0, X0⟩ := OpK.field hxs hf 0 _ rfl 3 0 1 rfl rfl (by kernel_rfl) (OpK.int Try.underlying3)
  obtain ⟨y1, J1, X1⟩ := OpK.field hxs hf 1 _ rfl 2 1 1 rfl rfl (by kernel_rfl) (OpK.int Try.underlying2)
  obtain ⟨y2, J2, X2⟩ := OpK.field hxs hf 2 _ rfl 9 2 1 rfl rfl (by kernel_rfl) (OpK.string Try.underlying9)
  rw [List.take_of_length_le (by rw [List.length_drop]; omega)] at J2
  exact ⟨⟨y0, y1, y2⟩, ⟨_, _, split_at 0 1 cs, J0, ⟨_, _, split_at 1 1 cs, J1, J2⟩⟩, ⟨X0, X1, X2⟩⟩
def W66 (y : S66) : Prop := y.f0.size ≤ maxLen ∧ W64 y.f1
theorem op66 : OpK Try.prog 66 k66 W66 := by
  intro H enc w base spare held fuel cs x h
  obtain ⟨xs, n, rfl, hx, hl, hxs, hf⟩ := DataW.trod_struct Try.underlying66 h
  have hl' : cs.length = 4 := hl.trans (by kernel_rfl)
  obtain ⟨y0, J0, X0⟩ := OpK.field hxs hf 0 _ rfl 9 0 1 rfl rfl (by kernel_rfl) (OpK.string Try.underlying9)
  obtain ⟨y1, J1, X1⟩ := OpK.field hxs hf 1 _ rfl 64 1 3 rfl rfl (by kernel_rfl) op64
  rw [List.take_of_length_le (by rw [List.length_drop]; omega)] at J1
  exact ⟨⟨y0, y1⟩, ⟨_, _, split_at 0 1 cs, J0, J1⟩, ⟨X0, X1⟩⟩
def W32 (y : S32) : Prop := (Lit.int .u64 y.f0).wf = true ∧ (Lit.int .u64 y.f1).wf = true ∧ (Lit.int .u64 y.f2).wf = true ∧ True
theorem op32 : OpK Try.prog 32 k32 W32 := by
  intro H enc w base spare held fuel cs x h
  obtain ⟨xs, n, rfl, hx, hl, hxs, hf⟩ := DataW.trod_struct Try.underlying32 h
  have hl' : cs.length = 4 := hl.trans (by kernel_rfl)
  obtain ⟨y0, J0, X0⟩ := OpK.field hxs hf 0 _ rfl 29 0 1 rfl rfl (by kernel_rfl) (OpK.int Try.underlying29)
  obtain ⟨y1, J1, X1⟩ := OpK.field hxs hf 1 _ rfl 29 1 1 rfl rfl (by kernel_rfl) (OpK.int Try.underlying29)
  obtain ⟨y2, J2, X2⟩ := OpK.field hxs hf 2 _ rfl 29 2 1 rfl rfl (by kernel_rfl) (OpK.int Try.underlying29)
  obtain ⟨y3, J3, X3⟩ := OpK.field hxs hf 3 _ rfl 4 3 1 rfl rfl (by kernel_rfl) (OpK.bool Try.underlying4)
  rw [List.take_of_length_le (by rw [List.length_drop]; omega)] at J3
  exact ⟨⟨y0, y1, y2, y3⟩, ⟨_, _, split_at 0 1 cs, J0, ⟨_, _, split_at 1 1 cs, J1, ⟨_, _, split_at 2 1 cs, J2, J3⟩⟩⟩, ⟨X0, X1, X2, X3⟩⟩
end Go.Proofs.Ytbedoahkpdpmeaa.Pe
