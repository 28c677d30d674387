/- How arguments of the struct types lie in memory, by their kinds: printed by the session's opgen.py. -/
import Derived.Test.YtamcchdblglfoaaMgForestKeeps4
import Derived.Test.YtamcchdblglfoaaMgForestKeeps2
set_option linter.unusedVariables false
set_option linter.unusedSimpArgs false
namespace Go.Proofs.Ytamcchdblglfoaa.Pf
open Go.RowKit Go.Proofs.Ytamcchdblglfoaa.B0 Go.Proofs.YtamcchdblglfoaaW.PrintWords
def W121 (y : S121) : Prop := (Lit.int .i64 y.f0).wf = true ∧ (Lit.int .i64 y.f1).wf = true ∧ y.f2.size ≤ maxLen
theorem op121 : OpK Try.prog 121 k121 W121 := by
  intro H enc w base spare held fuel cs x h
  obtain ⟨xs, n, rfl, hx, hl, hxs, hf⟩ := DataW.trod_struct Try.underlying121 h
  have hl' : cs.length = 3 := hl.trans (by kernel_rfl)
  obtain ⟨y0, J0, X0⟩ := OpK.field hxs hf 0 _ rfl 3 0 1 rfl rfl (by kernel_rfl) (OpK.int Try.underlying3)
  obtain ⟨y1, J1, X1⟩ := OpK.field hxs hf 1 _ rfl 2 1 1 rfl rfl (by kernel_rfl) (OpK.int Try.underlying2)
  obtain ⟨y2, J2, X2⟩ := OpK.field hxs hf 2 _ rfl 9 2 1 rfl rfl (by kernel_rfl) (OpK.string Try.underlying9)
  rw [List.take_of_length_le (by rw [List.length_drop]; omega)] at J2
  exact ⟨⟨y0, y1, y2⟩, ⟨_, _, split_at 0 1 cs, J0, ⟨_, _, split_at 1 1 cs, J1, J2⟩⟩, ⟨X0, X1, X2⟩⟩
def W123 (y : S123) : Prop := y.f0.size ≤ maxLen ∧ W121 y.f1
theorem op123 : OpK Try.prog 123 k123 W123 := by
  intro H enc w base spare held fuel cs x h
  obtain ⟨xs, n, rfl, hx, hl, hxs, hf⟩ := DataW.trod_struct Try.underlying123 h
  have hl' : cs.length = 4 := hl.trans (by kernel_rfl)
  obtain ⟨y0, J0, X0⟩ := OpK.field hxs hf 0 _ rfl 9 0 1 rfl rfl (by kernel_rfl) (OpK.string Try.underlying9)
  obtain ⟨y1, J1, X1⟩ := OpK.field hxs hf 1 _ rfl 121 1 3 rfl rfl (by kernel_rfl) op121
  rw [List.take_of_length_le (by rw [List.length_drop]; omega)] at J1
  exact ⟨⟨y0, y1⟩, ⟨_, _, split_at 0 1 cs, J0, J1⟩, ⟨X0, X1⟩⟩
def W44 (y : S44) : Prop := (Lit.int .u64 y.f0).wf = true ∧ (Lit.int .u64 y.f1).wf = true ∧ (Lit.int .u64 y.f2).wf = true ∧ y.f3.size ≤ maxLen ∧ y.f4.size ≤ maxLen ∧ (Lit.int .i64 y.f5).wf = true ∧ (Lit.int .i64 y.f6).wf = true ∧ (Lit.int .u64 y.f7).wf = true ∧ (Lit.int .u64 y.f8).wf = true ∧ (y.f9.length ≤ maxLen ∧ ∀ z ∈ y.f9, W123 z)
theorem op44 : OpK Try.prog 44 k44 W44 := by
  intro H enc w base spare held fuel cs x h
  obtain ⟨xs, n, rfl, hx, hl, hxs, hf⟩ := DataW.trod_struct Try.underlying44 h
  have hl' : cs.length = 10 := hl.trans (by kernel_rfl)
  obtain ⟨y0, J0, X0⟩ := OpK.field hxs hf 0 _ rfl 41 0 1 rfl rfl (by kernel_rfl) (OpK.int Try.underlying41)
  obtain ⟨y1, J1, X1⟩ := OpK.field hxs hf 1 _ rfl 41 1 1 rfl rfl (by kernel_rfl) (OpK.int Try.underlying41)
  obtain ⟨y2, J2, X2⟩ := OpK.field hxs hf 2 _ rfl 41 2 1 rfl rfl (by kernel_rfl) (OpK.int Try.underlying41)
  obtain ⟨y3, J3, X3⟩ := OpK.field hxs hf 3 _ rfl 9 3 1 rfl rfl (by kernel_rfl) (OpK.string Try.underlying9)
  obtain ⟨y4, J4, X4⟩ := OpK.field hxs hf 4 _ rfl 9 4 1 rfl rfl (by kernel_rfl) (OpK.string Try.underlying9)
  obtain ⟨y5, J5, X5⟩ := OpK.field hxs hf 5 _ rfl 3 5 1 rfl rfl (by kernel_rfl) (OpK.int Try.underlying3)
  obtain ⟨y6, J6, X6⟩ := OpK.field hxs hf 6 _ rfl 3 6 1 rfl rfl (by kernel_rfl) (OpK.int Try.underlying3)
  obtain ⟨y7, J7, X7⟩ := OpK.field hxs hf 7 _ rfl 41 7 1 rfl rfl (by kernel_rfl) (OpK.int Try.underlying41)
  obtain ⟨y8, J8, X8⟩ := OpK.field hxs hf 8 _ rfl 41 8 1 rfl rfl (by kernel_rfl) (OpK.int Try.underlying41)
  obtain ⟨y9, J9, X9⟩ := OpK.field hxs hf 9 _ rfl 42 9 1 rfl rfl (by kernel_rfl) (OpK.slice Try.underlying42 (by kernel_rfl) op123)
  rw [List.take_of_length_le (by rw [List.length_drop]; omega)] at J9
  exact ⟨⟨y0, y1, y2, y3, y4, y5, y6, y7, y8, y9⟩, ⟨_, _, split_at 0 1 cs, J0, ⟨_, _, split_at 1 1 cs, J1, ⟨_, _, split_at 2 1 cs, J2, ⟨_, _, split_at 3 1 cs, J3, ⟨_, _, split_at 4 1 cs, J4, ⟨_, _, split_at 5 1 cs, J5, ⟨_, _, split_at 6 1 cs, J6, ⟨_, _, split_at 7 1 cs, J7, ⟨_, _, split_at 8 1 cs, J8, J9⟩⟩⟩⟩⟩⟩⟩⟩⟩, ⟨X0, X1, X2, X3, X4, X5, X6, X7, X8, X9⟩⟩
def W47 (y : S47) : Prop := W44 y.f0 ∧ (Lit.int .i64 y.f1).wf = true ∧ (Lit.int .i64 y.f2).wf = true ∧ True
theorem op47 : OpK Try.prog 47 k47 W47 := by
  intro H enc w base spare held fuel cs x h
  obtain ⟨xs, n, rfl, hx, hl, hxs, hf⟩ := DataW.trod_struct Try.underlying47 h
  have hl' : cs.length = 13 := hl.trans (by kernel_rfl)
  obtain ⟨y0, J0, X0⟩ := OpK.field hxs hf 0 _ rfl 44 0 10 rfl rfl (by kernel_rfl) op44
  obtain ⟨y1, J1, X1⟩ := OpK.field hxs hf 1 _ rfl 3 10 1 rfl rfl (by kernel_rfl) (OpK.int Try.underlying3)
  obtain ⟨y2, J2, X2⟩ := OpK.field hxs hf 2 _ rfl 3 11 1 rfl rfl (by kernel_rfl) (OpK.int Try.underlying3)
  obtain ⟨y3, J3, X3⟩ := OpK.field hxs hf 3 _ rfl 4 12 1 rfl rfl (by kernel_rfl) (OpK.bool Try.underlying4)
  rw [List.take_of_length_le (by rw [List.length_drop]; omega)] at J3
  exact ⟨⟨y0, y1, y2, y3⟩, ⟨_, _, split_at 0 10 cs, J0, ⟨_, _, split_at 10 1 cs, J1, ⟨_, _, split_at 11 1 cs, J2, J3⟩⟩⟩, ⟨X0, X1, X2, X3⟩⟩
def W129 (y : S129) : Prop := (Lit.int .i64 y.f0).wf = true ∧ (Lit.int .i64 y.f1).wf = true ∧ y.f2.size ≤ maxLen
theorem op129 : OpK Try.prog 129 k129 W129 := by
  intro H enc w base spare held fuel cs x h
  obtain ⟨xs, n, rfl, hx, hl, hxs, hf⟩ := DataW.trod_struct Try.underlying129 h
  have hl' : cs.length = 3 := hl.trans (by kernel_rfl)
  obtain ⟨y0, J0, X0⟩ := OpK.field hxs hf 0 _ rfl 3 0 1 rfl rfl (by kernel_rfl) (OpK.int Try.underlying3)
  obtain ⟨y1, J1, X1⟩ := OpK.field hxs hf 1 _ rfl 2 1 1 rfl rfl (by kernel_rfl) (OpK.int Try.underlying2)
  obtain ⟨y2, J2, X2⟩ := OpK.field hxs hf 2 _ rfl 9 2 1 rfl rfl (by kernel_rfl) (OpK.string Try.underlying9)
  rw [List.take_of_length_le (by rw [List.length_drop]; omega)] at J2
  exact ⟨⟨y0, y1, y2⟩, ⟨_, _, split_at 0 1 cs, J0, ⟨_, _, split_at 1 1 cs, J1, J2⟩⟩, ⟨X0, X1, X2⟩⟩
def W131 (y : S131) : Prop := y.f0.size ≤ maxLen ∧ W129 y.f1
theorem op131 : OpK Try.prog 131 k131 W131 := by
  intro H enc w base spare held fuel cs x h
  obtain ⟨xs, n, rfl, hx, hl, hxs, hf⟩ := DataW.trod_struct Try.underlying131 h
  have hl' : cs.length = 4 := hl.trans (by kernel_rfl)
  obtain ⟨y0, J0, X0⟩ := OpK.field hxs hf 0 _ rfl 9 0 1 rfl rfl (by kernel_rfl) (OpK.string Try.underlying9)
  obtain ⟨y1, J1, X1⟩ := OpK.field hxs hf 1 _ rfl 129 1 3 rfl rfl (by kernel_rfl) op129
  rw [List.take_of_length_le (by rw [List.length_drop]; omega)] at J1
  exact ⟨⟨y0, y1⟩, ⟨_, _, split_at 0 1 cs, J0, J1⟩, ⟨X0, X1⟩⟩
def W57 (y : S57) : Prop := (Lit.int .u64 y.f0).wf = true ∧ (Lit.int .u64 y.f1).wf = true ∧ (Lit.int .u64 y.f2).wf = true ∧ y.f3.size ≤ maxLen ∧ y.f4.size ≤ maxLen ∧ (Lit.int .i64 y.f5).wf = true ∧ (Lit.int .i64 y.f6).wf = true ∧ (Lit.int .u64 y.f7).wf = true ∧ (Lit.int .u64 y.f8).wf = true ∧ (y.f9.length ≤ maxLen ∧ ∀ z ∈ y.f9, W131 z)
theorem op57 : OpK Try.prog 57 k57 W57 := by
  intro H enc w base spare held fuel cs x h
  obtain ⟨xs, n, rfl, hx, hl, hxs, hf⟩ := DataW.trod_struct Try.underlying57 h
  have hl' : cs.length = 10 := hl.trans (by kernel_rfl)
  obtain ⟨y0, J0, X0⟩ := OpK.field hxs hf 0 _ rfl 41 0 1 rfl rfl (by kernel_rfl) (OpK.int Try.underlying41)
  obtain ⟨y1, J1, X1⟩ := OpK.field hxs hf 1 _ rfl 41 1 1 rfl rfl (by kernel_rfl) (OpK.int Try.underlying41)
  obtain ⟨y2, J2, X2⟩ := OpK.field hxs hf 2 _ rfl 41 2 1 rfl rfl (by kernel_rfl) (OpK.int Try.underlying41)
  obtain ⟨y3, J3, X3⟩ := OpK.field hxs hf 3 _ rfl 9 3 1 rfl rfl (by kernel_rfl) (OpK.string Try.underlying9)
  obtain ⟨y4, J4, X4⟩ := OpK.field hxs hf 4 _ rfl 9 4 1 rfl rfl (by kernel_rfl) (OpK.string Try.underlying9)
  obtain ⟨y5, J5, X5⟩ := OpK.field hxs hf 5 _ rfl 3 5 1 rfl rfl (by kernel_rfl) (OpK.int Try.underlying3)
  obtain ⟨y6, J6, X6⟩ := OpK.field hxs hf 6 _ rfl 3 6 1 rfl rfl (by kernel_rfl) (OpK.int Try.underlying3)
  obtain ⟨y7, J7, X7⟩ := OpK.field hxs hf 7 _ rfl 41 7 1 rfl rfl (by kernel_rfl) (OpK.int Try.underlying41)
  obtain ⟨y8, J8, X8⟩ := OpK.field hxs hf 8 _ rfl 41 8 1 rfl rfl (by kernel_rfl) (OpK.int Try.underlying41)
  obtain ⟨y9, J9, X9⟩ := OpK.field hxs hf 9 _ rfl 55 9 1 rfl rfl (by kernel_rfl) (OpK.slice Try.underlying55 (by kernel_rfl) op131)
  rw [List.take_of_length_le (by rw [List.length_drop]; omega)] at J9
  exact ⟨⟨y0, y1, y2, y3, y4, y5, y6, y7, y8, y9⟩, ⟨_, _, split_at 0 1 cs, J0, ⟨_, _, split_at 1 1 cs, J1, ⟨_, _, split_at 2 1 cs, J2, ⟨_, _, split_at 3 1 cs, J3, ⟨_, _, split_at 4 1 cs, J4, ⟨_, _, split_at 5 1 cs, J5, ⟨_, _, split_at 6 1 cs, J6, ⟨_, _, split_at 7 1 cs, J7, ⟨_, _, split_at 8 1 cs, J8, J9⟩⟩⟩⟩⟩⟩⟩⟩⟩, ⟨X0, X1, X2, X3, X4, X5, X6, X7, X8, X9⟩⟩
def W59 (y : S59) : Prop := W57 y.f0 ∧ (Lit.int .i64 y.f1).wf = true ∧ (Lit.int .i64 y.f2).wf = true ∧ True
theorem op59 : OpK Try.prog 59 k59 W59 := by
  intro H enc w base spare held fuel cs x h
  obtain ⟨xs, n, rfl, hx, hl, hxs, hf⟩ := DataW.trod_struct Try.underlying59 h
  have hl' : cs.length = 13 := hl.trans (by kernel_rfl)
  obtain ⟨y0, J0, X0⟩ := OpK.field hxs hf 0 _ rfl 57 0 10 rfl rfl (by kernel_rfl) op57
  obtain ⟨y1, J1, X1⟩ := OpK.field hxs hf 1 _ rfl 3 10 1 rfl rfl (by kernel_rfl) (OpK.int Try.underlying3)
  obtain ⟨y2, J2, X2⟩ := OpK.field hxs hf 2 _ rfl 3 11 1 rfl rfl (by kernel_rfl) (OpK.int Try.underlying3)
  obtain ⟨y3, J3, X3⟩ := OpK.field hxs hf 3 _ rfl 4 12 1 rfl rfl (by kernel_rfl) (OpK.bool Try.underlying4)
  rw [List.take_of_length_le (by rw [List.length_drop]; omega)] at J3
  exact ⟨⟨y0, y1, y2, y3⟩, ⟨_, _, split_at 0 10 cs, J0, ⟨_, _, split_at 10 1 cs, J1, ⟨_, _, split_at 11 1 cs, J2, J3⟩⟩⟩, ⟨X0, X1, X2, X3⟩⟩
end Go.Proofs.Ytamcchdblglfoaa.Pf
