/- How arguments of the struct types lie in memory, by their kinds: printed by the session's opgen.py. -/
import Derived.Test.YtfeikcfhionjkaaPk0
import Derived.Test.YtfeikcfhionjkaaOp
set_option linter.unusedVariables false
set_option linter.unusedSimpArgs false
namespace Go.Proofs.Ytfeikcfhionjkaa.Pk
open Go.RowKit Go.Proofs.Ytfeikcfhionjkaa.B0 Go.Proofs.YtfeikcfhionjkaaW.PrintWords
def W41 (y : S41) : Prop := (Lit.int .u64 y.f0).wf = true ∧ (Lit.int .u64 y.f1).wf = true
theorem op41 : OpK Try.prog 41 k41 W41 := by
  intro H enc w base spare held fuel cs x h
  obtain ⟨xs, n, rfl, hx, hl, hxs, hf⟩ := DataW.trod_struct Try.underlying41 h
  have hl' : cs.length = 2 := hl.trans (by kernel_rfl)
  obtain ⟨y0, J0, X0⟩ := OpK.field hxs hf 0 _ rfl 27 0 1 rfl rfl (by kernel_rfl) (OpK.int Try.underlying27)
  obtain ⟨y1, J1, X1⟩ := OpK.field hxs hf 1 _ rfl 27 1 1 rfl rfl (by kernel_rfl) (OpK.int Try.underlying27)
  rw [List.take_of_length_le (by rw [List.length_drop]; omega)] at J1
  exact ⟨⟨y0, y1⟩, ⟨_, _, split_at 0 1 cs, J0, J1⟩, ⟨X0, X1⟩⟩
end Go.Proofs.Ytfeikcfhionjkaa.Pk
