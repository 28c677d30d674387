/- How small arguments of the struct types lie in memory: printed by the session's obgen.py. -/
import Derived.Test.YtdbmcikoiilanaaDoorMgExpoNames3
import Derived.Test.YtdbmcikoiilanaaDoorMgExpoNames12
set_option linter.unusedVariables false
set_option linter.unusedSimpArgs false
namespace Go.Proofs.YtdbmcikoiilanaaDoor.Ob
open Go.RowKit Go.Proofs.YtdbmcikoiilanaaDoor.B0 Go.Proofs.YtdbmcikoiilanaaDoorW.PrintWords Go.Proofs.YtdbmcikoiilanaaDoor.Pp
def WB29 (y : S29) : Prop := y.f0.size ≤ 1048576 ∧ y.f1.size ≤ 1048576
theorem ob29 : OpB Tryd.prog 29 k29 WB29 := by
  intro H enc w base spare held fuel cs x h hbk
  obtain ⟨xs, n, rfl, rfl, hl, hxs, hf⟩ := DataW.trod_struct Tryd.underlying29 h
  have hl' : cs.length = 2 := hl.trans (by kernel_rfl)
  have hb : Rows.uptoBulkAll (xs.map (·.1)) ≤ 1048576 := by simp only [Rows.uptoBulk] at hbk; omega
  obtain ⟨y0, J0, X0⟩ := OpB.field hxs hb hf 0 _ rfl 9 0 1 rfl rfl (by kernel_rfl) (OpB.string Tryd.underlying9)
  obtain ⟨y1, J1, X1⟩ := OpB.field hxs hb hf 1 _ rfl 9 1 1 rfl rfl (by kernel_rfl) (OpB.string Tryd.underlying9)
  rw [List.take_of_length_le (by rw [List.length_drop]; omega)] at J1
  exact ⟨⟨y0, y1⟩, ⟨_, _, split_at 0 1 cs, J0, J1⟩, ⟨X0, X1⟩⟩
def WB27 (y : S27) : Prop := y.f0.size ≤ 1048576 ∧ (y.f1.length ≤ 1048576 ∧ ∀ z ∈ y.f1, WB29 z) ∧ (Lit.int .u64 y.f2).wf = true
theorem ob27 : OpB Tryd.prog 27 k27 WB27 := by
  intro H enc w base spare held fuel cs x h hbk
  obtain ⟨xs, n, rfl, rfl, hl, hxs, hf⟩ := DataW.trod_struct Tryd.underlying27 h
  have hl' : cs.length = 3 := hl.trans (by kernel_rfl)
  have hb : Rows.uptoBulkAll (xs.map (·.1)) ≤ 1048576 := by simp only [Rows.uptoBulk] at hbk; omega
  obtain ⟨y0, J0, X0⟩ := OpB.field hxs hb hf 0 _ rfl 9 0 1 rfl rfl (by kernel_rfl) (OpB.string Tryd.underlying9)
  obtain ⟨y1, J1, X1⟩ := OpB.field hxs hb hf 1 _ rfl 24 1 1 rfl rfl (by kernel_rfl) (OpB.slice Tryd.underlying24 (by kernel_rfl) ob29)
  obtain ⟨y2, J2, X2⟩ := OpB.field hxs hb hf 2 _ rfl 25 2 1 rfl rfl (by kernel_rfl) (OpB.of (OpK.int Tryd.underlying25))
  rw [List.take_of_length_le (by rw [List.length_drop]; omega)] at J2
  exact ⟨⟨y0, y1, y2⟩, ⟨_, _, split_at 0 1 cs, J0, ⟨_, _, split_at 1 1 cs, J1, J2⟩⟩, ⟨X0, X1, X2⟩⟩
end Go.Proofs.YtdbmcikoiilanaaDoor.Ob
