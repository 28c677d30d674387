/- series: the sort's contracts, joined. -/
import Derived.Test.YtkmfgacfccgdcaaDoorMgSeriesOrder10
import Derived.Test.YtkmfgacfccgdcaaDoorMgSeriesOrder12
import Derived.Test.YtkmfgacfccgdcaaDoorMgSeriesOrder13
import Derived.Shelf.SlSortCmp.NoneTotal
set_option linter.unusedVariables false
set_option linter.unusedSimpArgs false
namespace Go.Proofs.YtkmfgacfccgdcaaDoor.Sr
open Go.RowKit Go.Proofs.YtkmfgacfccgdcaaDoor.B0
theorem sortC : SortC := by
  intro cf X g cap cb w hX hirr htr hntr hcmp hrow hsz
  exact sort_list Tryd.layS (Value.int .i64) (fun _ => rfl) cf X hX hirr htr hntr 19 g cap cb w (enters_of Tryd.func19 (by kernel_rfl) rfl)
    (fun W hW x y hx hy => (hcmp W hW x y hx hy).mono fun e w' ⟨he, q, hq⟩ => ⟨he, q, #[], by rw [hq, Go.Sort.grow_empty]⟩) hrow hsz
theorem sortN : SortN := fun p cap fv w => (AnyF.slices_SortFunc_none { Tryd.layS with } p cap fv w).mono fun e w' ⟨he, hw⟩ => ⟨he, hw.symm⟩
end Go.Proofs.YtkmfgacfccgdcaaDoor.Sr
