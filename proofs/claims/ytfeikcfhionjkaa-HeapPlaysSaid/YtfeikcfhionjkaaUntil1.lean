/- heap.order in the form that slices.SortFunc asks for: the world it leaves, to the block. -/
import Derived.Test.YtfeikcfhionjkaaHq4
import Derived.Sort.Grow
set_option linter.unusedVariables false
set_option linter.unusedSimpArgs false
namespace Go.Proofs.Ytfeikcfhionjkaa.Hp
open Go.RowKit Go.Proofs.Ytfeikcfhionjkaa.B0

theorem order_g (w : World) (x y : Nat) (i1 a1 i2 a2 : Int) (p1 p2 : Value) (T T2 : TypeId)
    (hx : w.heap[x]? = some (.cells #[.int .u64 i1, .int .u64 a1, p1] T (0, 0))) (hy : w.heap[y]? = some (.cells #[.int .u64 i2, .int .u64 a2, p2] T2 (0, 0))) :
    Calls Try.prog 31 #[.pointer (some ⟨x, 0, none⟩), .pointer (some ⟨y, 0, none⟩)] w fun e w' => e = .returned (.int .i64 (ordI a1 i1 a2 i2)) ∧ ∃ q os, w' = Go.Sort.grow (w.drewN q) os := by
  have x0 : w.cell? ⟨x, 0, none⟩ = some (.int .u64 i1) := cellB hx 0
  have x1 : w.cell? ⟨x, 1, none⟩ = some (.int .u64 a1) := cellB hx 1
  have y0 : w.cell? ⟨y, 0, none⟩ = some (.int .u64 i2) := cellB hy 0
  have y1 : w.cell? ⟨y, 1, none⟩ = some (.int .u64 a2) := cellB hy 1
  clear hx hy
  go_enter Try.func31, Try.ntmps31
  go_wp2
  go_region_held3 (fun w' => w'.cell? ⟨x, 0, none⟩ = some (.int .u64 i1) ∧ w'.cell? ⟨x, 1, none⟩ = some (.int .u64 a1) ∧ w'.cell? ⟨y, 0, none⟩ = some (.int .u64 i2) ∧ w'.cell? ⟨y, 1, none⟩ = some (.int .u64 a2))
    (go_keep)
    ((first | (go_at_call 37; refine (compare_u64 _ _ _).mono ?_; rintro e w' ⟨rfl, rfl⟩) | (go_at_call 36; refine (or_any _ _ [cmpI a1 a2, cmpI i1 i2] 2 _ rfl (by omega) ?hh).mono ?_; (case hh => intro i hi; have hi' : i = 0 ∨ i = 1 := (by omega); rcases hi' with rfl | rfl <;> go_simp); rintro e w' ⟨rfl, rfl⟩)))
  go_wp2
  go_ret
  exact ⟨by rfl, 1, #[_], congrArg World.drew (Go.Sort.alloc_eq_grow w _)⟩
end Go.Proofs.Ytfeikcfhionjkaa.Hp
