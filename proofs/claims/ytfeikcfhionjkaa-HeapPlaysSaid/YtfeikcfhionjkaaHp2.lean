/- Contracts of heap.order and of the methods Len, Less, Swap of heap's items. -/
import Derived.Test.YtfeikcfhionjkaaHp1
set_option linter.unusedVariables false
set_option linter.unusedSimpArgs false
namespace Go.Proofs.Ytfeikcfhionjkaa.Hp
open Go.RowKit Go.Proofs.Ytfeikcfhionjkaa.B0

def ordI (a1 i1 a2 i2 : Int) : Int := orL [cmpI a1 a2, cmpI i1 i2]

set_option maxHeartbeats 1000000 in
theorem order_any (w : World) (x y : Nat) (i1 a1 i2 a2 : Int) (p1 p2 : Value) (T : TypeId)
    (hx : w.heap[x]? = some (.cells #[.int .u64 i1, .int .u64 a1, p1] T (0, 0))) (hy : w.heap[y]? = some (.cells #[.int .u64 i2, .int .u64 a2, p2] T (0, 0))) :
    Calls Try.prog 31 #[.pointer (some ⟨x, 0, none⟩), .pointer (some ⟨y, 0, none⟩)] w fun e w' => e = .returned (.int .i64 (ordI a1 i1 a2 i2)) ∧ Below w.heap.size w w' := by
  have x0 : w.cell? ⟨x, 0, none⟩ = some (.int .u64 i1) := cellB hx 0
  have x1 : w.cell? ⟨x, 1, none⟩ = some (.int .u64 a1) := cellB hx 1
  have y0 : w.cell? ⟨y, 0, none⟩ = some (.int .u64 i2) := cellB hy 0
  have y1 : w.cell? ⟨y, 1, none⟩ = some (.int .u64 a2) := cellB hy 1
  clear hx hy
  go_enter Try.func31, Try.ntmps31
  go_wp2
  go_region_held3 (fun w' => w'.cell? ⟨x, 0, none⟩ = some (.int .u64 i1) ∧ w'.cell? ⟨x, 1, none⟩ = some (.int .u64 a1) ∧ w'.cell? ⟨y, 0, none⟩ = some (.int .u64 i2) ∧ w'.cell? ⟨y, 1, none⟩ = some (.int .u64 a2))
    (go_keep)
    ((first | (go_at_call 37; refine (compare_u64 _ _ _).mono ?_; rintro e w' ⟨rfl, rfl⟩) | (go_at_call 36; refine (or_any _ _ [cmpI a1 a2, cmpI i1 i2] 2 _ rfl (by omega) ?hh).mono ?_; (case hh => intro i hi; have hi' : i = 0 ∨ i = 1 := (by omega); rcases hi' with rfl | rfl <;> go_simp); rintro e w' ⟨rfl, rfl⟩)))
  go_wp2
  go_ret
  exact ⟨by rfl, by exact ((Below.refl _ _).alloc (Nat.le_refl _) _).drew⟩

theorem Below_of_drewN {w : World} {n : Nat} : Below w.heap.size w (w.drewN n) := ⟨rfl, rfl, rfl, Nat.le_refl _, fun _ _ => rfl⟩

theorem len_any (w : World) (A : Option Addr) (n c : Nat) : Calls Try.prog 71 #[.slice A n c] w fun e w' => e = .returned (.int .i64 n) ∧ w = w' := by
  go_enter Try.func71, Try.ntmps71
  go_wp2
  go_ret
  exact ⟨by rfl, rfl⟩

set_option maxHeartbeats 1000000 in
theorem less_any (w : World) (g n c i k x y : Nat) (i1 a1 i2 a2 : Int) (p1 p2 : Value) (T : TypeId) (hi : i < n) (hk : k < n)
    (ci : w.cell? ⟨g, i, none⟩ = some (.pointer (some ⟨x, 0, none⟩))) (ck : w.cell? ⟨g, k, none⟩ = some (.pointer (some ⟨y, 0, none⟩)))
    (hx : w.heap[x]? = some (.cells #[.int .u64 i1, .int .u64 a1, p1] T (0, 0))) (hy : w.heap[y]? = some (.cells #[.int .u64 i2, .int .u64 a2, p2] T (0, 0))) :
    Calls Try.prog 72 #[.slice (some ⟨g, 0, none⟩) n c, .int .i64 i, .int .i64 k] w fun e w' => e = .returned (.bool (decide (ordI a1 i1 a2 i2 < 0))) ∧ Below w.heap.size w w' := by
  have hi0 : (i : Int) < n := by omega
  have hk0 : (k : Int) < n := by omega
  have HX := Lib.hid hx
  have HY := Lib.hid hy
  clear hx hy
  go_enter Try.func72, Try.ntmps72
  go_wp2
  go_region_held3 (fun w' => w'.cell? ⟨g, i, none⟩ = some (.pointer (some ⟨x, 0, none⟩)) ∧ w'.cell? ⟨g, k, none⟩ = some (.pointer (some ⟨y, 0, none⟩)))
    ((first | go_keep | (have hlg := World.block_lt_of_cell? w _ ci; exact ⟨(hb.cell (p := ⟨g, i, none⟩) hlg).trans ci, (hb.cell (p := ⟨g, k, none⟩) hlg).trans ck⟩)))
    ((go_at_call 31; refine (order_any _ x y i1 a1 i2 a2 p1 p2 T (by exact HX.out) (by exact HY.out)).mono ?_; rintro e w' ⟨rfl, hb⟩))
  go_wp2
  go_ret
  exact ⟨by rfl, (Below.refl w.heap.size w).drew.trans hb⟩

set_option maxHeartbeats 2000000 in
theorem swap_any (w : World) (g n c i k x y : Nat) (cs : Array Value) (E T : TypeId) (i1 a1 i2 a2 p1 p2 : Value) (hi : i < n) (hk : k < n) (hik : i ≠ k) (hn : n ≤ cs.size)
    (hg : w.heap[g]? = some (.cells cs E (0, 0))) (ci : cs[i]? = some (.pointer (some ⟨x, 0, none⟩))) (ck : cs[k]? = some (.pointer (some ⟨y, 0, none⟩)))
    (hx : w.heap[x]? = some (.cells #[i1, a1, p1] T (0, 0))) (hy : w.heap[y]? = some (.cells #[i2, a2, p2] T (0, 0))) (hxy : x ≠ y) (hxg : x ≠ g) (hyg : y ≠ g) :
    Calls Try.prog 73 #[.slice (some ⟨g, 0, none⟩) n c, .int .i64 i, .int .i64 k] w fun e w' => e = .returned (.tuple #[]) ∧
      ∃ q, w' = ((((w.setCell ⟨g, i, none⟩ (.pointer (some ⟨y, 0, none⟩))).setCell ⟨g, k, none⟩ (.pointer (some ⟨x, 0, none⟩))).setCell ⟨y, 2, none⟩ (.int .i64 i)).setCell ⟨x, 2, none⟩ (.int .i64 k)).drewN q := by
  have hi0 : (i : Int) < n := by omega
  have hk0 : (k : Int) < n := by omega
  have c1 : w.cell? ⟨g, i, none⟩ = some (.pointer (some ⟨x, 0, none⟩)) := (cellB hg i).trans ci
  have c2 : w.cell? ⟨g, k, none⟩ = some (.pointer (some ⟨y, 0, none⟩)) := (cellB hg k).trans ck
  have f1 : w.frozen? ⟨g, i, none⟩ = false := frozenB hg i
  have f2 : w.frozen? ⟨g, k, none⟩ = false := frozenB hg k
  have d1 : w.cell? ⟨x, 2, none⟩ = some p1 := cellB hx 2
  have d2 : w.cell? ⟨y, 2, none⟩ = some p2 := cellB hy 2
  have e1 : w.frozen? ⟨x, 2, none⟩ = false := frozenB hx 2
  have e2 : w.frozen? ⟨y, 2, none⟩ = false := frozenB hy 2
  clear hx hy hg ci ck
  go_enter Try.func73, Try.ntmps73
  go_wp2
  go_region
  go_wp2
  go_region
  go_end0
  exact ⟨rfl, 2, rfl⟩
end Go.Proofs.Ytfeikcfhionjkaa.Hp
