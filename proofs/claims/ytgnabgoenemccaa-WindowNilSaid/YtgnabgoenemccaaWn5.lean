/- window: the book of ints: New, over, At (no maker), Open. -/
import Derived.Test.YtgnabgoenemccaaWn4
import Derived.Test.YtgnabgoenemccaaWn2
import Derived.Deep.QuietTactic
import Derived.BigQuiet
import Derived.Deep.Draws
set_option linter.unusedVariables false
set_option linter.unusedSimpArgs false
namespace Go.Proofs.Ytgnabgoenemccaa.Wn
open Go.RowKit Go.Proofs.Ytgnabgoenemccaa.B0

/-- Entries of a map of ints. -/
def vI (M : List (Int × Int)) : List (Int × Value) := M.map fun p => (p.1, Value.int .i64 p.2)
/-- A book in block p, its map in block mb. -/
structure BookR (w : World) (p mb width late most mark : Nat) (M : List (Int × Int)) : Prop where
  blk : w.heap[p]? = some (.cells #[.int .u64 width, .int .u64 late, .int .i64 most, .int .u64 mark, .map (some mb)] 63 (0, 0))
  map : MapR encU w mb (vI M)
  keys : ∀ q, q ∈ M → 0 ≤ q.1 ∧ q.1 < 18446744073709551616
  len : M.length ≤ most
theorem BookR.fr {w w' : World} {p mb width late most mark : Nat} {M : List (Int × Int)} {F : List Nat} (h : BookR w p mb width late most mark M) (hf : Fr F w w') (h1 : p ∉ F) (h2 : mb ∉ F) : BookR w' p mb width late most mark M where
  blk := hf.get h.blk h1
  map := h.map.fr hf h2
  keys := h.keys
  len := h.len
theorem BookR.lt {w : World} {p mb width late most mark : Nat} {M : List (Int × Int)} (h : BookR w p mb width late most mark M) : p < w.heap.size ∧ mb < w.heap.size := ⟨lt_of_get h.blk, h.map.lt⟩
theorem BookR.ne {w : World} {p mb width late most mark : Nat} {M : List (Int × Int)} (h : BookR w p mb width late most mark M) : p ≠ mb := by
  obtain ⟨es, c, h1, _⟩ := h.map
  intro e
  have h2 := h.blk
  rw [e, h1] at h2; cases h2
theorem KBu : KeyB Try.prog 22 encU := .u64 Try.underlying22

set_option maxHeartbeats 1000000 in
theorem New_i (width late most : Nat) (w : World) (hw : 1 ≤ width) (hw2 : width ≤ 4611686018427387904) (hl : late ≤ 4611686018427387904) (hm : 1 ≤ most) (hm2 : most ≤ 65536) :
    Calls Try.prog 11 #[.int .u64 width, .int .u64 late, .int .i64 most] w fun e w' => ∃ p mb, e = .returned (.tuple #[.pointer (some ⟨p, 0, none⟩), .int .i64 0]) ∧ BookR w' p mb width late most 0 [] ∧ Fr [] w w' ∧ w.heap.size ≤ p ∧ w.heap.size ≤ mb := by
  have hmm := @run_makeMap Try.prog
  have f1 : decide ((width : Int) < 1) = false := decide_eq_false (by omega)
  have f2 : decide ((4611686018427387904 : Int) < (width : Int)) = false := decide_eq_false (by omega)
  have f3 : decide ((4611686018427387904 : Int) < (late : Int)) = false := decide_eq_false (by omega)
  have f4 : decide ((most : Int) < 1) = false := decide_eq_false (by omega)
  have f5 : decide ((65536 : Int) < (most : Int)) = false := decide_eq_false (by omega)
  have g1 : decide (width < 1) = false := decide_eq_false (by omega)
  have g2 : decide (4611686018427387904 < width) = false := decide_eq_false (by omega)
  have g3 : decide (4611686018427387904 < late) = false := decide_eq_false (by omega)
  have g4 : decide (most < 1) = false := decide_eq_false (by omega)
  have g5 : decide (65536 < most) = false := decide_eq_false (by omega)
  have HH := Lib.hid (And.intro hw (And.intro hw2 (And.intro hl (And.intro hm hm2))))
  clear hw hw2 hl hm hm2
  go_enter Try.func11, Try.ntmps11
  go_wp2_with fail
  go_ret2
  refine ⟨w.heap.size + 1, w.heap.size, by simp, ?_, ((Fr.refl [] w).alloc _).alloc _, by omega, Nat.le_refl _⟩
  have e1 := allocN (w.alloc (.map #[] 0)) (.cells #[.int .u64 width, .int .u64 late, .int .i64 most, .int .u64 0, .map (some w.heap.size)] 63)
  rw [size_alloc] at e1
  exact {
    blk := e1
    map := (MapR.made w).fr ((Fr.refl [] _).alloc _) (by simp)
    keys := fun q hq => by simp at hq
    len := by simp }
theorem New_no (width late : Nat) (most : Int) (w : World) (h : width < 1 ∨ 4611686018427387904 < width ∨ 4611686018427387904 < late ∨ most < 1 ∨ 65536 < most) :
    Calls Try.prog 11 #[.int .u64 width, .int .u64 late, .int .i64 most] w fun e w' => e = .returned (.tuple #[.pointer none, .int .i64 1]) ∧ w' = w := by
  by_cases h1 : width < 1
  · have f1 : decide ((width : Int) < 1) = true := decide_eq_true (by omega)
    have g1 : decide (width < 1) = true := decide_eq_true h1
    clear h
    go_enter Try.func11, Try.ntmps11
    go_wp2_with fail
    go_ret2
    exact ⟨rfl, rfl⟩
  have f1 : decide ((width : Int) < 1) = false := decide_eq_false (by omega)
  have g1 : decide (width < 1) = false := decide_eq_false h1
  by_cases h2 : 4611686018427387904 < width
  · have f2 : decide ((4611686018427387904 : Int) < (width : Int)) = true := decide_eq_true (by omega)
    have g2 : decide (4611686018427387904 < width) = true := decide_eq_true h2
    clear h h1 h2
    go_enter Try.func11, Try.ntmps11
    go_wp2_with fail
    go_ret2
    exact ⟨rfl, rfl⟩
  have f2 : decide ((4611686018427387904 : Int) < (width : Int)) = false := decide_eq_false (by omega)
  have g2 : decide (4611686018427387904 < width) = false := decide_eq_false h2
  by_cases h3 : 4611686018427387904 < late
  · have f3 : decide ((4611686018427387904 : Int) < (late : Int)) = true := decide_eq_true (by omega)
    have g3 : decide (4611686018427387904 < late) = true := decide_eq_true h3
    clear h h1 h2 h3
    go_enter Try.func11, Try.ntmps11
    go_wp2_with fail
    go_ret2
    exact ⟨rfl, rfl⟩
  have f3 : decide ((4611686018427387904 : Int) < (late : Int)) = false := decide_eq_false (by omega)
  have g3 : decide (4611686018427387904 < late) = false := decide_eq_false h3
  by_cases h4 : most < 1
  · have f4 : decide (most < 1) = true := decide_eq_true h4
    clear h h1 h2 h3 h4
    go_enter Try.func11, Try.ntmps11
    go_wp2_with fail
    go_ret2
    exact ⟨rfl, rfl⟩
  have f4 : decide (most < 1) = false := decide_eq_false h4
  have f5 : decide (65536 < most) = true := decide_eq_true (by omega)
  clear h h1 h2 h3 h4
  go_enter Try.func11, Try.ntmps11
  go_wp2_with fail
  go_ret2
  exact ⟨rfl, rfl⟩
set_option maxHeartbeats 1000000 in
theorem over_i {w : World} {p mb width late most mark : Nat} {M : List (Int × Int)} (h : BookR w p mb width late most mark M) (n : Nat) (hn : n < 18446744073709551616) (hw : width ≤ 4611686018427387904) (hl : late ≤ 4611686018427387904) (hk : mark < 18446744073709551616) :
    Calls Try.prog 31 #[.pointer (some ⟨p, 0, none⟩), .int .u64 n] w fun e w' => e = .returned (.bool (overN n width late mark)) ∧ ∃ j, w' = w.drewN j := by
  have c0 : w.cell? ⟨p, 0, none⟩ = some (.int .u64 width) := cellB h.blk 0
  have c1 : w.cell? ⟨p, 1, none⟩ = some (.int .u64 late) := cellB h.blk 1
  have c3 : w.cell? ⟨p, 3, none⟩ = some (.int .u64 mark) := cellB h.blk 3
  have HH := Lib.hid (And.intro hn (And.intro hw (And.intro hl hk)))
  clear h hn hw hl hk
  go_enter Try.func31, Try.ntmps31
  go_wp2_with fail
  have HO : Hid (∀ W, Calls Try.prog 8 #[.int .u64 n, .int .u64 width, .int .u64 late, .int .u64 mark] W fun e w' => e = .returned (.bool (overN n width late mark)) ∧ w' = W) := fun W => Over_c n width late mark HH.out.1 (by have := HH.out.2.1; omega) (by have := HH.out.2.2.1; omega) HH.out.2.2.2 W
  go_quiet ((go_at_call 8; exact Calls.quiet_of_same (HO.out _)))
  go_wp2_with fail
  go_ret
  exact ⟨rfl, _, rfl⟩
end Go.Proofs.Ytgnabgoenemccaa.Wn
