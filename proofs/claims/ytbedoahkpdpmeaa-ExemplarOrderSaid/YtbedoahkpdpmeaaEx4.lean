/- slices.BinarySearchFunc at a sorted row of exemplars. -/
import Derived.Test.YtbedoahkpdpmeaaEx3
import Derived.Deep.CutBlock
import Derived.Deep.RegionHeld3
set_option linter.unusedVariables false
set_option linter.unusedSimpArgs false
namespace Go.Proofs.Ytbedoahkpdpmeaa.Ex
open Go.RowKit Go.Proofs.Ytbedoahkpdpmeaa.B0 Go.Proofs.Ytbedoahkpdpmeaa.Pe Go.Proofs.YtbedoahkpdpmeaaW.PrintWords

def cnt (X : List One) (x : One) : Nat := (X.filter fun y => decide (ordE y x < 0)).length
theorem cnt_le (X : List One) (x : One) : cnt X x ≤ X.length := List.length_filter_le _ _
theorem cnt_iff {x : One} : ∀ {X : List One}, X.Pairwise lt4 → ∀ {h : Nat} {y : One}, X[h]? = some y → (ordE y x < 0 ↔ h < cnt X x)
  | [], _, h, y, hy => by simp at hy
  | a :: X, hs, h, y, hy => by
    obtain ⟨h1, h2⟩ := List.pairwise_cons.1 hs
    have hX : ∀ z, z ∈ X → lt4 a z := h1
    by_cases ha : ordE a x < 0
    · have e : cnt (a :: X) x = cnt X x + 1 := by unfold cnt; rw [List.filter_cons, if_pos (by simpa using ha)]; rfl
      cases h with
      | zero => simp only [List.getElem?_cons_zero, Option.some.injEq] at hy; subst hy; rw [e]; simp [ha]
      | succ h =>
        simp only [List.getElem?_cons_succ] at hy
        rw [cnt_iff h2 hy, e]; omega
    · have e0 : cnt (a :: X) x = 0 := by
        unfold cnt
        rw [List.length_eq_zero_iff, List.filter_eq_nil_iff]
        intro z hz
        rcases List.mem_cons.1 hz with rfl | hz
        · simpa using ha
        · have := hX z hz
          simp only [decide_eq_true_eq]
          intro hzx
          exact ha ((ordE_lt _ _).2 (lt4_trans this ((ordE_lt _ _).1 hzx)))
      rw [e0]
      refine ⟨fun hh => ?_, fun hh => by omega⟩
      exfalso
      cases h with
      | zero => simp only [List.getElem?_cons_zero, Option.some.injEq] at hy; subst hy; exact ha hh
      | succ h =>
        simp only [List.getElem?_cons_succ] at hy
        exact ha ((ordE_lt _ _).2 (lt4_trans (hX _ (List.mem_of_getElem? hy)) ((ordE_lt _ _).1 hh)))

theorem Below_drewN {B : Nat} {a b : World} (h : Below B a b) (n : Nat) : Below B a (b.drewN n) := ⟨h.os, h.tape, h.output, h.size, h.block⟩
def fnd (X : List One) (x : One) : Bool := match X[cnt X x]? with | some y => decide (ordE y x = 0) | none => false

def flat (X : List One) : List Value := X.flatMap one4
theorem flat_len (X : List One) : (flat X).length = X.length * 4 := by
  induction X with
  | nil => rfl
  | cons a X ih => unfold flat at *; rw [List.flatMap_cons, List.length_append, ih]; simp [one4]; omega
theorem flat_at {X : List One} {h : Nat} {y : One} (hy : X[h]? = some y) (j : Nat) (hj : j < 4) : (flat X)[h * 4 + j]? = (one4 y)[j]? := by
  induction X generalizing h with
  | nil => simp at hy
  | cons a X ih =>
    have e : flat (a :: X) = one4 a ++ flat X := by unfold flat; rw [List.flatMap_cons]
    have l4 : (one4 a).length = 4 := rfl
    rw [e]
    cases h with
    | zero => simp only [List.getElem?_cons_zero, Option.some.injEq] at hy; subst hy; rw [Nat.zero_mul, Nat.zero_add, List.getElem?_append_left (by omega)]
    | succ h =>
      simp only [List.getElem?_cons_succ] at hy
      rw [List.getElem?_append_right (by omega), l4, show (h + 1) * 4 + j - 4 = h * 4 + j from by omega]
      exact ih hy

set_option maxRecDepth 100000 in
set_option maxHeartbeats 4000000 in
theorem BSF_c (w : World) (base g c : Nat) (X : List One) (x : One) (ho : w.ownsRow base 31 4 (.slice (some ⟨g, 0, none⟩) X.length c) X.length (flat X)) (hs : X.Pairwise lt4) (hX : X.length < 1000) :
    Calls Try.prog 17 #[.slice (some ⟨g, 0, none⟩) X.length c, .agg #[.int .u64 x.f0, .int .u64 x.f1, .int .u64 x.f2, .bool x.f3], .func (.func 18) #[] #[]] w fun e w' => e = .returned (.tuple #[.int .i64 (cnt X x), .bool (fnd X x)]) ∧ Below w.heap.size w w' := by
  have HO := Lib.hid ho; clear ho
  have HS := Lib.hid hs; clear hs
  go_enter Try.func17, Try.ntmps17
  go_wp2_with fail
  obtain ⟨w1, hw1⟩ : ∃ w1, Hid (w1 = w.alloc (Obj.cells #[Value.int IntKind.u64 x.f0, Value.int IntKind.u64 x.f1, Value.int IntKind.u64 x.f2, Value.bool x.f3] 31)) := ⟨_, rfl⟩
  have hx1 : w1.heap[w.heap.size]? = some (.cells #[Value.int IntKind.u64 x.f0, Value.int IntKind.u64 x.f1, Value.int IntKind.u64 x.f2, Value.bool x.f3] 31 (0, 0)) := by rw [hw1.out]; exact allocN w _
  have hB1 : Below w.heap.size w w1 := by rw [hw1.out]; exact (Below.refl _ _).alloc (Nat.le_refl _) _
  have HO1 : Hid (w1.ownsRow base 31 4 (.slice (some ⟨g, 0, none⟩) X.length c) X.length (flat X)) := by rw [hw1.out]; exact HO.out.alloc _
  rw [← hw1.out]
  have HX1 := Lib.hid hx1; clear hx1
  have HB1 := Lib.hid hB1; clear hB1 HO hw1
  go_loopw [9, 10] (fun iv jv wt => ∃ (i j : Nat), iv = .int .i64 i ∧ jv = .int .i64 j ∧ i ≤ cnt X x ∧ cnt X x ≤ j ∧ j ≤ X.length ∧ Hid (Below w1.heap.size w1 wt)) (fun iv jv _ => (intOf jv).toNat - (intOf iv).toNat)
  case atStart => exact ⟨0, X.length, rfl, rfl, Nat.zero_le _, cnt_le X x, Nat.le_refl _, Below.refl _ _⟩
  case round =>
    obtain ⟨i, j, rfl, rfl, hi, hj, hjX, HB⟩ := hrel
    by_cases hij : i < j
    · have hijI : (i : Int) < (j : Int) := by omega
      have hjI : (j : Int) < 1000 := by omega
      obtain ⟨m, hm⟩ : ∃ m : Nat, ((i : Int) + (j : Int)) / 2 = (m : Int) := ⟨(i + j) / 2, by omega⟩
      have hmj : m < j := by omega
      have him : i ≤ m := by omega
      have hmX : (m : Int) < X.length := by omega
      obtain ⟨y, hy⟩ : ∃ y, X[m]? = some y := ⟨_, List.getElem?_eq_getElem (by omega)⟩
      have hiff := cnt_iff (x := x) HS.out hy
      have hrow : ∀ k, k < 4 → wr.cell? ⟨g, m * 4 + k, none⟩ = (one4 y)[k]? := fun k hk => by
        have h1 := World.ownsRow.cellAt HO1.out (m * 4 + k) (by omega)
        rw [flat_at hy k hk] at h1
        have h2 : ∃ u, (one4 y)[k]? = some u := ⟨_, List.getElem?_eq_getElem (by show k < 4; exact hk)⟩
        obtain ⟨u, hu⟩ := h2
        rw [hu] at h1
        rw [hu]
        exact (HB.out.cell (p := ⟨g, m * 4 + k, none⟩) (World.block_lt_of_cell? w1 _ h1)).trans h1
      have hxb : ∀ k, wr.cell? ⟨w.heap.size, k, none⟩ = w1.cell? ⟨w.heap.size, k, none⟩ := fun k => HB.out.cell (p := ⟨w.heap.size, k, none⟩) (lt_of_get HX1.out)
      have d0 := (hxb 0).trans (cellB HX1.out 0)
      have d1 := (hxb 1).trans (cellB HX1.out 1)
      have d2 := (hxb 2).trans (cellB HX1.out 2)
      have d3 := (hxb 3).trans (cellB HX1.out 3)
      have r0 : wr.cell? ⟨g, m * 4, none⟩ = some (.int .u64 y.f0) := hrow 0 (by omega)
      have r1 : wr.cell? ⟨g, m * 4 + 1, none⟩ = some (.int .u64 y.f1) := hrow 1 (by omega)
      have r2 : wr.cell? ⟨g, m * 4 + 2, none⟩ = some (.int .u64 y.f2) := hrow 2 (by omega)
      have r3 : wr.cell? ⟨g, m * 4 + 3, none⟩ = some (.bool y.f3) := hrow 3 (by omega)
      replace d0 : wr.cell? ⟨w.heap.size, 0, none⟩ = some (.int .u64 x.f0) := d0
      replace d1 : wr.cell? ⟨w.heap.size, 1, none⟩ = some (.int .u64 x.f1) := d1
      replace d2 : wr.cell? ⟨w.heap.size, 2, none⟩ = some (.int .u64 x.f2) := d2
      replace d3 : wr.cell? ⟨w.heap.size, 3, none⟩ = some (.bool x.f3) := d3
      have HI := Lib.hid hiff
      clear hiff hrow hxb hy
      go_upto_region 5 with fail
      go_region_held3 (fun w' => (w'.cell? ⟨g, m * 4, none⟩ = some (.int .u64 y.f0) ∧ w'.cell? ⟨g, m * 4 + 1, none⟩ = some (.int .u64 y.f1) ∧ w'.cell? ⟨g, m * 4 + 2, none⟩ = some (.int .u64 y.f2) ∧ w'.cell? ⟨g, m * 4 + 3, none⟩ = some (.bool y.f3)) ∧ w'.cell? ⟨w.heap.size, 0, none⟩ = some (.int .u64 x.f0) ∧ w'.cell? ⟨w.heap.size, 1, none⟩ = some (.int .u64 x.f1) ∧ w'.cell? ⟨w.heap.size, 2, none⟩ = some (.int .u64 x.f2) ∧ w'.cell? ⟨w.heap.size, 3, none⟩ = some (.bool x.f3))
        ((first | go_keep | (have q0 := World.block_lt_of_cell? wr _ r0; have q1 := World.block_lt_of_cell? wr _ d0; exact ⟨⟨(hb.cell (p := ⟨g, m * 4, none⟩) q0).trans r0, (hb.cell (p := ⟨g, m * 4 + 1, none⟩) q0).trans r1, (hb.cell (p := ⟨g, m * 4 + 2, none⟩) q0).trans r2, (hb.cell (p := ⟨g, m * 4 + 3, none⟩) q0).trans r3⟩, (hb.cell (p := ⟨w.heap.size, 0, none⟩) q1).trans d0, (hb.cell (p := ⟨w.heap.size, 1, none⟩) q1).trans d1, (hb.cell (p := ⟨w.heap.size, 2, none⟩) q1).trans d2, (hb.cell (p := ⟨w.heap.size, 3, none⟩) q1).trans d3⟩)))
        ((go_at_call 18; refine (order_c y x _).mono ?_; rintro e w' ⟨rfl, hb⟩))
      have HB2 : Hid (Below w1.heap.size w1 w') := HB.out.trans (Below.trans (Below_drewN (Below.refl _ _) 1) (hb.mono (by have := HB.out.size; exact this)))
      by_cases hlt : ordE y x < 0
      · have := HI.out.1 hlt
        go_wp2_with fail
        go_roundw
        case rel => exact ⟨m + 1, j, by go_num, rfl, by omega, hj, hjX, HB2⟩
        case measure => simp [intOf]; omega
      · have : ¬ m < cnt X x := fun h => hlt (HI.out.2 h)
        have hlt' : (0 : Int) ≤ ordE y x := by omega
        go_wp2_with fail
        go_roundw
        case rel => exact ⟨i, m, rfl, rfl, hi, by omega, by omega, HB2⟩
        case measure => simp [intOf]; omega
    · obtain rfl : j = i := by omega
      obtain ⟨m, hmc⟩ : ∃ m, Hid (m = cnt X x) := ⟨_, rfl⟩
      obtain rfl : j = m := by rw [hmc.out]; omega
      by_cases hml : j < X.length
      · have hmX : (j : Int) < X.length := by omega
        obtain ⟨y, hy⟩ : ∃ y, X[j]? = some y := ⟨_, List.getElem?_eq_getElem (by omega)⟩
        have hF : Hid (fnd X x = decide (ordE y x = 0)) := by show _ = _; unfold fnd; rw [← hmc.out, hy]
        have hrow : ∀ k, k < 4 → wr.cell? ⟨g, j * 4 + k, none⟩ = (one4 y)[k]? := fun k hk => by
          have h1 := World.ownsRow.cellAt HO1.out (j * 4 + k) (by omega)
          rw [flat_at hy k hk] at h1
          have h2 : ∃ u, (one4 y)[k]? = some u := ⟨_, List.getElem?_eq_getElem (by show k < 4; exact hk)⟩
          obtain ⟨u, hu⟩ := h2
          rw [hu] at h1
          rw [hu]
          exact (HB.out.cell (p := ⟨g, j * 4 + k, none⟩) (World.block_lt_of_cell? w1 _ h1)).trans h1
        have hxb : ∀ k, wr.cell? ⟨w.heap.size, k, none⟩ = w1.cell? ⟨w.heap.size, k, none⟩ := fun k => HB.out.cell (p := ⟨w.heap.size, k, none⟩) (lt_of_get HX1.out)
        have d0 := (hxb 0).trans (cellB HX1.out 0)
        have d1 := (hxb 1).trans (cellB HX1.out 1)
        have d2 := (hxb 2).trans (cellB HX1.out 2)
        have d3 := (hxb 3).trans (cellB HX1.out 3)
        have r0 : wr.cell? ⟨g, j * 4, none⟩ = some (.int .u64 y.f0) := hrow 0 (by omega)
        have r1 : wr.cell? ⟨g, j * 4 + 1, none⟩ = some (.int .u64 y.f1) := hrow 1 (by omega)
        have r2 : wr.cell? ⟨g, j * 4 + 2, none⟩ = some (.int .u64 y.f2) := hrow 2 (by omega)
        have r3 : wr.cell? ⟨g, j * 4 + 3, none⟩ = some (.bool y.f3) := hrow 3 (by omega)
        replace d0 : wr.cell? ⟨w.heap.size, 0, none⟩ = some (.int .u64 x.f0) := d0
        replace d1 : wr.cell? ⟨w.heap.size, 1, none⟩ = some (.int .u64 x.f1) := d1
        replace d2 : wr.cell? ⟨w.heap.size, 2, none⟩ = some (.int .u64 x.f2) := d2
        replace d3 : wr.cell? ⟨w.heap.size, 3, none⟩ = some (.bool x.f3) := d3
        clear hrow hxb hy hi hj
        go_upto_region 8 with fail
        go_region_held3 (fun w' => (w'.cell? ⟨g, j * 4, none⟩ = some (.int .u64 y.f0) ∧ w'.cell? ⟨g, j * 4 + 1, none⟩ = some (.int .u64 y.f1) ∧ w'.cell? ⟨g, j * 4 + 2, none⟩ = some (.int .u64 y.f2) ∧ w'.cell? ⟨g, j * 4 + 3, none⟩ = some (.bool y.f3)) ∧ w'.cell? ⟨w.heap.size, 0, none⟩ = some (.int .u64 x.f0) ∧ w'.cell? ⟨w.heap.size, 1, none⟩ = some (.int .u64 x.f1) ∧ w'.cell? ⟨w.heap.size, 2, none⟩ = some (.int .u64 x.f2) ∧ w'.cell? ⟨w.heap.size, 3, none⟩ = some (.bool x.f3))
          ((first | go_keep | (have q0 := World.block_lt_of_cell? wr _ r0; have q1 := World.block_lt_of_cell? wr _ d0; exact ⟨⟨(hb.cell (p := ⟨g, j * 4, none⟩) q0).trans r0, (hb.cell (p := ⟨g, j * 4 + 1, none⟩) q0).trans r1, (hb.cell (p := ⟨g, j * 4 + 2, none⟩) q0).trans r2, (hb.cell (p := ⟨g, j * 4 + 3, none⟩) q0).trans r3⟩, (hb.cell (p := ⟨w.heap.size, 0, none⟩) q1).trans d0, (hb.cell (p := ⟨w.heap.size, 1, none⟩) q1).trans d1, (hb.cell (p := ⟨w.heap.size, 2, none⟩) q1).trans d2, (hb.cell (p := ⟨w.heap.size, 3, none⟩) q1).trans d3⟩)))
          ((go_at_call 18; refine (order_c y x _).mono ?_; rintro e w' ⟨rfl, hb⟩))
        have HB2 : Hid (Below w1.heap.size w1 w') := HB.out.trans (Below.trans (Below_drewN (Below.refl _ _) 1) (hb.mono (by have := HB.out.size; exact this)))
        go_wp2_with fail
        go_ret2
        refine ⟨?_, HB1.out.trans (HB2.out.mono HB1.out.size)⟩
        rw [hF.out, hmc.out]
        congr 1
      · have hjl : ¬ (j : Int) < X.length := by omega
        have hF : Hid (fnd X x = false) := by show _ = _; unfold fnd; rw [← hmc.out, List.getElem?_eq_none (by omega)]
        clear hi hj
        go_wp2_with fail
        go_quiet (fail)
        go_wp2_with fail
        go_ret2
        refine ⟨?_, HB1.out.trans (Below.trans (HB.out.mono HB1.out.size) (Below_drewN (Below.refl _ _) _))⟩
        rw [hF.out, hmc.out]
        rfl
end Go.Proofs.Ytbedoahkpdpmeaa.Ex
