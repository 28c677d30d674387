/- exemplar.Show in memory; New, Best. -/
import Derived.Test.YtbedoahkpdpmeaaEx5
set_option linter.unusedVariables false
set_option linter.unusedSimpArgs false
namespace Go.Proofs.Ytbedoahkpdpmeaa.Ex
open Go.RowKit Go.Proofs.Ytbedoahkpdpmeaa.B0 Go.Proofs.Ytbedoahkpdpmeaa.Pe Go.Proofs.YtbedoahkpdpmeaaW.PrintWords

/-- the best ones: sorted, at most 'most' of them. -/
structure KA (w : World) (p : Nat) (most : Int) (X : List One) (v : Value) : Prop where
  hp : w.heap[p]? = some (.cells #[.int .i64 most, v] 52 (0, 0))
  own : w.ownsRow 0 31 4 v X.length (flat X)
  ne : v.ownBlock ≠ some p
  so : X.Pairwise lt4
  le : (X.length : Int) ≤ most
  hm : most ≤ 16

set_option maxRecDepth 100000 in
set_option maxHeartbeats 4000000 in
theorem New_c (most : Int) (w : World) (h0 : 0 ≤ most) (h1 : most ≤ 16) : Calls Try.prog 7 #[.int .i64 most] w fun e w' => ∃ p, e = .returned (.tuple #[.pointer (some ⟨p, 0, none⟩), .int .i64 0]) ∧ KA w' p most [] (.slice none 0 0) ∧ w.heap.size ≤ p ∧ Fr [] w w' := by
  go_enter Try.func7, Try.ntmps7
  go_wp2_with fail
  go_ret2
  exact ⟨_, rfl, ⟨allocN w _, World.ownsRow_nil _ _ _ _, by simp [Value.ownBlock], List.Pairwise.nil, by simpa using h0, h1⟩, Nat.le_refl _, (Fr.refl _ _).alloc _⟩

set_option maxRecDepth 100000 in
set_option maxHeartbeats 4000000 in
theorem New_no (most : Int) (w : World) (h : most < 0 ∨ 16 < most) : Calls Try.prog 7 #[.int .i64 most] w fun e w' => e = .returned (.tuple #[.pointer none, .int .i64 1]) ∧ w = w' := by
  by_cases h0 : most < 0
  · go_enter Try.func7, Try.ntmps7
    go_wp2_with fail
    go_ret2
    exact ⟨rfl, rfl⟩
  · have h1 : 16 < most := by omega
    go_enter Try.func7, Try.ntmps7
    go_wp2_with fail
    go_ret2
    exact ⟨rfl, rfl⟩

/-- Best reads as the list, in memory of its own. -/
def Row4 (w : World) (v : Value) (X : List One) : Prop := ∃ A c, v = .slice A X.length c ∧ X.length ≤ c ∧ ∀ j u, (flat X)[j]? = some u → ∃ g, A = some ⟨g, 0, none⟩ ∧ w.cell? ⟨g, j, none⟩ = some u
theorem one4_one (x : One) : ∀ u ∈ one4 x, u.oneCell' = true := by intro u hu; simp [one4] at hu; rcases hu with rfl | rfl | rfl | rfl <;> rfl
theorem flat_one (X : List One) : ∀ u ∈ flat X, u.oneCell' = true := by
  intro u hu
  obtain ⟨x, _, hx⟩ := List.mem_flatMap.1 hu
  exact one4_one x u hx

set_option maxRecDepth 100000 in
set_option maxHeartbeats 4000000 in
theorem Best_c {w : World} {p : Nat} {most : Int} {X : List One} {v : Value} (h : KA w p most X v) : Calls Try.prog 10 #[.pointer (some ⟨p, 0, none⟩)] w fun e w' => ∃ v', e = .returned v' ∧ w'.ownsRow w.heap.size 31 4 v' X.length (flat X) ∧ Below w.heap.size w w' := by
  have c1 : w.cell? ⟨p, 1, none⟩ = some v := cellB h.hp 1
  have hle := h.le
  have hm := h.hm
  rcases h.own.2 with ⟨rfl, h0⟩ | ⟨g, c, cur, rfl, _⟩
  · have hX : X = [] := List.eq_nil_of_length_eq_zero h0
    subst hX
    clear h
    go_enter Try.func10, Try.ntmps10
    go_wp2_with fail
    refine (Clone_nil w).mono ?_
    rintro e w1 ⟨rfl, rfl⟩
    go_wp2_with fail
    go_ret
    exact ⟨_, rfl, World.ownsRow_nil _ _ _ _, Below.refl _ _⟩
  · have H := Lib.hid h; clear h
    go_enter Try.func10, Try.ntmps10
    go_wp2_with fail
    refine (Clone_c w g c X.length (flat X) (flat_len X) (by omega) (fun j u hj => by
      have := H.out.own.cellAt j (by rw [← flat_len]; exact (List.getElem?_eq_some_iff.1 hj).1)
      rw [this]; exact hj) (flat_one X)).mono ?_
    rintro e w1 ⟨v', rfl, hO, hB⟩
    have HO := Lib.hid hO; have HB := Lib.hid hB; clear hO hB
    go_wp2_with fail
    go_ret
    exact ⟨v', rfl, HO.out, HB.out⟩
end Go.Proofs.Ytbedoahkpdpmeaa.Ex
