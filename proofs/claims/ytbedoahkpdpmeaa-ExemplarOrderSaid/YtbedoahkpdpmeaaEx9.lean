/- Shows by what they hold (K1, K2); the chapter's example is true. -/
import Derived.Test.YtbedoahkpdpmeaaEx8
set_option linter.unusedVariables false
set_option linter.unusedSimpArgs false
namespace Go.Proofs.Ytbedoahkpdpmeaa.Ex
open Go.RowKit Go.Proofs.Ytbedoahkpdpmeaa.B0 Go.Proofs.Ytbedoahkpdpmeaa.Pe Go.Proofs.YtbedoahkpdpmeaaW.PrintWords

def foot (p : Nat) (v : Value) : List Nat := p :: v.ownBlock.toList
theorem KA.fr {w w' : World} {p : Nat} {most : Int} {X : List One} {v : Value} {F : List Nat} (h : KA w p most X v) (hF : Fr F w w') (hn : ∀ k, k ∈ foot p v → k ∉ F) : KA w' p most X v :=
  ⟨hF.get h.hp (hn p (by simp [foot])), own_fr h.own hF (fun k hk => hn k (by simp [foot, hk])), h.ne, h.so, h.le, h.hm⟩
theorem KA.lt {w : World} {p : Nat} {most : Int} {X : List One} {v : Value} (h : KA w p most X v) : ∀ k, k ∈ foot p v → k < w.heap.size := by
  intro k hk
  simp only [foot, List.mem_cons, Option.mem_toList] at hk
  rcases hk with rfl | hk
  · exact lt_of_get h.hp
  · exact (h.own.lt k hk).2

/-- one Show, all of it from block B on. -/
def K1 (w : World) (B p : Nat) (most : Int) (X : List One) : Prop := ∃ v, KA w p most X v ∧ ∀ k, k ∈ foot p v → B ≤ k
/-- two Shows apart. -/
def K2 (w : World) (B p1 : Nat) (m1 : Int) (X1 : List One) (p2 : Nat) (m2 : Int) (X2 : List One) : Prop :=
  ∃ v1 v2, KA w p1 m1 X1 v1 ∧ KA w p2 m2 X2 v2 ∧ (∀ k, k ∈ foot p1 v1 → B ≤ k ∧ k ∉ foot p2 v2) ∧ ∀ k, k ∈ foot p2 v2 → B ≤ k
theorem K2.swap {w : World} {B p1 p2 : Nat} {m1 m2 : Int} {X1 X2 : List One} (h : K2 w B p1 m1 X1 p2 m2 X2) : K2 w B p2 m2 X2 p1 m1 X1 := by
  obtain ⟨v1, v2, h1, h2, d1, d2⟩ := h
  exact ⟨v2, v1, h2, h1, fun k hk => ⟨d2 k hk, fun h => (d1 k h).2 hk⟩, fun k hk => (d1 k hk).1⟩
theorem K1.below {w w' : World} {B p : Nat} {m : Int} {X : List One} {C : Nat} (h : K1 w B p m X) (hB : Below C w w') (hC : w.heap.size ≤ C) : K1 w' B p m X := by
  obtain ⟨v, h1, d⟩ := h
  exact ⟨v, h1.fr (Fr.of_below hB [] hC) (by simp), d⟩
theorem K2.below {w w' : World} {B p1 p2 : Nat} {m1 m2 : Int} {X1 X2 : List One} {C : Nat} (h : K2 w B p1 m1 X1 p2 m2 X2) (hB : Below C w w') (hC : w.heap.size ≤ C) : K2 w' B p1 m1 X1 p2 m2 X2 := by
  obtain ⟨v1, v2, h1, h2, d⟩ := h
  exact ⟨v1, v2, h1.fr (Fr.of_below hB [] hC) (by simp), h2.fr (Fr.of_below hB [] hC) (by simp), d⟩

theorem New_1 (most : Int) (w : World) (h0 : 0 ≤ most) (h1 : most ≤ 16) : Calls Try.prog 7 #[.int .i64 most] w fun e w' => ∃ p, e = .returned (.tuple #[.pointer (some ⟨p, 0, none⟩), .int .i64 0]) ∧ K1 w' w.heap.size p most [] ∧ Below w.heap.size w w' :=
  (New_c most w h0 h1).mono fun e w' ⟨p, he, hK, hp, hF⟩ => ⟨p, he, ⟨_, hK, by simp [foot, Value.ownBlock]; exact hp⟩, hF.below⟩
theorem New_2 {w : World} {B p1 : Nat} {m1 : Int} {X1 : List One} (h : K1 w B p1 m1 X1) (most : Int) (h0 : 0 ≤ most) (h1 : most ≤ 16) : Calls Try.prog 7 #[.int .i64 most] w fun e w' => ∃ p, e = .returned (.tuple #[.pointer (some ⟨p, 0, none⟩), .int .i64 0]) ∧ K2 w' B p1 m1 X1 p most [] ∧ Below w.heap.size w w' := by
  obtain ⟨v, hK, hB⟩ := h
  refine (New_c most w h0 h1).mono fun e w' ⟨p, he, hK2, hp, hF⟩ => ⟨p, he, ⟨v, _, hK.fr hF (by simp), hK2, fun k hk => ⟨hB k hk, ?_⟩, ?_⟩, hF.below⟩
  · have := hK.lt k hk
    simp [foot, Value.ownBlock]; omega
  · have := hK.lt p1 (by simp [foot])
    have := hB p1 (by simp [foot])
    simp [foot, Value.ownBlock]; omega
theorem Put_1 {w : World} {B p : Nat} {m : Int} {X : List One} (h : K1 w B p m X) (hB : B ≤ w.heap.size) (x : One) : Calls Try.prog 8 #[.pointer (some ⟨p, 0, none⟩), .agg #[.int .u64 x.f0, .int .u64 x.f1, .int .u64 x.f2, .bool x.f3]] w fun e w' => e = .returned (.int .i64 0) ∧ K1 w' B p m (putX m.toNat X x) ∧ Below B w w' := by
  obtain ⟨v, h1, d⟩ := h
  refine (Put_c h1 x).mono fun e w' ⟨he, v', hK, hF, hv⟩ => ⟨he, ⟨v', hK, ?_⟩, hF.belowB hB d⟩
  intro k hk
  simp only [foot, List.mem_cons, Option.mem_toList] at hk
  rcases hk with rfl | hk
  · exact d k (by simp [foot])
  · rcases hv k hk with h | h
    · exact d k (by simp [foot, h])
    · omega
theorem Put_2 {w : World} {B p1 p2 : Nat} {m1 m2 : Int} {X1 X2 : List One} (h : K2 w B p1 m1 X1 p2 m2 X2) (hB : B ≤ w.heap.size) (x : One) : Calls Try.prog 8 #[.pointer (some ⟨p1, 0, none⟩), .agg #[.int .u64 x.f0, .int .u64 x.f1, .int .u64 x.f2, .bool x.f3]] w fun e w' => e = .returned (.int .i64 0) ∧ K2 w' B p1 m1 (putX m1.toNat X1 x) p2 m2 X2 ∧ Below B w w' := by
  obtain ⟨v1, v2, h1, h2, d1, d2⟩ := h
  refine (Put_c h1 x).mono fun e w' ⟨he, v', hK, hF, hv⟩ => ⟨he, ⟨v', v2, hK, h2.fr hF (fun k hk hk' => (d1 k hk').2 hk), ?_, d2⟩, hF.belowB hB (fun k hk => (d1 k hk).1)⟩
  intro k hk
  simp only [foot, List.mem_cons, Option.mem_toList] at hk
  rcases hk with rfl | hk
  · exact d1 k (by simp [foot])
  · rcases hv k hk with h | h
    · exact d1 k (by simp [foot, h])
    · exact ⟨by omega, fun hh => by have := h2.lt k hh; omega⟩
theorem Best_1 {w : World} {B p : Nat} {m : Int} {X : List One} (h : K1 w B p m X) : Calls Try.prog 10 #[.pointer (some ⟨p, 0, none⟩)] w fun e w' => ∃ v', e = .returned v' ∧ w'.ownsRow w.heap.size 31 4 v' X.length (flat X) ∧ Below w.heap.size w w' := by
  obtain ⟨v, h1, d⟩ := h
  exact Best_c h1
theorem K2.one {w : World} {B p1 p2 : Nat} {m1 m2 : Int} {X1 X2 : List One} (h : K2 w B p1 m1 X1 p2 m2 X2) : K1 w B p1 m1 X1 := by
  obtain ⟨v1, v2, h1, h2, d1, d2⟩ := h
  exact ⟨v1, h1, fun k hk => (d1 k hk).1⟩
/-- what Best gives, to be read: its elements at their places. -/
theorem row_read {w : World} {base : Nat} {v : Value} {X : List One} (h : w.ownsRow base 31 4 v X.length (flat X)) : ∃ A c, v = .slice A X.length c ∧ ∀ (i : Nat) y, X[i]? = some y → ∃ g, A = some ⟨g, 0, none⟩ ∧ w.cell? ⟨g, i * 4, none⟩ = some (.int .u64 y.f0) ∧ w.cell? ⟨g, i * 4 + 1, none⟩ = some (.int .u64 y.f1) ∧ w.cell? ⟨g, i * 4 + 2, none⟩ = some (.int .u64 y.f2) ∧ w.cell? ⟨g, i * 4 + 3, none⟩ = some (.bool y.f3) := by
  rcases h.2 with ⟨rfl, h0⟩ | ⟨g, cap, cur, rfl, _⟩
  · refine ⟨none, 0, by rw [h0], fun i y hy => ?_⟩
    have := (List.getElem?_eq_some_iff.1 hy).1
    omega
  · refine ⟨some ⟨g, 0, none⟩, cap, rfl, fun i y hy => ⟨g, rfl, ?_⟩⟩
    have hil := (List.getElem?_eq_some_iff.1 hy).1
    have hc : ∀ j, j < 4 → w.cell? ⟨g, i * 4 + j, none⟩ = (one4 y)[j]? := fun j hj => by
      rw [h.cellAt (i * 4 + j) (by omega)]; exact flat_at hy j hj
    exact ⟨hc 0 (by omega), hc 1 (by omega), hc 2 (by omega), hc 3 (by omega)⟩

def o1 : One := ⟨1, 1, 5, false⟩
def o2 : One := ⟨2, 1, 9, false⟩
set_option maxRecDepth 100000 in
set_option maxHeartbeats 4000000 in
theorem alive21 (w : World) : Calls Try.prog 6 #[] w fun e w' => e = .returned (.bool true) ∧ Below w.heap.size w w' := by
  go_enter Try.func6, Try.ntmps6
  go_wp2_with fail
  refine (New_1 1 w (by decide) (by decide)).mono ?_
  rintro e w0 ⟨p, rfl, hK0, hB0⟩
  have H0 := Lib.hid hB0; clear hB0
  go_wp2_with fail
  refine (Put_1 hK0 H0.out.size o1).mono ?_
  rintro e w1 ⟨rfl, hK1, hB1⟩
  have H1 := Lib.hid (H0.out.trans hB1); clear hB1 hK0
  rw [show putX (1 : Int).toNat [] o1 = [o1] from rfl] at hK1
  go_wp2_with fail
  refine (Put_1 hK1 H1.out.size o2).mono ?_
  rintro e w2 ⟨rfl, hK2, hB2⟩
  have H2 := Lib.hid (H1.out.trans hB2); clear hB2 hK1
  rw [show putX (1 : Int).toNat [o1] o2 = [o2] from rfl] at hK2
  go_wp2_with fail
  refine (Best_1 hK2).mono ?_
  rintro e w3 ⟨v, rfl, hO, hB3⟩
  have H3 := Lib.hid (H2.out.trans (hB3.mono H2.out.size)); clear hB3 hK2
  obtain ⟨A, c, rfl, hr⟩ := row_read hO
  obtain ⟨g, rfl, _, _, c2, _⟩ := hr 0 o2 rfl
  have c2' : w3.cell? ⟨g, 2, none⟩ = some (.int .u64 9) := c2
  clear c2 hr hO
  go_wp2_with fail
  refine (New_no 17 w3 (.inr (by decide))).mono ?_
  rintro e w4 ⟨rfl, rfl⟩
  go_wp2_with fail
  go_ret
  exact ⟨rfl, H3.out⟩
end Go.Proofs.Ytbedoahkpdpmeaa.Ex
