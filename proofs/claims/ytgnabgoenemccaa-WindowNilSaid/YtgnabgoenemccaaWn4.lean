/- window: slices.Sort of at most one uint64. -/
import Derived.Test.YtgnabgoenemccaaWn3
import Derived.Test.YtgnabgoenemccaaSh
import Derived.WalkLawsBesides
import Derived.WalkSpells
set_option linter.unusedVariables false
set_option linter.unusedSimpArgs false
namespace Go.Proofs.Ytgnabgoenemccaa.Wn
open Go.RowKit Go.Proofs.Ytgnabgoenemccaa.B0
set_option maxHeartbeats 4000000 in
set_option maxRecDepth 100000 in
theorem ins1_c (p : Option Addr) (cap : Nat) (n : Nat) (hn : n ≤ 1) (w : World) :
    Calls Try.prog 47 #[.slice p n cap, .int .i64 0, .int .i64 (n : Int)] w fun e w' => e = .returned (.tuple #[]) ∧ w' = w := by
  have f1 : decide ((1 : Int) < (n : Int)) = false := decide_eq_false (by omega)
  have f2 : decide (1 < n) = false := decide_eq_false (by omega)
  go_enter Try.func47, Try.ntmps47
  go_wp2_with fail
  go_loopw [6] (fun v6 wr => v6 = Value.int .i64 1 ∧ wr = w) (fun _ _ => 0)
  case atStart => exact ⟨rfl, rfl⟩
  case round =>
    obtain ⟨rfl, rfl⟩ := hrel
    go_wp2_with fail
    go_end0
    exact ⟨rfl, rfl⟩
set_option maxHeartbeats 4000000 in
set_option maxRecDepth 100000 in
theorem pdq1_c (p : Option Addr) (cap : Nat) (n : Nat) (hn : n ≤ 1) (li : Int) (w : World) :
    Calls Try.prog 45 #[.slice p n cap, .int .i64 0, .int .i64 (n : Int), .int .i64 li] w fun e w' => e = .returned (.tuple #[]) ∧ w' = w := by
  have f1 : decide ((n : Int) ≤ 12) = true := decide_eq_true (by omega)
  have f2 : decide (n ≤ 12) = true := decide_eq_true (by omega)
  go_enter Try.func45, Try.ntmps45
  go_wp2_with fail
  go_loopw [1, 2, 3] (fun v1 v2 v3 wr => v1 = Value.int .i64 0 ∧ v2 = Value.int .i64 (n : Int) ∧ v3 = Value.int .i64 li ∧ wr = w) (fun _ _ _ _ => 0)
  case atStart => exact ⟨rfl, rfl, rfl, rfl⟩
  case round =>
    obtain ⟨rfl, rfl, rfl, rfl⟩ := hrel
    go_wp2_with fail
    refine (ins1_c p cap n hn _).mono ?_
    rintro e w2 ⟨rfl, rfl⟩
    go_wp2_with fail
    refine bodyPost_ret (results_none rfl _ _ _) rfl ?_
    exact ⟨rfl, rfl⟩
set_option maxHeartbeats 4000000 in
set_option maxRecDepth 100000 in
theorem sort1_c (p : Option Addr) (cap : Nat) (n : Nat) (hn : n ≤ 1) (w : World) :
    Calls Try.prog 41 #[.slice p n cap] w fun e w' => e = .returned (.tuple #[]) ∧ w' = w := by
  go_enter Try.func41, Try.ntmps41
  go_wp2_with fail
  refine (Try.bits_Len (n : Int) w (by omega) (by omega)).mono ?_
  rintro e w2 ⟨rfl, rfl⟩
  go_wp2_with fail
  refine (pdq1_c p cap n hn _ _).mono ?_
  rintro e w2 ⟨rfl, rfl⟩
  go_wp2_with fail
  go_end0
  exact ⟨rfl, rfl⟩

/-- slices.Sort at slices of at most N uint64. -/
def SortU (N : Nat) : Prop := ∀ (g cap : Nat) (ss : List Int) (cur : Array Value) (W : World), ss.length ≤ N → (∀ x ∈ ss, 0 ≤ x ∧ x < 18446744073709551616) → W.heap[g]? = some (.cells cur 22 (0, 0)) → ss.length ≤ cap → cap ≤ maxLen → cur.size = cap → cur.toList.take ss.length = ss.map encU →
    Calls Try.prog 41 #[.slice (some ⟨g, 0, none⟩) ss.length cap] W fun e w' => e = .returned (.tuple #[]) ∧ Fr [g] W w' ∧
      ∃ cur', w'.heap[g]? = some (.cells cur' 22 (0, 0)) ∧ cur'.size = cap ∧ cur'.toList.take ss.length = (ss.mergeSort fun x y => decide (x ≤ y)).map encU
theorem sortU1 : SortU 1 := fun g cap ss cur W hl hb hg h1 h2 h3 h4 => by
  refine (sort1_c (some ⟨g, 0, none⟩) cap ss.length hl W).mono ?_
  rintro e w' ⟨rfl, rfl⟩
  refine ⟨rfl, Fr.refl _ _, cur, hg, h3, ?_⟩
  have : (ss.mergeSort fun x y => decide (x ≤ y)) = ss := by
    match ss, hl with
    | [], _ => simp
    | [a], _ => simp
  rw [this]; exact h4
end Go.Proofs.Ytgnabgoenemccaa.Wn
