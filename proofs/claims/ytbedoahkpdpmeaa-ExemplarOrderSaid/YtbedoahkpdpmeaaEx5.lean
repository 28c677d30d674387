/- slices.BinarySearchFunc at nil; slices.Clone at exemplars. -/
import Derived.Test.YtbedoahkpdpmeaaEx4
set_option linter.unusedVariables false
set_option linter.unusedSimpArgs false
namespace Go.Proofs.Ytbedoahkpdpmeaa.Ex
open Go.RowKit Go.Proofs.Ytbedoahkpdpmeaa.B0 Go.Proofs.Ytbedoahkpdpmeaa.Pe Go.Proofs.YtbedoahkpdpmeaaW.PrintWords

set_option maxRecDepth 100000 in
set_option maxHeartbeats 4000000 in
theorem BSF_nil (w : World) (x : One) :
    Calls Try.prog 17 #[.slice none 0 0, .agg #[.int .u64 x.f0, .int .u64 x.f1, .int .u64 x.f2, .bool x.f3], .func (.func 18) #[] #[]] w fun e w' => e = .returned (.tuple #[.int .i64 0, .bool false]) ∧ Below w.heap.size w w' := by
  go_enter Try.func17, Try.ntmps17
  go_wp2_with fail
  refine wp_loop_rounds 1 ?_
  rw [rounds_succ]
  go_wp2_with fail
  go_quiet (fail)
  go_wp2_with fail
  go_ret2
  exact ⟨rfl, Below_drewN ((Below.refl _ _).alloc (Nat.le_refl _) _) _⟩

set_option maxRecDepth 100000 in
set_option maxHeartbeats 4000000 in
theorem Clone_nil (w : World) : Calls Try.prog 20 #[.slice none 0 0] w fun e w' => e = .returned (.slice none 0 0) ∧ w = w' := by
  have hq : ∀ W, (binOp BinOp.eql 34 (.slice none 0 0) (.slice none 0 0)).run Try.prog W = .ok (.bool true) W := fun W => by kernel_rfl
  go_enter Try.func20, Try.ntmps20
  go_wp2_with fail
  go_ret
  exact ⟨rfl, rfl⟩

set_option maxRecDepth 100000 in
set_option maxHeartbeats 4000000 in
theorem Clone_c (w : World) (g c n : Nat) (news : List Value) (hl : news.length = n * 4) (hn : n < 1000)
    (hc : ∀ j u, news[j]? = some u → w.cell? ⟨g, j, none⟩ = some u) (h1 : ∀ u ∈ news, u.oneCell' = true) :
    Calls Try.prog 20 #[.slice (some ⟨g, 0, none⟩) n c] w fun e w' => ∃ v', e = .returned v' ∧ w'.ownsRow w.heap.size 31 4 v' n news ∧ Below w.heap.size w w' := by
  obtain ⟨i0, hi, hz0, hz1, hz2⟩ := info_parts info_One
  have hq : ∀ W, (binOp BinOp.eql 34 (.slice (some ⟨g, 0, none⟩) n c) (.slice none 0 0)).run Try.prog W = .ok (.bool false) W := fun W => by kernel_rfl
  have A := Lib.hid hc; clear hc
  have H1 := Lib.hid h1; clear h1
  go_enter Try.func20, Try.ntmps20
  go_wp2_with (at_builtin; refine wpList_append_own_at _ rfl _ _ 34 rfl w.heap.size 31 i0 _ 4 32 Try.underlying34 hi hz0 hz1 hz2 rfl (by decide) _ _ _ rfl (World.ownsRow_made w #[] 0 (Nat.le_refl _) (Nat.zero_le _) (by simp)) ⟨g, 0, none⟩ n c news rfl ?c0 ?c1 ?c2 ?c3 ?c4 ?c5 ?_)
  case c0 => exact hl
  case c1 =>
    intro j u hj
    rw [add_lit, Nat.zero_add]
    have h := A.out j u hj
    exact (((Below.refl w.heap.size w).alloc (Nat.le_refl _) _).cell (p := ⟨g, j, none⟩) (World.block_lt_of_cell? w _ h)).trans h
  case c2 => exact H1.out
  case c3 => unfold maxLen; omega
  case c4 => omega
  case c5 => simp
  intro v' w1 h1 h2 h3 h4
  have K1 := Lib.hid h1; have K2 := Lib.hid h2
  clear h1 h2 h3 h4 hi hz0 hz1 hz2
  go_wp2_with fail
  go_ret
  refine ⟨v', rfl, by have := K1.out; simpa using this, ?_⟩
  exact ((Below.refl _ w).alloc (Nat.le_refl _) _).grown K2.out (by simp) (by intro k hk; simp [Value.ownBlock] at hk; omega)
end Go.Proofs.Ytbedoahkpdpmeaa.Ex
