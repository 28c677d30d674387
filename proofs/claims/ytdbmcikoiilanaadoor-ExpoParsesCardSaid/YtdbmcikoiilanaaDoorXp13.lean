/- expo: slices.Clone of labels, as a Call. -/
import Derived.Test.YtdbmcikoiilanaaDoorXp12
set_option linter.unusedVariables false
set_option linter.unusedSimpArgs false
namespace Go.Proofs.YtdbmcikoiilanaaDoor.Xp
open Go.RowKit Go.Proofs.YtdbmcikoiilanaaDoor.B0 Go.Proofs.YtdbmcikoiilanaaDoorW.PrintWords Go.Proofs.YtdbmcikoiilanaaDoor.Bld Go.Proofs.YtdbmcikoiilanaaDoor.Pp

set_option maxHeartbeats 4000000 in
set_option maxRecDepth 100000 in
theorem Clone_c (w : World) (A : Option Addr) (c : Nat) (ls : List SLab) (hC : Kd.C k71 w A ls.length ls) (hl : ls.length ≤ 1000000) (hA : A = none → c = 0) :
    Calls Tryd.prog 30 #[.slice A ls.length c] w fun e w' => ∃ v, e = .returned v ∧ Kd.R k71 71 w' w.heap.size (fun _ => True) v ls ∧ Below w.heap.size w w' := by
  obtain ⟨n, hn⟩ : ∃ n, ls.length = n := ⟨_, rfl⟩
  rw [hn] at hC ⊢
  have HN := Lib.hid hn
  rw [hn] at hl
  clear hn
  have HC := Lib.hid hC; clear hC
  rcases A with _ | ad
  · have h0 : n = 0 := by
      rcases Nat.eq_zero_or_pos n with h | h
      · exact h
      · obtain ⟨ad, e, _⟩ := HC.out.2.2 h; cases e
    have hc0 := hA rfl
    subst h0 hc0
    have hq : ∀ W, (binOp .eql 41 (.slice none 0 0) (.slice none 0 0)).run Tryd.prog W = .ok (.bool true) W := fun _ => by kernel_rfl
    have hls : Hid (ls = []) := List.eq_nil_of_length_eq_zero HN.out
    go_enter Tryd.func30, Tryd.ntmps30
    go_wp2_with fail
    go_ret
    exact ⟨_, rfl, by rw [hls.out]; exact Kd.R_nil _ _ _ _ _, Below.refl _ _⟩
  · have hq : ∀ W, (binOp .eql 41 (.slice (some ad) n c) (.slice none 0 0)).run Tryd.prog W = .ok (.bool false) W := fun _ => by kernel_rfl
    go_enter Tryd.func30, Tryd.ntmps30
    go_wp2_with ((with_reducible refine gate_dst (N := 5) rfl ?_); go_loud (refine Kd.R_lit k71 (w0 := w) w.heap.size 71 ?hg (N := 5) ?hd (xs := ([] : List SLab)) (inner := []) (ok := fun _ => True) (okp := fun _ => False) ?hr ?hp (fun _ _ => trivial) trivial (Below.refl _ _) (Nat.le_refl _) (by simp) ?_); (case hd => rfl); (case hg => rfl); (case hr => first | (go_simp; done) | (go_simp; rfl)); (case hp => exact (Reps.none _ _)))
    intro v1 w1 ho1 hb1 hg1 hn0 hn1 hn2
    have H1 : Hid (Kd.R k71 71 w1 w.heap.size (fun _ => True) v1 ([] : List SLab) ∧ Below w.heap.size w w1) := ⟨ho1, hb1⟩
    clear ho1 hb1 hg1 hn1 hn2
    have HC1 := Lib.hid (Kd.C_below HC.out H1.out.2)
    go_wp2_with (at_builtin; go_loud (refine Kd.R_append_rows k71 (Rr := k71.K w1) (w0 := w) w.heap.size rfl _ _ 41 71 (.agg #[(.string ⟨#[]⟩), (.string ⟨#[]⟩)]) 32 rfl Tryd.underlying41 info71 rfl (by decide) (by decide) v1 [] ls (some ad) n c (fun _ => True) (fun _ => False) rfl rfl H1.out.1 HC1.out (fun _ _ h => h) (fun _ h => h.elim) (fun _ _ => trivial) H1.out.2 H1.out.2.size (by simp only [List.length_nil]; omega) ?_))
    intro v2 w2 ho2 hb2 hg2 hat2
    have H2 : Hid (Kd.R k71 71 w2 w.heap.size (fun _ => True) v2 ls ∧ Below w.heap.size w w2) := ⟨ho2, hb2⟩
    clear ho2 hb2 hg2 hat2
    go_wp2_with fail
    go_ret
    exact ⟨v2, rfl, H2.out⟩
end Go.Proofs.YtdbmcikoiilanaaDoor.Xp
