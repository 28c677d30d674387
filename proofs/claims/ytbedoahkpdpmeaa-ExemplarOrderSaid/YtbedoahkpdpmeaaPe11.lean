/- The contract of span_Took, as the kit's print wrote it (taken over by the session's program pick.py). -/
import Derived.Test.YtbedoahkpdpmeaaPe10
namespace Go.Proofs.Ytbedoahkpdpmeaa.Pe
open Go.RowKit Go.Proofs.YtbedoahkpdpmeaaW.PrintWords Go.Proofs.YtbedoahkpdpmeaaW.PrintLast Go.Proofs.YtbedoahkpdpmeaaW.PrintMore
attribute [local go_sem] max2_int min2_int max_two min_two max_three min_three max_four min_four
set_option linter.unusedVariables false
set_option linter.unusedSimpArgs false

/-! ### span_Took: function 21 -/
def span_Took.f (a0_0 : Int) (a0_1 : Int) (a0_2 : Int) (a0_3 : ByteArray) (a0_4 : ByteArray) (a0_5 : Int) (a0_6 : Int) (a0_7 : Int) (a0_8 : Int) (l0_9 : List (S66)) : Option (Int) := if a0_8 < a0_7 then (some 0) else (some (IntKind.u64.wrap (a0_8 - a0_7)))
set_option maxHeartbeats 8000000 in
set_option maxRecDepth 100000 in
theorem span_Took.calls (a0_0 : Int) (a0_1 : Int) (a0_2 : Int) (a0_3 : ByteArray) (a0_4 : ByteArray) (a0_5 : Int) (a0_6 : Int) (a0_7 : Int) (a0_8 : Int) (A0_9 : Option Addr) (c0_9 : Nat) (l0_9 : List (S66)) (r : Int) (w : World) (hr0_9 : Kd.C k66 w A0_9 l0_9.length l0_9) (hc0_9 : l0_9.length ≤ c0_9) (h : span_Took.f a0_0 a0_1 a0_2 a0_3 a0_4 a0_5 a0_6 a0_7 a0_8 l0_9 = some r) :
    Calls Try.prog 21 #[.agg #[.int .u64 a0_0, .int .u64 a0_1, .int .u64 a0_2, .string a0_3, .string a0_4, .int .i64 a0_5, .int .i64 a0_6, .int .u64 a0_7, .int .u64 a0_8, .slice A0_9 l0_9.length c0_9]] w fun e w' => e = .returned (.int .u64 r) ∧ Below w.heap.size w w' := by
  have hu48 := Try.underlying48
  have HR0_9 := Aside0.mk hr0_9
  have HC0_9 := Aside0.mk hc0_9
  clear hr0_9 hc0_9
  have HB := Aside0.mk (Below.refl w.heap.size w)
  have H : (if a0_8 < a0_7 then (some 0) else (some (IntKind.u64.wrap (a0_8 - a0_7)))) = some r := h
  clear h
  by_cases c2 : a0_8 < a0_7
  · rw [if_pos c2] at H
    have c2b0 : decide (a0_8 < a0_7) = true := decide_eq_true c2
    clear c2
    obtain rfl := Option.some.inj H
    go_enter Try.func21, Try.ntmps21
    go_wp2_with (first | ((with_reducible refine gate_dst (N := 1) rfl ?_); refine box_event ?hg (N := 1) ?hd (cs := #[.int .u64 a0_0, .int .u64 a0_1, .int .u64 a0_2, .string a0_3, .string a0_4, .int .i64 a0_5, .int .i64 a0_6, .int .u64 a0_7, .int .u64 a0_8, .slice A0_9 l0_9.length c0_9]) (t := 48) ?hr ?_; (case hd => rfl); (case hg => rfl); (case hr => first | (go_simp; done) | (go_simp; rfl)); intro gb142 hg w3 hbox hb; have n0_ := Aside0.mk (below_step (by repeat (first | (with_reducible first | exact HB.out | apply below_alloc | apply pw_below_drewN | apply below_drew1) | exact HB.out)) hb); have n1_ := Aside0.mk (hbox); have n2_ := Aside0.mk ((by rw [hg]; exact (below_size (by repeat (first | (with_reducible first | exact HB.out | apply below_alloc | apply pw_below_drewN | apply below_drew1) | exact HB.out))) : w.heap.size ≤ gb142)); have n3_ := Aside0.mk ((by rw [hg]; exact (below_size (by repeat (first | (with_reducible first | exact HB.out | apply below_alloc | apply pw_below_drewN | apply below_drew1) | exact HB.out))) : w.heap.size ≤ gb142)); clear HB; have HB := n0_; have BK142 := n1_; have GW142 := n2_; have GE142 := n3_; clear n0_ n1_ n2_ n3_; clear hb hbox hg; have hcz4_0 : w3.cell? ⟨gb142, 0, none⟩ = some (.int .u64 a0_0) := (blk_cell BK142.out 0).trans rfl; have hcz4_1 : w3.cell? ⟨gb142, 1, none⟩ = some (.int .u64 a0_1) := (blk_cell BK142.out 1).trans rfl; have hcz4_2 : w3.cell? ⟨gb142, 2, none⟩ = some (.int .u64 a0_2) := (blk_cell BK142.out 2).trans rfl; have hcz4_3 : w3.cell? ⟨gb142, 3, none⟩ = some (.string a0_3) := (blk_cell BK142.out 3).trans rfl; have hcz4_4 : w3.cell? ⟨gb142, 4, none⟩ = some (.string a0_4) := (blk_cell BK142.out 4).trans rfl; have hcz4_5 : w3.cell? ⟨gb142, 5, none⟩ = some (.int .i64 a0_5) := (blk_cell BK142.out 5).trans rfl; have hcz4_6 : w3.cell? ⟨gb142, 6, none⟩ = some (.int .i64 a0_6) := (blk_cell BK142.out 6).trans rfl; have hcz4_7 : w3.cell? ⟨gb142, 7, none⟩ = some (.int .u64 a0_7) := (blk_cell BK142.out 7).trans rfl; have hcz4_8 : w3.cell? ⟨gb142, 8, none⟩ = some (.int .u64 a0_8) := (blk_cell BK142.out 8).trans rfl; have hcz4_9 : w3.cell? ⟨gb142, 9, none⟩ = some (.slice A0_9 l0_9.length c0_9) := (blk_cell BK142.out 9).trans rfl; have hfz4_0 := blk_frozen BK142.out 0; have hfz4_1 := blk_frozen BK142.out 1; have hfz4_2 := blk_frozen BK142.out 2; have hfz4_3 := blk_frozen BK142.out 3; have hfz4_4 := blk_frozen BK142.out 4; have hfz4_5 := blk_frozen BK142.out 5; have hfz4_6 := blk_frozen BK142.out 6; have hfz4_7 := blk_frozen BK142.out 7; have hfz4_8 := blk_frozen BK142.out 8; have hfz4_9 := blk_frozen BK142.out 9))
    go_ret
    exact ⟨by first | rfl | (simp [errW_none, errW_some] <;> rfl) | (simp [*, errW_none, errW_some] <;> rfl), by repeat (first | (with_reducible first | exact HB.out | apply below_alloc | apply pw_below_drewN | apply below_drew1 | refine below_set ?_ GE142.out) | exact HB.out)⟩
  · rw [if_neg c2] at H
    have c2b0 : decide (a0_8 < a0_7) = false := decide_eq_false c2
    clear c2
    obtain rfl := Option.some.inj H
    go_enter Try.func21, Try.ntmps21
    go_wp2_with (first | ((with_reducible refine gate_dst (N := 1) rfl ?_); refine box_event ?hg (N := 1) ?hd (cs := #[.int .u64 a0_0, .int .u64 a0_1, .int .u64 a0_2, .string a0_3, .string a0_4, .int .i64 a0_5, .int .i64 a0_6, .int .u64 a0_7, .int .u64 a0_8, .slice A0_9 l0_9.length c0_9]) (t := 48) ?hr ?_; (case hd => rfl); (case hg => rfl); (case hr => first | (go_simp; done) | (go_simp; rfl)); intro gb142 hg w5 hbox hb; have n0_ := Aside0.mk (below_step (by repeat (first | (with_reducible first | exact HB.out | apply below_alloc | apply pw_below_drewN | apply below_drew1) | exact HB.out)) hb); have n1_ := Aside0.mk (hbox); have n2_ := Aside0.mk ((by rw [hg]; exact (below_size (by repeat (first | (with_reducible first | exact HB.out | apply below_alloc | apply pw_below_drewN | apply below_drew1) | exact HB.out))) : w.heap.size ≤ gb142)); have n3_ := Aside0.mk ((by rw [hg]; exact (below_size (by repeat (first | (with_reducible first | exact HB.out | apply below_alloc | apply pw_below_drewN | apply below_drew1) | exact HB.out))) : w.heap.size ≤ gb142)); clear HB; have HB := n0_; have BK142 := n1_; have GW142 := n2_; have GE142 := n3_; clear n0_ n1_ n2_ n3_; clear hb hbox hg; have hcz6_0 : w5.cell? ⟨gb142, 0, none⟩ = some (.int .u64 a0_0) := (blk_cell BK142.out 0).trans rfl; have hcz6_1 : w5.cell? ⟨gb142, 1, none⟩ = some (.int .u64 a0_1) := (blk_cell BK142.out 1).trans rfl; have hcz6_2 : w5.cell? ⟨gb142, 2, none⟩ = some (.int .u64 a0_2) := (blk_cell BK142.out 2).trans rfl; have hcz6_3 : w5.cell? ⟨gb142, 3, none⟩ = some (.string a0_3) := (blk_cell BK142.out 3).trans rfl; have hcz6_4 : w5.cell? ⟨gb142, 4, none⟩ = some (.string a0_4) := (blk_cell BK142.out 4).trans rfl; have hcz6_5 : w5.cell? ⟨gb142, 5, none⟩ = some (.int .i64 a0_5) := (blk_cell BK142.out 5).trans rfl; have hcz6_6 : w5.cell? ⟨gb142, 6, none⟩ = some (.int .i64 a0_6) := (blk_cell BK142.out 6).trans rfl; have hcz6_7 : w5.cell? ⟨gb142, 7, none⟩ = some (.int .u64 a0_7) := (blk_cell BK142.out 7).trans rfl; have hcz6_8 : w5.cell? ⟨gb142, 8, none⟩ = some (.int .u64 a0_8) := (blk_cell BK142.out 8).trans rfl; have hcz6_9 : w5.cell? ⟨gb142, 9, none⟩ = some (.slice A0_9 l0_9.length c0_9) := (blk_cell BK142.out 9).trans rfl; have hfz6_0 := blk_frozen BK142.out 0; have hfz6_1 := blk_frozen BK142.out 1; have hfz6_2 := blk_frozen BK142.out 2; have hfz6_3 := blk_frozen BK142.out 3; have hfz6_4 := blk_frozen BK142.out 4; have hfz6_5 := blk_frozen BK142.out 5; have hfz6_6 := blk_frozen BK142.out 6; have hfz6_7 := blk_frozen BK142.out 7; have hfz6_8 := blk_frozen BK142.out 8; have hfz6_9 := blk_frozen BK142.out 9))
    go_ret
    exact ⟨by first | rfl | (simp [errW_none, errW_some] <;> rfl) | (simp [*, errW_none, errW_some] <;> rfl), by repeat (first | (with_reducible first | exact HB.out | apply below_alloc | apply pw_below_drewN | apply below_drew1 | refine below_set ?_ GE142.out) | exact HB.out)⟩


end Go.Proofs.Ytbedoahkpdpmeaa.Pe
