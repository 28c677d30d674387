/- The order of values. No memory in it. Further struct types as kinds, as the kit's print wrote them (taken over by the session's program pick.py). The contract of tallyroomref04_Right, as the kit's print wrote it (taken over by the session's program pick.py). The contract of tallyroomref04_Digits, as the kit's print wrote it (taken over by the session's program pick.py). The contract of tallyroomref04_Text, as the kit's print wrote it (taken over by the session's program pick.py). value: the reference's Right, Digits and Text; what goes to any and comes back. Bytes: slices.Clone, varint.Put. bits.Len64, under the name and in the form that the print's texts ask for (the print's own text of it falls: its table is printed as letters). The contract of varint_Zig, as the kit's print wrote it (taken over by the session's program pick.py). The contract of tallyroomref01_Bytes, as the kit's print wrote it (taken over by the session's program pick.py). The contract of tallyroomref01_Put, as the kit's print wrote it (taken over by the session's program pick.py). The contract of tallyroomref01_Zig, as the kit's print wrote it (taken over by the session's program pick.py). The contract of value_truth, as the kit's print wrote it (taken over by the session's program pick.py). The contract of varint_Get, as the kit's print wrote it (taken over by the session's program pick.py). The contract of varint_Zag, as the kit's print wrote it (taken over by the session's program pick.py). The contract of tallyroomref01_Get, as the kit's print wrote it (taken over by the session's program pick.py). Zig and Zag as numbers. No memory in it. value.Put: its bytes behind others. ref04.Bytes: a value's bytes. varint.Get and ref01.Get as one plain function. No memory in it. Zag as a number; the two Gets at a slice that is read. getG of a number's own bytes; getG's bounds. No memory in it. a value's bytes, read: valG. No memory in it. -/
import Derived.Test.YtcglhpagimkajaaDoorMgValueBytes7
import Derived.Test.YtcglhpagimkajaaDoorMgValueBytes8
import Derived.Test.YtcglhpagimkajaaDoorMgValueBytes4
import Derived.LoopTactic
import Derived.Lib.SliceRun
import Derived.Laws.BitsLemmas
import Derived.Test.YtcglhpagimkajaaDoorMgValueBytes6
import Derived.Lib.AppendStr
set_option linter.unusedVariables false
set_option linter.unusedSimpArgs false
namespace Go.Proofs.YtcglhpagimkajaaDoor.Vl
open Go.RowKit Go.Proofs.YtcglhpagimkajaaDoor.B0 Go.Proofs.YtcglhpagimkajaaDoor.Pv Go.Proofs.YtcglhpagimkajaaDoorW.PrintWords Go.Proofs.YtcglhpagimkajaaDoor.By

def cf (a b : Int) : Int := if a < b then -1 else if a > b then 1 else 0
def cs (a b : ByteArray) : Int := if Op.bytesLess a.toList b.toList = true then -1 else if Op.bytesLess b.toList a.toList = true then 1 else 0
def orE (a b : Int) : Int := if a = 0 then b else a
theorem cmp_i (a b : Int) : cmp_Compare_int.f a b = some (cf a b) := by
  unfold cmp_Compare_int.f cmp_isNaN_int.f cf
  simp only [Option.bind_some, ne_eq, not_true_eq_false, decide_false, bne_self_eq_false, Bool.false_eq_true, if_false]
  split
  · rfl
  · split <;> rfl
theorem cmp_l (a b : Int) : cmp_Compare_int64.f a b = some (cf a b) := by
  unfold cmp_Compare_int64.f cmp_isNaN_int64.f cf
  simp only [Option.bind_some, ne_eq, not_true_eq_false, decide_false, bne_self_eq_false, Bool.false_eq_true, if_false]
  split
  · rfl
  · split <;> rfl
theorem cmp_s (a b : ByteArray) : cmp_Compare_string.f a b = some (cs a b) := by
  unfold cmp_Compare_string.f cmp_isNaN_string.f cs
  simp only [Option.bind_some, ne_eq, not_true_eq_false, decide_false, bne_self_eq_false, Bool.false_eq_true, if_false]
  split
  · rfl
  · split <;> rfl
theorem or3 (a b c : Int) : cmp_Or_int.f 5 [a, b, c] = some (orE a (orE b c)) := by
  have w1 : wrap64 1 = 1 := by kernel_rfl
  have w2 : wrap64 2 = 2 := by kernel_rfl
  have w3 : wrap64 3 = 3 := by kernel_rfl
  unfold orE
  simp only [cmp_Or_int.f, cmp_Or_int.l0, List.length_cons, List.length_nil]
  by_cases ha : a = 0
  · by_cases hb : b = 0
    · by_cases hc : c = 0 <;> simp [rd, w1, w2, w3, ha, hb, hc]
    · simp [rd, w1, w2, w3, ha, hb]
  · simp [rd, w1, w2, w3, ha]
def cmpV (x y : Va) : Int := orE (cf x.k y.k) (orE (cf x.n y.n) (cs x.s y.s))
theorem cmpV_f (x y : Va) : value_Compare.f 5 x.k x.n x.s y.k y.n y.s = some (cmpV x y) := by
  unfold value_Compare.f
  rw [cmp_i, cmp_l, cmp_s]
  simp only [Option.bind_some]
  rw [or3]
  rfl
theorem Cmp_c (x y : Va) (w : World) : Calls Tryd.prog 15 #[x.c, y.c] w fun e w' => e = .returned (.int .i64 (cmpV x y)) ∧ Below w.heap.size w w' :=
  value_Compare.calls 5 x.k x.n x.s y.k y.n y.s _ w (cmpV_f x y)

def ltV (x y : Va) : Prop := x.k < y.k ∨ x.k = y.k ∧ (x.n < y.n ∨ x.n = y.n ∧ Op.bytesLess x.s.toList y.s.toList = true)
theorem toList_inj {a b : ByteArray} (h : a.toList = b.toList) : a = b := by
  rw [ByteArray.toList_eq, ByteArray.toList_eq] at h
  cases a; cases b; congr 1; exact Array.toList_inj.1 h
theorem cs_lt {a b : ByteArray} : cs a b < 0 ↔ Op.bytesLess a.toList b.toList = true := by
  unfold cs; split
  · simp_all
  · split <;> simp_all
theorem cs_eq {a b : ByteArray} : cs a b = 0 ↔ a = b := by
  unfold cs
  constructor
  · intro h
    split at h
    · omega
    · split at h
      · omega
      · rename_i h1 h2
        exact toList_inj (bl_total (by simpa using h1) (by simpa using h2))
  · rintro rfl
    rw [bl_irrefl]; rfl
theorem cf_lt {a b : Int} : cf a b < 0 ↔ a < b := by unfold cf; split <;> (try split) <;> simp_all <;> omega
theorem cf_eq {a b : Int} : cf a b = 0 ↔ a = b := by unfold cf; split <;> (try split) <;> simp_all <;> omega
theorem orE_lt {a b : Int} : orE a b < 0 ↔ a < 0 ∨ a = 0 ∧ b < 0 := by unfold orE; split <;> simp_all <;> omega
theorem orE_eq {a b : Int} : orE a b = 0 ↔ a = 0 ∧ b = 0 := by unfold orE; split <;> simp_all
theorem cmpV_lt {x y : Va} : cmpV x y < 0 ↔ ltV x y := by unfold cmpV ltV; rw [orE_lt, orE_lt, cf_lt, cf_eq, cf_lt, cf_eq, cs_lt]
theorem cmpV_eq {x y : Va} : cmpV x y = 0 ↔ x = y := by
  unfold cmpV; rw [orE_eq, orE_eq, cf_eq, cf_eq, cs_eq]
  cases x; cases y; simp
theorem ltV_trans {x y z : Va} (h1 : ltV x y) (h2 : ltV y z) : ltV x z := by
  unfold ltV at *
  rcases h1 with h1 | ⟨e1, h1 | ⟨e2, h1⟩⟩ <;> rcases h2 with h2 | ⟨f1, h2 | ⟨f2, h2⟩⟩
  · exact .inl (by omega)
  · exact .inl (by omega)
  · exact .inl (by omega)
  · exact .inl (by omega)
  · exact .inr ⟨by omega, .inl (by omega)⟩
  · exact .inr ⟨by omega, .inl (by omega)⟩
  · exact .inl (by omega)
  · exact .inr ⟨by omega, .inl (by omega)⟩
  · exact .inr ⟨by omega, .inr ⟨by omega, bl_trans h1 h2⟩⟩
theorem ltV_irrefl (x : Va) : ¬ ltV x x := by
  unfold ltV
  rintro (h | ⟨_, h | ⟨_, h⟩⟩)
  · omega
  · omega
  · rw [bl_irrefl] at h; cases h
theorem cf_val (a b : Int) : cf a b = -1 ∨ cf a b = 0 ∨ cf a b = 1 := by unfold cf; split <;> (try split) <;> simp
theorem cs_val (a b : ByteArray) : cs a b = -1 ∨ cs a b = 0 ∨ cs a b = 1 := by unfold cs; split <;> (try split) <;> simp
theorem orE_val {a b : Int} (h1 : a = -1 ∨ a = 0 ∨ a = 1) (h2 : b = -1 ∨ b = 0 ∨ b = 1) : orE a b = -1 ∨ orE a b = 0 ∨ orE a b = 1 := by unfold orE; split <;> simp_all
theorem cmpV_val (x y : Va) : cmpV x y = -1 ∨ cmpV x y = 0 ∨ cmpV x y = 1 := orE_val (cf_val _ _) (orE_val (cf_val _ _) (cs_val _ _))
theorem cf_neg (a b : Int) : cf b a = - cf a b := by unfold cf; split <;> (try split) <;> (try split) <;> omega
theorem cs_neg (a b : ByteArray) : cs b a = - cs a b := by
  unfold cs
  cases h : Op.bytesLess a.toList b.toList with
  | true => rw [bl_asymm h]; rfl
  | false => cases h2 : Op.bytesLess b.toList a.toList <;> rfl
theorem orE_neg (a b : Int) : orE (-a) (-b) = - orE a b := by unfold orE; split <;> split <;> omega
theorem cmpV_neg (x y : Va) : cmpV y x = - cmpV x y := by
  unfold cmpV; rw [cf_neg x.k y.k, cf_neg x.n y.n, cs_neg x.s y.s, orE_neg, orE_neg]
theorem cmpV_tr {x y z : Va} (h1 : cmpV x y ≤ 0) (h2 : cmpV y z ≤ 0) : cmpV x z ≤ 0 ∧ (cmpV x z = 0 → cmpV x y = 0 ∧ cmpV y z = 0) := by
  by_cases e1 : cmpV x y = 0
  · obtain rfl := cmpV_eq.1 e1
    exact ⟨h2, fun h => ⟨e1, h⟩⟩
  · by_cases e2 : cmpV y z = 0
    · obtain rfl := cmpV_eq.1 e2
      exact ⟨h1, fun h => ⟨h, e2⟩⟩
    · have := cmpV_lt.2 (ltV_trans (cmpV_lt.1 (show cmpV x y < 0 by omega)) (cmpV_lt.1 (show cmpV y z < 0 by omega)))
      exact ⟨by omega, fun h => by omega⟩
def eqV (x y : Va) : Bool := (x.k == y.k && (x.n == y.n && x.s.toList == y.s.toList))
theorem ref_f (x y : Va) : tallyroomref04_Compare.f 5 x.k x.n x.s y.k y.n y.s = some (cmpV x y) := by
  have hlt : (cmpV x y < 0) ↔ ltV x y := cmpV_lt
  have heq : (cmpV x y = 0) ↔ x = y := cmpV_eq
  have hv := cmpV_val x y
  have jt : tallyroomref04_Compare.j0 5 true x.k x.n x.s y.k y.n y.s = some (-1) := by rw [tallyroomref04_Compare.j0]; simp
  have jf : ¬ ltV x y → tallyroomref04_Compare.j0 5 false x.k x.n x.s y.k y.n y.s = some (cmpV x y) := by
    intro hn
    have : ¬ cmpV x y < 0 := fun h => hn (hlt.1 h)
    rw [tallyroomref04_Compare.j0]
    by_cases e : x = y
    · subst e
      rw [heq.2 rfl]; simp
    · have h1 : cmpV x y = 1 := by
        rcases hv with h | h | h
        · omega
        · exact absurd (heq.1 h) e
        · exact h
      rw [h1]
      have : ¬ (x.k = y.k ∧ x.n = y.n ∧ x.s.toList = y.s.toList) := fun ⟨a, b, c⟩ => e (by obtain ⟨k, n, s⟩ := x; obtain ⟨k', n', s'⟩ := y; simp only at a b c; subst a b; rw [toList_inj c])
      simp only [Bool.false_eq_true, if_false]
      rw [if_neg]
      simpa using this
  unfold tallyroomref04_Compare.f
  split
  · rw [jt, show cmpV x y = -1 from by have := hlt.2 (.inl ‹_›); omega]
  · split
    · split
      · rw [jt, show cmpV x y = -1 from by have := hlt.2 (.inr ⟨‹_›, .inl ‹_›⟩); omega]
      · split
        · cases hb : Op.bytesLess x.s.toList y.s.toList with
          | true => rw [jt, show cmpV x y = -1 from by have := hlt.2 (.inr ⟨‹_›, .inr ⟨‹_›, hb⟩⟩); omega]
          | false => exact jf (by unfold ltV; rw [hb]; simp; omega)
        · exact jf (by unfold ltV; omega)
    · exact jf (by unfold ltV; omega)
theorem Ref_c (x y : Va) (w : World) : Calls Tryd.prog 16 #[x.c, y.c] w fun e w' => e = .returned (.int .i64 (cmpV x y)) ∧ Below w.heap.size w w' :=
  tallyroomref04_Compare.calls 5 x.k x.n x.s y.k y.n y.s _ w (ref_f x y)
end Go.Proofs.YtcglhpagimkajaaDoor.Vl
namespace Go.Proofs.YtcglhpagimkajaaDoor.Pv
open Go.RowKit Go.Proofs.YtcglhpagimkajaaDoorW.PrintWords Go.Proofs.YtcglhpagimkajaaDoorW.PrintLast Go.Proofs.YtcglhpagimkajaaDoorW.PrintMore
attribute [local go_sem] max2_int min2_int max_two min_two max_three min_three max_four min_four
set_option linter.unusedVariables false
set_option linter.unusedSimpArgs false

theorem info5 : (Tryd.prog.info? 5).map (fun i => (i.zero, i.size, i.bytes)) = some (some (.int .u8 0), 1, 1) := by kernel_rfl
end Go.Proofs.YtcglhpagimkajaaDoor.Pv
namespace Go.Proofs.YtcglhpagimkajaaDoor.Pv
open Go.RowKit Go.Proofs.YtcglhpagimkajaaDoorW.PrintWords Go.Proofs.YtcglhpagimkajaaDoorW.PrintLast Go.Proofs.YtcglhpagimkajaaDoorW.PrintMore
attribute [local go_sem] max2_int min2_int max_two min_two max_three min_three max_four min_four
set_option linter.unusedVariables false
set_option linter.unusedSimpArgs false

/-! ### tallyroomref04_Right: function 10 -/
def tallyroomref04_Right.f (a0_0 : Int) (a0_1 : Int) (a0_2 : ByteArray) : Option (Bool) := if a0_0 = 1 then (if a0_2.toList = ([] : List UInt8) then (some true) else (if a0_0 = 2 then (if a0_0 = 3 then (if a0_1 = 0 then (some (decide ((a0_2.size : Int) ≤ 4096))) else (some false)) else (some false)) else (if a0_0 = 3 then (if a0_1 = 0 then (some (decide ((a0_2.size : Int) ≤ 4096))) else (some false)) else (some false)))) else (if a0_0 = 2 then (if a0_2.toList = ([] : List UInt8) then (if a0_1 = 0 then (some true) else (if a0_1 = 1 then (some true) else (if a0_0 = 3 then (some false) else (some false)))) else (if a0_0 = 3 then (if a0_1 = 0 then (some (decide ((a0_2.size : Int) ≤ 4096))) else (some false)) else (some false))) else (if a0_0 = 3 then (if a0_1 = 0 then (some (decide ((a0_2.size : Int) ≤ 4096))) else (some false)) else (some false)))
set_option maxHeartbeats 8000000 in
set_option maxRecDepth 100000 in
theorem tallyroomref04_Right.calls (a0_0 : Int) (a0_1 : Int) (a0_2 : ByteArray) (r : Bool) (w : World) (h : tallyroomref04_Right.f a0_0 a0_1 a0_2 = some r) :
    Calls Tryd.prog 10 #[.agg #[.int .i64 a0_0, .int .i64 a0_1, .string a0_2]] w fun e w' => e = .returned (.bool r) ∧ Below w.heap.size w w' := by
  have hu23 := Tryd.underlying23
  have HB := Aside0.mk (Below.refl w.heap.size w)
  have H : (if a0_0 = 1 then (if a0_2.toList = ([] : List UInt8) then (some true) else (if a0_0 = 2 then (if a0_0 = 3 then (if a0_1 = 0 then (some (decide ((a0_2.size : Int) ≤ 4096))) else (some false)) else (some false)) else (if a0_0 = 3 then (if a0_1 = 0 then (some (decide ((a0_2.size : Int) ≤ 4096))) else (some false)) else (some false)))) else (if a0_0 = 2 then (if a0_2.toList = ([] : List UInt8) then (if a0_1 = 0 then (some true) else (if a0_1 = 1 then (some true) else (if a0_0 = 3 then (some false) else (some false)))) else (if a0_0 = 3 then (if a0_1 = 0 then (some (decide ((a0_2.size : Int) ≤ 4096))) else (some false)) else (some false))) else (if a0_0 = 3 then (if a0_1 = 0 then (some (decide ((a0_2.size : Int) ≤ 4096))) else (some false)) else (some false)))) = some r := h
  clear h
  by_cases c2 : a0_0 = 1
  · rw [if_pos c2] at H
    have c2b0 : (a0_0 == 1) = true := beq_iff_eq.mpr c2
    have c2b1 : (a0_0 != 1) = false := bne_eq_false_iff_eq.mpr c2
    clear c2
    by_cases c3 : a0_2.toList = ([] : List UInt8)
    · rw [if_pos c3] at H
      have c3b0 : (a0_2.toList == ([] : List UInt8)) = true := beq_iff_eq.mpr c3
      have c3b1 : (a0_2.toList != ([] : List UInt8)) = false := bne_eq_false_iff_eq.mpr c3
      clear c3
      obtain rfl := Option.some.inj H
      go_enter Tryd.func10, Tryd.ntmps10
      go_wp2_with (first | ((with_reducible refine gate_dst (N := 1) rfl ?_); (try (refine gate_guard (by rfl) ?_; dsimp only)); refine box_event ?hg (N := 1) ?hd (cs := #[.int .i64 a0_0, .int .i64 a0_1, .string a0_2]) (t := 23) ?hr ?_; (case hd => rfl); (case hg => rfl); (case hr => first | (go_simp; done) | (go_simp; rfl)); intro gb122 hg w4 hbox hb; have n0_ := Aside0.mk (below_step (by repeat (first | (with_reducible first | exact HB.out | apply below_alloc | apply pw_below_drewN | apply below_drew1) | exact HB.out)) hb); have n1_ := Aside0.mk (hbox); have n2_ := Aside0.mk ((by rw [hg]; exact (below_size (by repeat (first | (with_reducible first | exact HB.out | apply below_alloc | apply pw_below_drewN | apply below_drew1) | exact HB.out))) : w.heap.size ≤ gb122)); have n3_ := Aside0.mk ((by rw [hg]; exact (below_size (by repeat (first | (with_reducible first | exact HB.out | apply below_alloc | apply pw_below_drewN | apply below_drew1) | exact HB.out))) : w.heap.size ≤ gb122)); clear HB; have HB := n0_; have BK122 := n1_; have GW122 := n2_; have GE122 := n3_; clear n0_ n1_ n2_ n3_; clear hb hbox hg; have hcz5_0 : w4.cell? ⟨gb122, 0, none⟩ = some (.int .i64 a0_0) := (blk_cell BK122.out 0).trans rfl; have hcz5_1 : w4.cell? ⟨gb122, 1, none⟩ = some (.int .i64 a0_1) := (blk_cell BK122.out 1).trans rfl; have hcz5_2 : w4.cell? ⟨gb122, 2, none⟩ = some (.string a0_2) := (blk_cell BK122.out 2).trans rfl; have hfz5_0 := blk_frozen BK122.out 0; have hfz5_1 := blk_frozen BK122.out 1; have hfz5_2 := blk_frozen BK122.out 2))
      go_ret
      exact ⟨by first | rfl | (simp [errW_none, errW_some] <;> rfl) | (simp [*, errW_none, errW_some] <;> rfl), by repeat (first | (with_reducible first | exact HB.out | apply below_alloc | apply pw_below_drewN | apply below_drew1 | refine below_set ?_ GE122.out) | exact HB.out)⟩
    · rw [if_neg c3] at H
      have c3b0 : (a0_2.toList == ([] : List UInt8)) = false := beq_eq_false_iff_ne.mpr c3
      have c3b1 : (a0_2.toList != ([] : List UInt8)) = true := bne_iff_ne.mpr c3
      by_cases c6 : a0_0 = 2
      · rw [if_pos c6] at H
        have c6b0 : (a0_0 == 2) = true := beq_iff_eq.mpr c6
        have c6b1 : (a0_0 != 2) = false := bne_eq_false_iff_eq.mpr c6
        clear c6
        by_cases c7 : a0_0 = 3
        · rw [if_pos c7] at H
          have c7b0 : (a0_0 == 3) = true := beq_iff_eq.mpr c7
          have c7b1 : (a0_0 != 3) = false := bne_eq_false_iff_eq.mpr c7
          clear c7
          by_cases c8 : a0_1 = 0
          · rw [if_pos c8] at H
            have c8b0 : (a0_1 == 0) = true := beq_iff_eq.mpr c8
            have c8b1 : (a0_1 != 0) = false := bne_eq_false_iff_eq.mpr c8
            clear c8
            obtain rfl := Option.some.inj H
            go_enter Tryd.func10, Tryd.ntmps10
            go_wp2_with (first | ((with_reducible refine gate_dst (N := 1) rfl ?_); (try (refine gate_guard (by rfl) ?_; dsimp only)); refine box_event ?hg (N := 1) ?hd (cs := #[.int .i64 a0_0, .int .i64 a0_1, .string a0_2]) (t := 23) ?hr ?_; (case hd => rfl); (case hg => rfl); (case hr => first | (go_simp; done) | (go_simp; rfl)); intro gb122 hg w9 hbox hb; have n0_ := Aside0.mk (below_step (by repeat (first | (with_reducible first | exact HB.out | apply below_alloc | apply pw_below_drewN | apply below_drew1) | exact HB.out)) hb); have n1_ := Aside0.mk (hbox); have n2_ := Aside0.mk ((by rw [hg]; exact (below_size (by repeat (first | (with_reducible first | exact HB.out | apply below_alloc | apply pw_below_drewN | apply below_drew1) | exact HB.out))) : w.heap.size ≤ gb122)); have n3_ := Aside0.mk ((by rw [hg]; exact (below_size (by repeat (first | (with_reducible first | exact HB.out | apply below_alloc | apply pw_below_drewN | apply below_drew1) | exact HB.out))) : w.heap.size ≤ gb122)); clear HB; have HB := n0_; have BK122 := n1_; have GW122 := n2_; have GE122 := n3_; clear n0_ n1_ n2_ n3_; clear hb hbox hg; have hcz10_0 : w9.cell? ⟨gb122, 0, none⟩ = some (.int .i64 a0_0) := (blk_cell BK122.out 0).trans rfl; have hcz10_1 : w9.cell? ⟨gb122, 1, none⟩ = some (.int .i64 a0_1) := (blk_cell BK122.out 1).trans rfl; have hcz10_2 : w9.cell? ⟨gb122, 2, none⟩ = some (.string a0_2) := (blk_cell BK122.out 2).trans rfl; have hfz10_0 := blk_frozen BK122.out 0; have hfz10_1 := blk_frozen BK122.out 1; have hfz10_2 := blk_frozen BK122.out 2))
            go_ret
            exact ⟨by first | rfl | (simp [errW_none, errW_some] <;> rfl) | (simp [*, errW_none, errW_some] <;> rfl), by repeat (first | (with_reducible first | exact HB.out | apply below_alloc | apply pw_below_drewN | apply below_drew1 | refine below_set ?_ GE122.out) | exact HB.out)⟩
          · rw [if_neg c8] at H
            have c8b0 : (a0_1 == 0) = false := beq_eq_false_iff_ne.mpr c8
            have c8b1 : (a0_1 != 0) = true := bne_iff_ne.mpr c8
            obtain rfl := Option.some.inj H
            go_enter Tryd.func10, Tryd.ntmps10
            go_wp2_with (first | ((with_reducible refine gate_dst (N := 1) rfl ?_); (try (refine gate_guard (by rfl) ?_; dsimp only)); refine box_event ?hg (N := 1) ?hd (cs := #[.int .i64 a0_0, .int .i64 a0_1, .string a0_2]) (t := 23) ?hr ?_; (case hd => rfl); (case hg => rfl); (case hr => first | (go_simp; done) | (go_simp; rfl)); intro gb122 hg w11 hbox hb; have n0_ := Aside0.mk (below_step (by repeat (first | (with_reducible first | exact HB.out | apply below_alloc | apply pw_below_drewN | apply below_drew1) | exact HB.out)) hb); have n1_ := Aside0.mk (hbox); have n2_ := Aside0.mk ((by rw [hg]; exact (below_size (by repeat (first | (with_reducible first | exact HB.out | apply below_alloc | apply pw_below_drewN | apply below_drew1) | exact HB.out))) : w.heap.size ≤ gb122)); have n3_ := Aside0.mk ((by rw [hg]; exact (below_size (by repeat (first | (with_reducible first | exact HB.out | apply below_alloc | apply pw_below_drewN | apply below_drew1) | exact HB.out))) : w.heap.size ≤ gb122)); clear HB; have HB := n0_; have BK122 := n1_; have GW122 := n2_; have GE122 := n3_; clear n0_ n1_ n2_ n3_; clear hb hbox hg; have hcz12_0 : w11.cell? ⟨gb122, 0, none⟩ = some (.int .i64 a0_0) := (blk_cell BK122.out 0).trans rfl; have hcz12_1 : w11.cell? ⟨gb122, 1, none⟩ = some (.int .i64 a0_1) := (blk_cell BK122.out 1).trans rfl; have hcz12_2 : w11.cell? ⟨gb122, 2, none⟩ = some (.string a0_2) := (blk_cell BK122.out 2).trans rfl; have hfz12_0 := blk_frozen BK122.out 0; have hfz12_1 := blk_frozen BK122.out 1; have hfz12_2 := blk_frozen BK122.out 2))
            go_ret
            exact ⟨by first | rfl | (simp [errW_none, errW_some] <;> rfl) | (simp [*, errW_none, errW_some] <;> rfl), by repeat (first | (with_reducible first | exact HB.out | apply below_alloc | apply pw_below_drewN | apply below_drew1 | refine below_set ?_ GE122.out) | exact HB.out)⟩
        · rw [if_neg c7] at H
          have c7b0 : (a0_0 == 3) = false := beq_eq_false_iff_ne.mpr c7
          have c7b1 : (a0_0 != 3) = true := bne_iff_ne.mpr c7
          obtain rfl := Option.some.inj H
          go_enter Tryd.func10, Tryd.ntmps10
          go_wp2_with (first | ((with_reducible refine gate_dst (N := 1) rfl ?_); (try (refine gate_guard (by rfl) ?_; dsimp only)); refine box_event ?hg (N := 1) ?hd (cs := #[.int .i64 a0_0, .int .i64 a0_1, .string a0_2]) (t := 23) ?hr ?_; (case hd => rfl); (case hg => rfl); (case hr => first | (go_simp; done) | (go_simp; rfl)); intro gb122 hg w13 hbox hb; have n0_ := Aside0.mk (below_step (by repeat (first | (with_reducible first | exact HB.out | apply below_alloc | apply pw_below_drewN | apply below_drew1) | exact HB.out)) hb); have n1_ := Aside0.mk (hbox); have n2_ := Aside0.mk ((by rw [hg]; exact (below_size (by repeat (first | (with_reducible first | exact HB.out | apply below_alloc | apply pw_below_drewN | apply below_drew1) | exact HB.out))) : w.heap.size ≤ gb122)); have n3_ := Aside0.mk ((by rw [hg]; exact (below_size (by repeat (first | (with_reducible first | exact HB.out | apply below_alloc | apply pw_below_drewN | apply below_drew1) | exact HB.out))) : w.heap.size ≤ gb122)); clear HB; have HB := n0_; have BK122 := n1_; have GW122 := n2_; have GE122 := n3_; clear n0_ n1_ n2_ n3_; clear hb hbox hg; have hcz14_0 : w13.cell? ⟨gb122, 0, none⟩ = some (.int .i64 a0_0) := (blk_cell BK122.out 0).trans rfl; have hcz14_1 : w13.cell? ⟨gb122, 1, none⟩ = some (.int .i64 a0_1) := (blk_cell BK122.out 1).trans rfl; have hcz14_2 : w13.cell? ⟨gb122, 2, none⟩ = some (.string a0_2) := (blk_cell BK122.out 2).trans rfl; have hfz14_0 := blk_frozen BK122.out 0; have hfz14_1 := blk_frozen BK122.out 1; have hfz14_2 := blk_frozen BK122.out 2))
          go_ret
          exact ⟨by first | rfl | (simp [errW_none, errW_some] <;> rfl) | (simp [*, errW_none, errW_some] <;> rfl), by repeat (first | (with_reducible first | exact HB.out | apply below_alloc | apply pw_below_drewN | apply below_drew1 | refine below_set ?_ GE122.out) | exact HB.out)⟩
      · rw [if_neg c6] at H
        have c6b0 : (a0_0 == 2) = false := beq_eq_false_iff_ne.mpr c6
        have c6b1 : (a0_0 != 2) = true := bne_iff_ne.mpr c6
        by_cases c15 : a0_0 = 3
        · rw [if_pos c15] at H
          have c15b0 : (a0_0 == 3) = true := beq_iff_eq.mpr c15
          have c15b1 : (a0_0 != 3) = false := bne_eq_false_iff_eq.mpr c15
          clear c15
          by_cases c16 : a0_1 = 0
          · rw [if_pos c16] at H
            have c16b0 : (a0_1 == 0) = true := beq_iff_eq.mpr c16
            have c16b1 : (a0_1 != 0) = false := bne_eq_false_iff_eq.mpr c16
            clear c16
            obtain rfl := Option.some.inj H
            go_enter Tryd.func10, Tryd.ntmps10
            go_wp2_with (first | ((with_reducible refine gate_dst (N := 1) rfl ?_); (try (refine gate_guard (by rfl) ?_; dsimp only)); refine box_event ?hg (N := 1) ?hd (cs := #[.int .i64 a0_0, .int .i64 a0_1, .string a0_2]) (t := 23) ?hr ?_; (case hd => rfl); (case hg => rfl); (case hr => first | (go_simp; done) | (go_simp; rfl)); intro gb122 hg w17 hbox hb; have n0_ := Aside0.mk (below_step (by repeat (first | (with_reducible first | exact HB.out | apply below_alloc | apply pw_below_drewN | apply below_drew1) | exact HB.out)) hb); have n1_ := Aside0.mk (hbox); have n2_ := Aside0.mk ((by rw [hg]; exact (below_size (by repeat (first | (with_reducible first | exact HB.out | apply below_alloc | apply pw_below_drewN | apply below_drew1) | exact HB.out))) : w.heap.size ≤ gb122)); have n3_ := Aside0.mk ((by rw [hg]; exact (below_size (by repeat (first | (with_reducible first | exact HB.out | apply below_alloc | apply pw_below_drewN | apply below_drew1) | exact HB.out))) : w.heap.size ≤ gb122)); clear HB; have HB := n0_; have BK122 := n1_; have GW122 := n2_; have GE122 := n3_; clear n0_ n1_ n2_ n3_; clear hb hbox hg; have hcz18_0 : w17.cell? ⟨gb122, 0, none⟩ = some (.int .i64 a0_0) := (blk_cell BK122.out 0).trans rfl; have hcz18_1 : w17.cell? ⟨gb122, 1, none⟩ = some (.int .i64 a0_1) := (blk_cell BK122.out 1).trans rfl; have hcz18_2 : w17.cell? ⟨gb122, 2, none⟩ = some (.string a0_2) := (blk_cell BK122.out 2).trans rfl; have hfz18_0 := blk_frozen BK122.out 0; have hfz18_1 := blk_frozen BK122.out 1; have hfz18_2 := blk_frozen BK122.out 2))
            go_ret
            exact ⟨by first | rfl | (simp [errW_none, errW_some] <;> rfl) | (simp [*, errW_none, errW_some] <;> rfl), by repeat (first | (with_reducible first | exact HB.out | apply below_alloc | apply pw_below_drewN | apply below_drew1 | refine below_set ?_ GE122.out) | exact HB.out)⟩
          · rw [if_neg c16] at H
            have c16b0 : (a0_1 == 0) = false := beq_eq_false_iff_ne.mpr c16
            have c16b1 : (a0_1 != 0) = true := bne_iff_ne.mpr c16
            obtain rfl := Option.some.inj H
            go_enter Tryd.func10, Tryd.ntmps10
            go_wp2_with (first | ((with_reducible refine gate_dst (N := 1) rfl ?_); (try (refine gate_guard (by rfl) ?_; dsimp only)); refine box_event ?hg (N := 1) ?hd (cs := #[.int .i64 a0_0, .int .i64 a0_1, .string a0_2]) (t := 23) ?hr ?_; (case hd => rfl); (case hg => rfl); (case hr => first | (go_simp; done) | (go_simp; rfl)); intro gb122 hg w19 hbox hb; have n0_ := Aside0.mk (below_step (by repeat (first | (with_reducible first | exact HB.out | apply below_alloc | apply pw_below_drewN | apply below_drew1) | exact HB.out)) hb); have n1_ := Aside0.mk (hbox); have n2_ := Aside0.mk ((by rw [hg]; exact (below_size (by repeat (first | (with_reducible first | exact HB.out | apply below_alloc | apply pw_below_drewN | apply below_drew1) | exact HB.out))) : w.heap.size ≤ gb122)); have n3_ := Aside0.mk ((by rw [hg]; exact (below_size (by repeat (first | (with_reducible first | exact HB.out | apply below_alloc | apply pw_below_drewN | apply below_drew1) | exact HB.out))) : w.heap.size ≤ gb122)); clear HB; have HB := n0_; have BK122 := n1_; have GW122 := n2_; have GE122 := n3_; clear n0_ n1_ n2_ n3_; clear hb hbox hg; have hcz20_0 : w19.cell? ⟨gb122, 0, none⟩ = some (.int .i64 a0_0) := (blk_cell BK122.out 0).trans rfl; have hcz20_1 : w19.cell? ⟨gb122, 1, none⟩ = some (.int .i64 a0_1) := (blk_cell BK122.out 1).trans rfl; have hcz20_2 : w19.cell? ⟨gb122, 2, none⟩ = some (.string a0_2) := (blk_cell BK122.out 2).trans rfl; have hfz20_0 := blk_frozen BK122.out 0; have hfz20_1 := blk_frozen BK122.out 1; have hfz20_2 := blk_frozen BK122.out 2))
            go_ret
            exact ⟨by first | rfl | (simp [errW_none, errW_some] <;> rfl) | (simp [*, errW_none, errW_some] <;> rfl), by repeat (first | (with_reducible first | exact HB.out | apply below_alloc | apply pw_below_drewN | apply below_drew1 | refine below_set ?_ GE122.out) | exact HB.out)⟩
        · rw [if_neg c15] at H
          have c15b0 : (a0_0 == 3) = false := beq_eq_false_iff_ne.mpr c15
          have c15b1 : (a0_0 != 3) = true := bne_iff_ne.mpr c15
          obtain rfl := Option.some.inj H
          go_enter Tryd.func10, Tryd.ntmps10
          go_wp2_with (first | ((with_reducible refine gate_dst (N := 1) rfl ?_); (try (refine gate_guard (by rfl) ?_; dsimp only)); refine box_event ?hg (N := 1) ?hd (cs := #[.int .i64 a0_0, .int .i64 a0_1, .string a0_2]) (t := 23) ?hr ?_; (case hd => rfl); (case hg => rfl); (case hr => first | (go_simp; done) | (go_simp; rfl)); intro gb122 hg w21 hbox hb; have n0_ := Aside0.mk (below_step (by repeat (first | (with_reducible first | exact HB.out | apply below_alloc | apply pw_below_drewN | apply below_drew1) | exact HB.out)) hb); have n1_ := Aside0.mk (hbox); have n2_ := Aside0.mk ((by rw [hg]; exact (below_size (by repeat (first | (with_reducible first | exact HB.out | apply below_alloc | apply pw_below_drewN | apply below_drew1) | exact HB.out))) : w.heap.size ≤ gb122)); have n3_ := Aside0.mk ((by rw [hg]; exact (below_size (by repeat (first | (with_reducible first | exact HB.out | apply below_alloc | apply pw_below_drewN | apply below_drew1) | exact HB.out))) : w.heap.size ≤ gb122)); clear HB; have HB := n0_; have BK122 := n1_; have GW122 := n2_; have GE122 := n3_; clear n0_ n1_ n2_ n3_; clear hb hbox hg; have hcz22_0 : w21.cell? ⟨gb122, 0, none⟩ = some (.int .i64 a0_0) := (blk_cell BK122.out 0).trans rfl; have hcz22_1 : w21.cell? ⟨gb122, 1, none⟩ = some (.int .i64 a0_1) := (blk_cell BK122.out 1).trans rfl; have hcz22_2 : w21.cell? ⟨gb122, 2, none⟩ = some (.string a0_2) := (blk_cell BK122.out 2).trans rfl; have hfz22_0 := blk_frozen BK122.out 0; have hfz22_1 := blk_frozen BK122.out 1; have hfz22_2 := blk_frozen BK122.out 2))
          go_ret
          exact ⟨by first | rfl | (simp [errW_none, errW_some] <;> rfl) | (simp [*, errW_none, errW_some] <;> rfl), by repeat (first | (with_reducible first | exact HB.out | apply below_alloc | apply pw_below_drewN | apply below_drew1 | refine below_set ?_ GE122.out) | exact HB.out)⟩
  · rw [if_neg c2] at H
    have c2b0 : (a0_0 == 1) = false := beq_eq_false_iff_ne.mpr c2
    have c2b1 : (a0_0 != 1) = true := bne_iff_ne.mpr c2
    by_cases c23 : a0_0 = 2
    · rw [if_pos c23] at H
      have c23b0 : (a0_0 == 2) = true := beq_iff_eq.mpr c23
      have c23b1 : (a0_0 != 2) = false := bne_eq_false_iff_eq.mpr c23
      clear c23
      by_cases c24 : a0_2.toList = ([] : List UInt8)
      · rw [if_pos c24] at H
        have c24b0 : (a0_2.toList == ([] : List UInt8)) = true := beq_iff_eq.mpr c24
        have c24b1 : (a0_2.toList != ([] : List UInt8)) = false := bne_eq_false_iff_eq.mpr c24
        clear c24
        by_cases c25 : a0_1 = 0
        · rw [if_pos c25] at H
          have c25b0 : (a0_1 == 0) = true := beq_iff_eq.mpr c25
          have c25b1 : (a0_1 != 0) = false := bne_eq_false_iff_eq.mpr c25
          clear c25
          obtain rfl := Option.some.inj H
          go_enter Tryd.func10, Tryd.ntmps10
          go_wp2_with (first | ((with_reducible refine gate_dst (N := 1) rfl ?_); (try (refine gate_guard (by rfl) ?_; dsimp only)); refine box_event ?hg (N := 1) ?hd (cs := #[.int .i64 a0_0, .int .i64 a0_1, .string a0_2]) (t := 23) ?hr ?_; (case hd => rfl); (case hg => rfl); (case hr => first | (go_simp; done) | (go_simp; rfl)); intro gb122 hg w26 hbox hb; have n0_ := Aside0.mk (below_step (by repeat (first | (with_reducible first | exact HB.out | apply below_alloc | apply pw_below_drewN | apply below_drew1) | exact HB.out)) hb); have n1_ := Aside0.mk (hbox); have n2_ := Aside0.mk ((by rw [hg]; exact (below_size (by repeat (first | (with_reducible first | exact HB.out | apply below_alloc | apply pw_below_drewN | apply below_drew1) | exact HB.out))) : w.heap.size ≤ gb122)); have n3_ := Aside0.mk ((by rw [hg]; exact (below_size (by repeat (first | (with_reducible first | exact HB.out | apply below_alloc | apply pw_below_drewN | apply below_drew1) | exact HB.out))) : w.heap.size ≤ gb122)); clear HB; have HB := n0_; have BK122 := n1_; have GW122 := n2_; have GE122 := n3_; clear n0_ n1_ n2_ n3_; clear hb hbox hg; have hcz27_0 : w26.cell? ⟨gb122, 0, none⟩ = some (.int .i64 a0_0) := (blk_cell BK122.out 0).trans rfl; have hcz27_1 : w26.cell? ⟨gb122, 1, none⟩ = some (.int .i64 a0_1) := (blk_cell BK122.out 1).trans rfl; have hcz27_2 : w26.cell? ⟨gb122, 2, none⟩ = some (.string a0_2) := (blk_cell BK122.out 2).trans rfl; have hfz27_0 := blk_frozen BK122.out 0; have hfz27_1 := blk_frozen BK122.out 1; have hfz27_2 := blk_frozen BK122.out 2))
          go_ret
          exact ⟨by first | rfl | (simp [errW_none, errW_some] <;> rfl) | (simp [*, errW_none, errW_some] <;> rfl), by repeat (first | (with_reducible first | exact HB.out | apply below_alloc | apply pw_below_drewN | apply below_drew1 | refine below_set ?_ GE122.out) | exact HB.out)⟩
        · rw [if_neg c25] at H
          have c25b0 : (a0_1 == 0) = false := beq_eq_false_iff_ne.mpr c25
          have c25b1 : (a0_1 != 0) = true := bne_iff_ne.mpr c25
          by_cases c28 : a0_1 = 1
          · rw [if_pos c28] at H
            have c28b0 : (a0_1 == 1) = true := beq_iff_eq.mpr c28
            have c28b1 : (a0_1 != 1) = false := bne_eq_false_iff_eq.mpr c28
            clear c28
            obtain rfl := Option.some.inj H
            go_enter Tryd.func10, Tryd.ntmps10
            go_wp2_with (first | ((with_reducible refine gate_dst (N := 1) rfl ?_); (try (refine gate_guard (by rfl) ?_; dsimp only)); refine box_event ?hg (N := 1) ?hd (cs := #[.int .i64 a0_0, .int .i64 a0_1, .string a0_2]) (t := 23) ?hr ?_; (case hd => rfl); (case hg => rfl); (case hr => first | (go_simp; done) | (go_simp; rfl)); intro gb122 hg w29 hbox hb; have n0_ := Aside0.mk (below_step (by repeat (first | (with_reducible first | exact HB.out | apply below_alloc | apply pw_below_drewN | apply below_drew1) | exact HB.out)) hb); have n1_ := Aside0.mk (hbox); have n2_ := Aside0.mk ((by rw [hg]; exact (below_size (by repeat (first | (with_reducible first | exact HB.out | apply below_alloc | apply pw_below_drewN | apply below_drew1) | exact HB.out))) : w.heap.size ≤ gb122)); have n3_ := Aside0.mk ((by rw [hg]; exact (below_size (by repeat (first | (with_reducible first | exact HB.out | apply below_alloc | apply pw_below_drewN | apply below_drew1) | exact HB.out))) : w.heap.size ≤ gb122)); clear HB; have HB := n0_; have BK122 := n1_; have GW122 := n2_; have GE122 := n3_; clear n0_ n1_ n2_ n3_; clear hb hbox hg; have hcz30_0 : w29.cell? ⟨gb122, 0, none⟩ = some (.int .i64 a0_0) := (blk_cell BK122.out 0).trans rfl; have hcz30_1 : w29.cell? ⟨gb122, 1, none⟩ = some (.int .i64 a0_1) := (blk_cell BK122.out 1).trans rfl; have hcz30_2 : w29.cell? ⟨gb122, 2, none⟩ = some (.string a0_2) := (blk_cell BK122.out 2).trans rfl; have hfz30_0 := blk_frozen BK122.out 0; have hfz30_1 := blk_frozen BK122.out 1; have hfz30_2 := blk_frozen BK122.out 2))
            go_ret
            exact ⟨by first | rfl | (simp [errW_none, errW_some] <;> rfl) | (simp [*, errW_none, errW_some] <;> rfl), by repeat (first | (with_reducible first | exact HB.out | apply below_alloc | apply pw_below_drewN | apply below_drew1 | refine below_set ?_ GE122.out) | exact HB.out)⟩
          · rw [if_neg c28] at H
            have c28b0 : (a0_1 == 1) = false := beq_eq_false_iff_ne.mpr c28
            have c28b1 : (a0_1 != 1) = true := bne_iff_ne.mpr c28
            by_cases c31 : a0_0 = 3
            · rw [if_pos c31] at H
              have c31b0 : (a0_0 == 3) = true := beq_iff_eq.mpr c31
              have c31b1 : (a0_0 != 3) = false := bne_eq_false_iff_eq.mpr c31
              clear c31
              obtain rfl := Option.some.inj H
              go_enter Tryd.func10, Tryd.ntmps10
              go_wp2_with (first | ((with_reducible refine gate_dst (N := 1) rfl ?_); (try (refine gate_guard (by rfl) ?_; dsimp only)); refine box_event ?hg (N := 1) ?hd (cs := #[.int .i64 a0_0, .int .i64 a0_1, .string a0_2]) (t := 23) ?hr ?_; (case hd => rfl); (case hg => rfl); (case hr => first | (go_simp; done) | (go_simp; rfl)); intro gb122 hg w32 hbox hb; have n0_ := Aside0.mk (below_step (by repeat (first | (with_reducible first | exact HB.out | apply below_alloc | apply pw_below_drewN | apply below_drew1) | exact HB.out)) hb); have n1_ := Aside0.mk (hbox); have n2_ := Aside0.mk ((by rw [hg]; exact (below_size (by repeat (first | (with_reducible first | exact HB.out | apply below_alloc | apply pw_below_drewN | apply below_drew1) | exact HB.out))) : w.heap.size ≤ gb122)); have n3_ := Aside0.mk ((by rw [hg]; exact (below_size (by repeat (first | (with_reducible first | exact HB.out | apply below_alloc | apply pw_below_drewN | apply below_drew1) | exact HB.out))) : w.heap.size ≤ gb122)); clear HB; have HB := n0_; have BK122 := n1_; have GW122 := n2_; have GE122 := n3_; clear n0_ n1_ n2_ n3_; clear hb hbox hg; have hcz33_0 : w32.cell? ⟨gb122, 0, none⟩ = some (.int .i64 a0_0) := (blk_cell BK122.out 0).trans rfl; have hcz33_1 : w32.cell? ⟨gb122, 1, none⟩ = some (.int .i64 a0_1) := (blk_cell BK122.out 1).trans rfl; have hcz33_2 : w32.cell? ⟨gb122, 2, none⟩ = some (.string a0_2) := (blk_cell BK122.out 2).trans rfl; have hfz33_0 := blk_frozen BK122.out 0; have hfz33_1 := blk_frozen BK122.out 1; have hfz33_2 := blk_frozen BK122.out 2))
              go_ret
              exact ⟨by first | rfl | (simp [errW_none, errW_some] <;> rfl) | (simp [*, errW_none, errW_some] <;> rfl), by repeat (first | (with_reducible first | exact HB.out | apply below_alloc | apply pw_below_drewN | apply below_drew1 | refine below_set ?_ GE122.out) | exact HB.out)⟩
            · rw [if_neg c31] at H
              have c31b0 : (a0_0 == 3) = false := beq_eq_false_iff_ne.mpr c31
              have c31b1 : (a0_0 != 3) = true := bne_iff_ne.mpr c31
              obtain rfl := Option.some.inj H
              go_enter Tryd.func10, Tryd.ntmps10
              go_wp2_with (first | ((with_reducible refine gate_dst (N := 1) rfl ?_); (try (refine gate_guard (by rfl) ?_; dsimp only)); refine box_event ?hg (N := 1) ?hd (cs := #[.int .i64 a0_0, .int .i64 a0_1, .string a0_2]) (t := 23) ?hr ?_; (case hd => rfl); (case hg => rfl); (case hr => first | (go_simp; done) | (go_simp; rfl)); intro gb122 hg w34 hbox hb; have n0_ := Aside0.mk (below_step (by repeat (first | (with_reducible first | exact HB.out | apply below_alloc | apply pw_below_drewN | apply below_drew1) | exact HB.out)) hb); have n1_ := Aside0.mk (hbox); have n2_ := Aside0.mk ((by rw [hg]; exact (below_size (by repeat (first | (with_reducible first | exact HB.out | apply below_alloc | apply pw_below_drewN | apply below_drew1) | exact HB.out))) : w.heap.size ≤ gb122)); have n3_ := Aside0.mk ((by rw [hg]; exact (below_size (by repeat (first | (with_reducible first | exact HB.out | apply below_alloc | apply pw_below_drewN | apply below_drew1) | exact HB.out))) : w.heap.size ≤ gb122)); clear HB; have HB := n0_; have BK122 := n1_; have GW122 := n2_; have GE122 := n3_; clear n0_ n1_ n2_ n3_; clear hb hbox hg; have hcz35_0 : w34.cell? ⟨gb122, 0, none⟩ = some (.int .i64 a0_0) := (blk_cell BK122.out 0).trans rfl; have hcz35_1 : w34.cell? ⟨gb122, 1, none⟩ = some (.int .i64 a0_1) := (blk_cell BK122.out 1).trans rfl; have hcz35_2 : w34.cell? ⟨gb122, 2, none⟩ = some (.string a0_2) := (blk_cell BK122.out 2).trans rfl; have hfz35_0 := blk_frozen BK122.out 0; have hfz35_1 := blk_frozen BK122.out 1; have hfz35_2 := blk_frozen BK122.out 2))
              go_ret
              exact ⟨by first | rfl | (simp [errW_none, errW_some] <;> rfl) | (simp [*, errW_none, errW_some] <;> rfl), by repeat (first | (with_reducible first | exact HB.out | apply below_alloc | apply pw_below_drewN | apply below_drew1 | refine below_set ?_ GE122.out) | exact HB.out)⟩
      · rw [if_neg c24] at H
        have c24b0 : (a0_2.toList == ([] : List UInt8)) = false := beq_eq_false_iff_ne.mpr c24
        have c24b1 : (a0_2.toList != ([] : List UInt8)) = true := bne_iff_ne.mpr c24
        by_cases c36 : a0_0 = 3
        · rw [if_pos c36] at H
          have c36b0 : (a0_0 == 3) = true := beq_iff_eq.mpr c36
          have c36b1 : (a0_0 != 3) = false := bne_eq_false_iff_eq.mpr c36
          clear c36
          by_cases c37 : a0_1 = 0
          · rw [if_pos c37] at H
            have c37b0 : (a0_1 == 0) = true := beq_iff_eq.mpr c37
            have c37b1 : (a0_1 != 0) = false := bne_eq_false_iff_eq.mpr c37
            clear c37
            obtain rfl := Option.some.inj H
            go_enter Tryd.func10, Tryd.ntmps10
            go_wp2_with (first | ((with_reducible refine gate_dst (N := 1) rfl ?_); (try (refine gate_guard (by rfl) ?_; dsimp only)); refine box_event ?hg (N := 1) ?hd (cs := #[.int .i64 a0_0, .int .i64 a0_1, .string a0_2]) (t := 23) ?hr ?_; (case hd => rfl); (case hg => rfl); (case hr => first | (go_simp; done) | (go_simp; rfl)); intro gb122 hg w38 hbox hb; have n0_ := Aside0.mk (below_step (by repeat (first | (with_reducible first | exact HB.out | apply below_alloc | apply pw_below_drewN | apply below_drew1) | exact HB.out)) hb); have n1_ := Aside0.mk (hbox); have n2_ := Aside0.mk ((by rw [hg]; exact (below_size (by repeat (first | (with_reducible first | exact HB.out | apply below_alloc | apply pw_below_drewN | apply below_drew1) | exact HB.out))) : w.heap.size ≤ gb122)); have n3_ := Aside0.mk ((by rw [hg]; exact (below_size (by repeat (first | (with_reducible first | exact HB.out | apply below_alloc | apply pw_below_drewN | apply below_drew1) | exact HB.out))) : w.heap.size ≤ gb122)); clear HB; have HB := n0_; have BK122 := n1_; have GW122 := n2_; have GE122 := n3_; clear n0_ n1_ n2_ n3_; clear hb hbox hg; have hcz39_0 : w38.cell? ⟨gb122, 0, none⟩ = some (.int .i64 a0_0) := (blk_cell BK122.out 0).trans rfl; have hcz39_1 : w38.cell? ⟨gb122, 1, none⟩ = some (.int .i64 a0_1) := (blk_cell BK122.out 1).trans rfl; have hcz39_2 : w38.cell? ⟨gb122, 2, none⟩ = some (.string a0_2) := (blk_cell BK122.out 2).trans rfl; have hfz39_0 := blk_frozen BK122.out 0; have hfz39_1 := blk_frozen BK122.out 1; have hfz39_2 := blk_frozen BK122.out 2))
            go_ret
            exact ⟨by first | rfl | (simp [errW_none, errW_some] <;> rfl) | (simp [*, errW_none, errW_some] <;> rfl), by repeat (first | (with_reducible first | exact HB.out | apply below_alloc | apply pw_below_drewN | apply below_drew1 | refine below_set ?_ GE122.out) | exact HB.out)⟩
          · rw [if_neg c37] at H
            have c37b0 : (a0_1 == 0) = false := beq_eq_false_iff_ne.mpr c37
            have c37b1 : (a0_1 != 0) = true := bne_iff_ne.mpr c37
            obtain rfl := Option.some.inj H
            go_enter Tryd.func10, Tryd.ntmps10
            go_wp2_with (first | ((with_reducible refine gate_dst (N := 1) rfl ?_); (try (refine gate_guard (by rfl) ?_; dsimp only)); refine box_event ?hg (N := 1) ?hd (cs := #[.int .i64 a0_0, .int .i64 a0_1, .string a0_2]) (t := 23) ?hr ?_; (case hd => rfl); (case hg => rfl); (case hr => first | (go_simp; done) | (go_simp; rfl)); intro gb122 hg w40 hbox hb; have n0_ := Aside0.mk (below_step (by repeat (first | (with_reducible first | exact HB.out | apply below_alloc | apply pw_below_drewN | apply below_drew1) | exact HB.out)) hb); have n1_ := Aside0.mk (hbox); have n2_ := Aside0.mk ((by rw [hg]; exact (below_size (by repeat (first | (with_reducible first | exact HB.out | apply below_alloc | apply pw_below_drewN | apply below_drew1) | exact HB.out))) : w.heap.size ≤ gb122)); have n3_ := Aside0.mk ((by rw [hg]; exact (below_size (by repeat (first | (with_reducible first | exact HB.out | apply below_alloc | apply pw_below_drewN | apply below_drew1) | exact HB.out))) : w.heap.size ≤ gb122)); clear HB; have HB := n0_; have BK122 := n1_; have GW122 := n2_; have GE122 := n3_; clear n0_ n1_ n2_ n3_; clear hb hbox hg; have hcz41_0 : w40.cell? ⟨gb122, 0, none⟩ = some (.int .i64 a0_0) := (blk_cell BK122.out 0).trans rfl; have hcz41_1 : w40.cell? ⟨gb122, 1, none⟩ = some (.int .i64 a0_1) := (blk_cell BK122.out 1).trans rfl; have hcz41_2 : w40.cell? ⟨gb122, 2, none⟩ = some (.string a0_2) := (blk_cell BK122.out 2).trans rfl; have hfz41_0 := blk_frozen BK122.out 0; have hfz41_1 := blk_frozen BK122.out 1; have hfz41_2 := blk_frozen BK122.out 2))
            go_ret
            exact ⟨by first | rfl | (simp [errW_none, errW_some] <;> rfl) | (simp [*, errW_none, errW_some] <;> rfl), by repeat (first | (with_reducible first | exact HB.out | apply below_alloc | apply pw_below_drewN | apply below_drew1 | refine below_set ?_ GE122.out) | exact HB.out)⟩
        · rw [if_neg c36] at H
          have c36b0 : (a0_0 == 3) = false := beq_eq_false_iff_ne.mpr c36
          have c36b1 : (a0_0 != 3) = true := bne_iff_ne.mpr c36
          obtain rfl := Option.some.inj H
          go_enter Tryd.func10, Tryd.ntmps10
          go_wp2_with (first | ((with_reducible refine gate_dst (N := 1) rfl ?_); (try (refine gate_guard (by rfl) ?_; dsimp only)); refine box_event ?hg (N := 1) ?hd (cs := #[.int .i64 a0_0, .int .i64 a0_1, .string a0_2]) (t := 23) ?hr ?_; (case hd => rfl); (case hg => rfl); (case hr => first | (go_simp; done) | (go_simp; rfl)); intro gb122 hg w42 hbox hb; have n0_ := Aside0.mk (below_step (by repeat (first | (with_reducible first | exact HB.out | apply below_alloc | apply pw_below_drewN | apply below_drew1) | exact HB.out)) hb); have n1_ := Aside0.mk (hbox); have n2_ := Aside0.mk ((by rw [hg]; exact (below_size (by repeat (first | (with_reducible first | exact HB.out | apply below_alloc | apply pw_below_drewN | apply below_drew1) | exact HB.out))) : w.heap.size ≤ gb122)); have n3_ := Aside0.mk ((by rw [hg]; exact (below_size (by repeat (first | (with_reducible first | exact HB.out | apply below_alloc | apply pw_below_drewN | apply below_drew1) | exact HB.out))) : w.heap.size ≤ gb122)); clear HB; have HB := n0_; have BK122 := n1_; have GW122 := n2_; have GE122 := n3_; clear n0_ n1_ n2_ n3_; clear hb hbox hg; have hcz43_0 : w42.cell? ⟨gb122, 0, none⟩ = some (.int .i64 a0_0) := (blk_cell BK122.out 0).trans rfl; have hcz43_1 : w42.cell? ⟨gb122, 1, none⟩ = some (.int .i64 a0_1) := (blk_cell BK122.out 1).trans rfl; have hcz43_2 : w42.cell? ⟨gb122, 2, none⟩ = some (.string a0_2) := (blk_cell BK122.out 2).trans rfl; have hfz43_0 := blk_frozen BK122.out 0; have hfz43_1 := blk_frozen BK122.out 1; have hfz43_2 := blk_frozen BK122.out 2))
          go_ret
          exact ⟨by first | rfl | (simp [errW_none, errW_some] <;> rfl) | (simp [*, errW_none, errW_some] <;> rfl), by repeat (first | (with_reducible first | exact HB.out | apply below_alloc | apply pw_below_drewN | apply below_drew1 | refine below_set ?_ GE122.out) | exact HB.out)⟩
    · rw [if_neg c23] at H
      have c23b0 : (a0_0 == 2) = false := beq_eq_false_iff_ne.mpr c23
      have c23b1 : (a0_0 != 2) = true := bne_iff_ne.mpr c23
      by_cases c44 : a0_0 = 3
      · rw [if_pos c44] at H
        have c44b0 : (a0_0 == 3) = true := beq_iff_eq.mpr c44
        have c44b1 : (a0_0 != 3) = false := bne_eq_false_iff_eq.mpr c44
        clear c44
        by_cases c45 : a0_1 = 0
        · rw [if_pos c45] at H
          have c45b0 : (a0_1 == 0) = true := beq_iff_eq.mpr c45
          have c45b1 : (a0_1 != 0) = false := bne_eq_false_iff_eq.mpr c45
          clear c45
          obtain rfl := Option.some.inj H
          go_enter Tryd.func10, Tryd.ntmps10
          go_wp2_with (first | ((with_reducible refine gate_dst (N := 1) rfl ?_); (try (refine gate_guard (by rfl) ?_; dsimp only)); refine box_event ?hg (N := 1) ?hd (cs := #[.int .i64 a0_0, .int .i64 a0_1, .string a0_2]) (t := 23) ?hr ?_; (case hd => rfl); (case hg => rfl); (case hr => first | (go_simp; done) | (go_simp; rfl)); intro gb122 hg w46 hbox hb; have n0_ := Aside0.mk (below_step (by repeat (first | (with_reducible first | exact HB.out | apply below_alloc | apply pw_below_drewN | apply below_drew1) | exact HB.out)) hb); have n1_ := Aside0.mk (hbox); have n2_ := Aside0.mk ((by rw [hg]; exact (below_size (by repeat (first | (with_reducible first | exact HB.out | apply below_alloc | apply pw_below_drewN | apply below_drew1) | exact HB.out))) : w.heap.size ≤ gb122)); have n3_ := Aside0.mk ((by rw [hg]; exact (below_size (by repeat (first | (with_reducible first | exact HB.out | apply below_alloc | apply pw_below_drewN | apply below_drew1) | exact HB.out))) : w.heap.size ≤ gb122)); clear HB; have HB := n0_; have BK122 := n1_; have GW122 := n2_; have GE122 := n3_; clear n0_ n1_ n2_ n3_; clear hb hbox hg; have hcz47_0 : w46.cell? ⟨gb122, 0, none⟩ = some (.int .i64 a0_0) := (blk_cell BK122.out 0).trans rfl; have hcz47_1 : w46.cell? ⟨gb122, 1, none⟩ = some (.int .i64 a0_1) := (blk_cell BK122.out 1).trans rfl; have hcz47_2 : w46.cell? ⟨gb122, 2, none⟩ = some (.string a0_2) := (blk_cell BK122.out 2).trans rfl; have hfz47_0 := blk_frozen BK122.out 0; have hfz47_1 := blk_frozen BK122.out 1; have hfz47_2 := blk_frozen BK122.out 2))
          go_ret
          exact ⟨by first | rfl | (simp [errW_none, errW_some] <;> rfl) | (simp [*, errW_none, errW_some] <;> rfl), by repeat (first | (with_reducible first | exact HB.out | apply below_alloc | apply pw_below_drewN | apply below_drew1 | refine below_set ?_ GE122.out) | exact HB.out)⟩
        · rw [if_neg c45] at H
          have c45b0 : (a0_1 == 0) = false := beq_eq_false_iff_ne.mpr c45
          have c45b1 : (a0_1 != 0) = true := bne_iff_ne.mpr c45
          obtain rfl := Option.some.inj H
          go_enter Tryd.func10, Tryd.ntmps10
          go_wp2_with (first | ((with_reducible refine gate_dst (N := 1) rfl ?_); (try (refine gate_guard (by rfl) ?_; dsimp only)); refine box_event ?hg (N := 1) ?hd (cs := #[.int .i64 a0_0, .int .i64 a0_1, .string a0_2]) (t := 23) ?hr ?_; (case hd => rfl); (case hg => rfl); (case hr => first | (go_simp; done) | (go_simp; rfl)); intro gb122 hg w48 hbox hb; have n0_ := Aside0.mk (below_step (by repeat (first | (with_reducible first | exact HB.out | apply below_alloc | apply pw_below_drewN | apply below_drew1) | exact HB.out)) hb); have n1_ := Aside0.mk (hbox); have n2_ := Aside0.mk ((by rw [hg]; exact (below_size (by repeat (first | (with_reducible first | exact HB.out | apply below_alloc | apply pw_below_drewN | apply below_drew1) | exact HB.out))) : w.heap.size ≤ gb122)); have n3_ := Aside0.mk ((by rw [hg]; exact (below_size (by repeat (first | (with_reducible first | exact HB.out | apply below_alloc | apply pw_below_drewN | apply below_drew1) | exact HB.out))) : w.heap.size ≤ gb122)); clear HB; have HB := n0_; have BK122 := n1_; have GW122 := n2_; have GE122 := n3_; clear n0_ n1_ n2_ n3_; clear hb hbox hg; have hcz49_0 : w48.cell? ⟨gb122, 0, none⟩ = some (.int .i64 a0_0) := (blk_cell BK122.out 0).trans rfl; have hcz49_1 : w48.cell? ⟨gb122, 1, none⟩ = some (.int .i64 a0_1) := (blk_cell BK122.out 1).trans rfl; have hcz49_2 : w48.cell? ⟨gb122, 2, none⟩ = some (.string a0_2) := (blk_cell BK122.out 2).trans rfl; have hfz49_0 := blk_frozen BK122.out 0; have hfz49_1 := blk_frozen BK122.out 1; have hfz49_2 := blk_frozen BK122.out 2))
          go_ret
          exact ⟨by first | rfl | (simp [errW_none, errW_some] <;> rfl) | (simp [*, errW_none, errW_some] <;> rfl), by repeat (first | (with_reducible first | exact HB.out | apply below_alloc | apply pw_below_drewN | apply below_drew1 | refine below_set ?_ GE122.out) | exact HB.out)⟩
      · rw [if_neg c44] at H
        have c44b0 : (a0_0 == 3) = false := beq_eq_false_iff_ne.mpr c44
        have c44b1 : (a0_0 != 3) = true := bne_iff_ne.mpr c44
        obtain rfl := Option.some.inj H
        go_enter Tryd.func10, Tryd.ntmps10
        go_wp2_with (first | ((with_reducible refine gate_dst (N := 1) rfl ?_); (try (refine gate_guard (by rfl) ?_; dsimp only)); refine box_event ?hg (N := 1) ?hd (cs := #[.int .i64 a0_0, .int .i64 a0_1, .string a0_2]) (t := 23) ?hr ?_; (case hd => rfl); (case hg => rfl); (case hr => first | (go_simp; done) | (go_simp; rfl)); intro gb122 hg w50 hbox hb; have n0_ := Aside0.mk (below_step (by repeat (first | (with_reducible first | exact HB.out | apply below_alloc | apply pw_below_drewN | apply below_drew1) | exact HB.out)) hb); have n1_ := Aside0.mk (hbox); have n2_ := Aside0.mk ((by rw [hg]; exact (below_size (by repeat (first | (with_reducible first | exact HB.out | apply below_alloc | apply pw_below_drewN | apply below_drew1) | exact HB.out))) : w.heap.size ≤ gb122)); have n3_ := Aside0.mk ((by rw [hg]; exact (below_size (by repeat (first | (with_reducible first | exact HB.out | apply below_alloc | apply pw_below_drewN | apply below_drew1) | exact HB.out))) : w.heap.size ≤ gb122)); clear HB; have HB := n0_; have BK122 := n1_; have GW122 := n2_; have GE122 := n3_; clear n0_ n1_ n2_ n3_; clear hb hbox hg; have hcz51_0 : w50.cell? ⟨gb122, 0, none⟩ = some (.int .i64 a0_0) := (blk_cell BK122.out 0).trans rfl; have hcz51_1 : w50.cell? ⟨gb122, 1, none⟩ = some (.int .i64 a0_1) := (blk_cell BK122.out 1).trans rfl; have hcz51_2 : w50.cell? ⟨gb122, 2, none⟩ = some (.string a0_2) := (blk_cell BK122.out 2).trans rfl; have hfz51_0 := blk_frozen BK122.out 0; have hfz51_1 := blk_frozen BK122.out 1; have hfz51_2 := blk_frozen BK122.out 2))
        go_ret
        exact ⟨by first | rfl | (simp [errW_none, errW_some] <;> rfl) | (simp [*, errW_none, errW_some] <;> rfl), by repeat (first | (with_reducible first | exact HB.out | apply below_alloc | apply pw_below_drewN | apply below_drew1 | refine below_set ?_ GE122.out) | exact HB.out)⟩


end Go.Proofs.YtcglhpagimkajaaDoor.Pv
namespace Go.Proofs.YtcglhpagimkajaaDoor.Pv
open Go.RowKit Go.Proofs.YtcglhpagimkajaaDoorW.PrintWords Go.Proofs.YtcglhpagimkajaaDoorW.PrintLast Go.Proofs.YtcglhpagimkajaaDoorW.PrintMore
attribute [local go_sem] max2_int min2_int max_two min_two max_three min_three max_four min_four
set_option linter.unusedVariables false
set_option linter.unusedSimpArgs false

/-! ### tallyroomref04_Digits: function 25 -/
mutual
def tallyroomref04_Digits.j0 : Nat → ByteArray → Int → Option (ByteArray)
  | 0, _, _ => none
  | k + 1, x3, x4 => tallyroomref04_Digits.l0 k x3 x4 (⟨#[]⟩ : ByteArray)
def tallyroomref04_Digits.l0 : Nat → ByteArray → Int → ByteArray → Option (ByteArray)
  | 0, _, _, _ => none
  | k + 1, x3, x4, x5 => (some (([(IntKind.u64.wrap (48 + (Int.tmod x4 10))) % 256] : List Int) : List Int)).bind fun y123 => (if (strOfNums y123).size + x5.size ≤ 9223372036854775807 then (if (IntKind.u64.wrap (Int.tdiv x4 10)) = 0 then (if x3.size + ((strOfNums y123) ++ x5).size ≤ 9223372036854775807 then (some (x3 ++ ((strOfNums y123) ++ x5))) else (none)) else (tallyroomref04_Digits.l0 k x3 (IntKind.u64.wrap (Int.tdiv x4 10)) ((strOfNums y123) ++ x5))) else (none))
end
def tallyroomref04_Digits.f (k : Nat) (a0 : Int) : Option (ByteArray) := if a0 < 0 then (tallyroomref04_Digits.j0 k (⟨#[45]⟩ : ByteArray) (IntKind.u64.wrap ((IntKind.u64.wrap (wrap64 (-(wrap64 (a0 + 1))))) + 1))) else (tallyroomref04_Digits.j0 k (⟨#[]⟩ : ByteArray) (IntKind.u64.wrap (a0)))
theorem tallyroomref04_Digits.mono_l : ∀ k, (∀ y0 y1, LeO (tallyroomref04_Digits.j0 k y0 y1) (tallyroomref04_Digits.j0 (k + 1) y0 y1)) ∧ (∀ y0 y1 y2, LeO (tallyroomref04_Digits.l0 k y0 y1 y2) (tallyroomref04_Digits.l0 (k + 1) y0 y1 y2))
  | 0 => ⟨fun _ _ r h => by simp [tallyroomref04_Digits.j0] at h, fun _ _ _ r h => by simp [tallyroomref04_Digits.l0] at h⟩
  | k + 1 => by
    obtain ⟨ih0, ih1⟩ := tallyroomref04_Digits.mono_l k
    refine ⟨?_, ?_⟩
    · intro y0 y1
      unfold tallyroomref04_Digits.j0
      repeat' first
      | (with_reducible exact ih0 _ _)
      | (with_reducible exact ih1 _ _ _)
      | (with_reducible exact LeO.refl _)
      | (with_reducible exact LeO.none _)
      | (with_reducible refine LeO.ite ?_ ?_)
      | (with_reducible refine LeO.bind ?_ (fun _ => ?_))
      | exact ih0 _ _
      | exact ih1 _ _ _
      | exact LeO.none _
      | refine LeO.ite ?_ ?_
      | refine LeO.bind ?_ (fun _ => ?_)
    · intro y0 y1 y2
      unfold tallyroomref04_Digits.l0
      repeat' first
      | (with_reducible exact ih0 _ _)
      | (with_reducible exact ih1 _ _ _)
      | (with_reducible exact LeO.refl _)
      | (with_reducible exact LeO.none _)
      | (with_reducible refine LeO.ite ?_ ?_)
      | (with_reducible refine LeO.bind ?_ (fun _ => ?_))
      | exact ih0 _ _
      | exact ih1 _ _ _
      | exact LeO.none _
      | refine LeO.ite ?_ ?_
      | refine LeO.bind ?_ (fun _ => ?_)
theorem tallyroomref04_Digits.mono : ∀ a0 k, LeO (tallyroomref04_Digits.f k a0) (tallyroomref04_Digits.f (k + 1) a0) := by
  intro a0 k
  obtain ⟨ih0, ih1⟩ := tallyroomref04_Digits.mono_l k
  unfold tallyroomref04_Digits.f
  repeat' first
      | (with_reducible exact ih0 _ _)
      | (with_reducible exact ih1 _ _ _)
      | (with_reducible exact LeO.refl _)
      | (with_reducible exact LeO.none _)
      | (with_reducible refine LeO.ite ?_ ?_)
      | (with_reducible refine LeO.bind ?_ (fun _ => ?_))
      | exact ih0 _ _
      | exact ih1 _ _ _
      | exact LeO.none _
      | refine LeO.ite ?_ ?_
      | refine LeO.bind ?_ (fun _ => ?_)
set_option maxHeartbeats 8000000 in
set_option maxRecDepth 100000 in
theorem tallyroomref04_Digits.calls (k : Nat) (a0 : Int) (r : ByteArray) (w : World) (h : tallyroomref04_Digits.f k a0 = some r) :
    Calls Tryd.prog 25 #[.int .i64 a0] w fun e w' => e = .returned (.string r) ∧ Below w.heap.size w w' := by
  have HB := Aside0.mk (Below.refl w.heap.size w)
  have H : (if a0 < 0 then (tallyroomref04_Digits.j0 k (⟨#[45]⟩ : ByteArray) (IntKind.u64.wrap ((IntKind.u64.wrap (wrap64 (-(wrap64 (a0 + 1))))) + 1))) else (tallyroomref04_Digits.j0 k (⟨#[]⟩ : ByteArray) (IntKind.u64.wrap (a0)))) = some r := h
  clear h
  have HC2 := Aside0.mk H
  clear H
  go_enter Tryd.func25, Tryd.ntmps25
  go_upto_if 9 with (fail)
  go_cut [3, 4] (fun v3 v4 wc => ∃ (kq : Nat) (x3_1 : ByteArray) (x4_1 : Int), v3 = .string x3_1 ∧ v4 = .int .u64 x4_1 ∧ Aside0 (tallyroomref04_Digits.j0 kq x3_1 x4_1 = some r) ∧ Aside0 (kq ≤ k) ∧ Aside0 (Below w.heap.size w wc))
  case first =>
    have H := HC2.out
    clear HC2
    by_cases c3 : a0 < 0
    · rw [if_pos c3] at H
      have c3b0 : decide (a0 < 0) = true := decide_eq_true c3
      clear c3
      (first | rw [c3b0] | (simp only [i64_w, i32_w]; rw [c3b0]) | skip)
      have H' := Aside0.mk H
      clear H
      go_wp2
      go_meet
      case rel => exact ⟨_, ((⟨#[45]⟩ : ByteArray)), (IntKind.u64.wrap ((IntKind.u64.wrap (wrap64 (-(wrap64 (a0 + 1))))) + 1)), (by first | rfl | (simp; done) | (simp [*]; done)), (by first | rfl | (simp; done) | (simp [*]; done)), H', ⟨by first | omega | exact Nat.le_refl _⟩, ⟨by repeat (first | (with_reducible first | exact HB.out | apply below_alloc | apply pw_below_drewN | apply below_drew1) | exact HB.out)⟩⟩
    · rw [if_neg c3] at H
      have c3b0 : decide (a0 < 0) = false := decide_eq_false c3
      clear c3
      (first | rw [c3b0] | (simp only [i64_w, i32_w]; rw [c3b0]) | skip)
      have H' := Aside0.mk H
      clear H
      go_wp2
      go_meet
      case rel => exact ⟨_, ((⟨#[]⟩ : ByteArray)), (IntKind.u64.wrap (a0)), (by first | rfl | (simp; done) | (simp [*]; done)), (by first | rfl | (simp; done) | (simp [*]; done)), H', ⟨by first | omega | exact Nat.le_refl _⟩, ⟨by repeat (first | (with_reducible first | exact HB.out | apply below_alloc | apply pw_below_drewN | apply below_drew1) | exact HB.out)⟩⟩
  case rest =>
    clear HC2
    try clear c2
    try clear p2
    try clear c3
    try clear c3b0
    obtain ⟨kq, x3_1, x4_1, rfl, rfl, HA, HJ1, HB⟩ := hcut
    cases kq with
    | zero => exact absurd HA.out (by simp [tallyroomref04_Digits.j0])
    | succ kj1 =>
      have H := HA.out
      clear HA
      simp only [tallyroomref04_Digits.j0] at H
      have H' := Aside0.mk H
      clear H
      go_wp2
      go_loopg [4, 5] kj1 (fun kq v4 v5 w' => ∃ (x4_2 : Int) (x5_2 : ByteArray), v4 = .int .u64 x4_2 ∧ v5 = .string x5_2 ∧ Aside0 (tallyroomref04_Digits.l0 kq x3_1 x4_2 x5_2 = some r) ∧ Aside0 (kq ≤ kj1) ∧ Aside0 (Below w.heap.size w w'))
      case atStart => exact ⟨(x4_1), ((⟨#[]⟩ : ByteArray)), (by first | rfl | (simp; done) | (simp [*]; done)), (by first | rfl | (simp; done) | (simp [*]; done)), H', ⟨Nat.le_refl _⟩, ⟨by repeat (first | (with_reducible first | exact HB.out | apply below_alloc | apply pw_below_drewN | apply below_drew1) | exact HB.out)⟩⟩
      case round =>
        clear H'
        try clear c2
        try clear p2
        try clear c3
        try clear c3b0
        try clear p2
        obtain ⟨x4_2, x5_2, rfl, rfl, HA, HK2, HB⟩ := hrel
        cases gk with
        | zero => exact absurd HA.out (by simp [tallyroomref04_Digits.l0])
        | succ k2 =>
          have H := HA.out
          clear HA
          simp only [tallyroomref04_Digits.l0] at H
          obtain ⟨y123, hy123⟩ : ∃ y_ : List Int, y_ = (([(IntKind.u64.wrap (48 + (Int.tmod x4_2 10))) % 256] : List Int)) := ⟨_, rfl⟩
          replace H : (if (strOfNums y123).size + x5_2.size ≤ 9223372036854775807 then (if (IntKind.u64.wrap (Int.tdiv x4_2 10)) = 0 then (if x3_1.size + ((strOfNums y123) ++ x5_2).size ≤ 9223372036854775807 then (some (x3_1 ++ ((strOfNums y123) ++ x5_2))) else (none)) else (tallyroomref04_Digits.l0 k2 x3_1 (IntKind.u64.wrap (Int.tdiv x4_2 10)) ((strOfNums y123) ++ x5_2))) else (none)) = some r := by first | (rw [hy123]; with_reducible exact H) | (have H2_ := (Option.bind_some _ _).symm.trans H; rw [hy123]; with_reducible exact H2_) | (have H2_ := (Option.bind_some _ _).symm.trans H; with_reducible exact H2_) | with_reducible exact H | (rw [hy123]; exact H) | exact H
          have Ny123 := Aside0.mk hy123
          clear hy123
          by_cases c4 : (strOfNums y123).size + x5_2.size ≤ 9223372036854775807
          · rw [if_pos c4] at H
            have c4b0 := eq_true c4
            have c4b1 : decide ((strOfNums y123).size + x5_2.size ≤ 9223372036854775807) = true := decide_eq_true c4
            try have c4b2 : (9223372036854775807 < (strOfNums y123).size + x5_2.size) = False := eq_false (Nat.not_lt.2 c4)
            by_cases c5 : (IntKind.u64.wrap (Int.tdiv x4_2 10)) = 0
            · rw [if_pos c5] at H
              have c5b0 : ((IntKind.u64.wrap (Int.tdiv x4_2 10)) == 0) = true := beq_iff_eq.mpr c5
              have c5b1 : ((IntKind.u64.wrap (Int.tdiv x4_2 10)) != 0) = false := bne_eq_false_iff_eq.mpr c5
              clear c5
              by_cases c6 : x3_1.size + ((strOfNums y123) ++ x5_2).size ≤ 9223372036854775807
              · rw [if_pos c6] at H
                have c6b0 := eq_true c6
                have c6b1 : decide (x3_1.size + ((strOfNums y123) ++ x5_2).size ≤ 9223372036854775807) = true := decide_eq_true c6
                try have c6b2 : (9223372036854775807 < x3_1.size + ((strOfNums y123) ++ x5_2).size) = False := eq_false (Nat.not_lt.2 c6)
                obtain rfl := Option.some.inj H
                go_wp2_with (first | ((with_reducible refine gate_dst (N := 19) rfl ?_); refine Kd.R_lit (Kd.int .u8) _ 5 ?hg (N := 19) ?hd (xs := ([(IntKind.u64.wrap (48 + (Int.tmod x4_2 10))) % 256] : List Int)) (inner := [.int .u8 ((IntKind.u64.wrap (48 + (Int.tmod x4_2 10))) % 256)]) (ok := fun _ => True) (okp := fun _ => True) ?hr ?hp (fun _ hk => hk) trivial (Below.refl _ _) (Nat.le_refl _) (by simp) ?_; (case hd => rfl); (case hg => rfl); (case hr => first | (go_simp; done) | (go_simp; rfl)); (case hp => exact (Reps.one (show Kd.M (Kd.int .u8) _ _ _ ((IntKind.u64.wrap (48 + (Int.tmod x4_2 10))) % 256) [.int .u8 ((IntKind.u64.wrap (48 + (Int.tmod x4_2 10))) % 256)] from rfl) (Reps.none _ _))); intro v124 w7 ho8 hb hg_ hnew_; clear hg_ hnew_; (first | rw [← Ny123.out] at ho8 | (simp only [Int.reduceToNat] at ho8; rw [← Ny123.out] at ho8)); have n0_ := Aside0.mk (Kd.R_lower ho8 (below_size (by repeat (first | (with_reducible first | exact HB.out | apply below_alloc | apply pw_below_drewN | apply below_drew1) | exact HB.out)))); have n1_ := Aside0.mk (below_step (by repeat (first | (with_reducible first | exact HB.out | apply below_alloc | apply pw_below_drewN | apply below_drew1) | exact HB.out)) hb); clear HB; have HO125 := n0_; have HB := n1_; clear n0_ n1_; clear hb ho8; have hcv9 := own_string (P := Tryd.prog) Tryd.underlying40 Tryd.underlying5 Tryd.underlying9 (Kd.own_of_R HO125.out)))
                go_ret
                exact ⟨by first | rfl | (simp [errW_none, errW_some] <;> rfl) | (simp [*, errW_none, errW_some] <;> rfl), by repeat (first | (with_reducible first | exact HB.out | apply below_alloc | apply pw_below_drewN | apply below_drew1) | exact HB.out)⟩
              · rw [if_neg c6] at H
                exact absurd H (by simp)
            · rw [if_neg c5] at H
              have c5b0 : ((IntKind.u64.wrap (Int.tdiv x4_2 10)) == 0) = false := beq_eq_false_iff_ne.mpr c5
              have c5b1 : ((IntKind.u64.wrap (Int.tdiv x4_2 10)) != 0) = true := bne_iff_ne.mpr c5
              have H' := Aside0.mk H
              clear H
              go_wp2_with (first | ((with_reducible refine gate_dst (N := 19) rfl ?_); refine Kd.R_lit (Kd.int .u8) _ 5 ?hg (N := 19) ?hd (xs := ([(IntKind.u64.wrap (48 + (Int.tmod x4_2 10))) % 256] : List Int)) (inner := [.int .u8 ((IntKind.u64.wrap (48 + (Int.tmod x4_2 10))) % 256)]) (ok := fun _ => True) (okp := fun _ => True) ?hr ?hp (fun _ hk => hk) trivial (Below.refl _ _) (Nat.le_refl _) (by simp) ?_; (case hd => rfl); (case hg => rfl); (case hr => first | (go_simp; done) | (go_simp; rfl)); (case hp => exact (Reps.one (show Kd.M (Kd.int .u8) _ _ _ ((IntKind.u64.wrap (48 + (Int.tmod x4_2 10))) % 256) [.int .u8 ((IntKind.u64.wrap (48 + (Int.tmod x4_2 10))) % 256)] from rfl) (Reps.none _ _))); intro v124 w10 ho11 hb hg_ hnew_; clear hg_ hnew_; (first | rw [← Ny123.out] at ho11 | (simp only [Int.reduceToNat] at ho11; rw [← Ny123.out] at ho11)); have n0_ := Aside0.mk (Kd.R_lower ho11 (below_size (by repeat (first | (with_reducible first | exact HB.out | apply below_alloc | apply pw_below_drewN | apply below_drew1) | exact HB.out)))); have n1_ := Aside0.mk (below_step (by repeat (first | (with_reducible first | exact HB.out | apply below_alloc | apply pw_below_drewN | apply below_drew1) | exact HB.out)) hb); clear HB; have HO125 := n0_; have HB := n1_; clear n0_ n1_; clear hb ho11; have hcv12 := own_string (P := Tryd.prog) Tryd.underlying40 Tryd.underlying5 Tryd.underlying9 (Kd.own_of_R HO125.out)))
              go_roundg k2
              case measure => have := HJ1.out; have := HK2.out; omega
              case rel => exact ⟨(IntKind.u64.wrap (Int.tdiv x4_2 10)), ((strOfNums y123) ++ x5_2), (by first | rfl | (simp; done) | (simp [*]; done)), (by first | rfl | (simp; done) | (simp [*]; done)), H', ⟨by have := HJ1.out; have := HK2.out; omega⟩, ⟨by repeat (first | (with_reducible first | exact HB.out | apply below_alloc | apply pw_below_drewN | apply below_drew1) | exact HB.out)⟩⟩
          · rw [if_neg c4] at H
            exact absurd H (by simp)



end Go.Proofs.YtcglhpagimkajaaDoor.Pv
namespace Go.Proofs.YtcglhpagimkajaaDoor.Pv
open Go.RowKit Go.Proofs.YtcglhpagimkajaaDoorW.PrintWords Go.Proofs.YtcglhpagimkajaaDoorW.PrintLast Go.Proofs.YtcglhpagimkajaaDoorW.PrintMore
attribute [local go_sem] max2_int min2_int max_two min_two max_three min_three max_four min_four
set_option linter.unusedVariables false
set_option linter.unusedSimpArgs false

/-! ### tallyroomref04_Text: function 14 -/
def tallyroomref04_Text.f (k : Nat) (a0_0 : Int) (a0_1 : Int) (a0_2 : ByteArray) : Option (ByteArray) := if a0_0 = 1 then ((tallyroomref04_Digits.f k a0_1).bind fun t127 => (some t127)) else (if a0_0 = 2 then (if a0_1 = 1 then (some (⟨#[116, 114, 117, 101]⟩ : ByteArray)) else (some (⟨#[102, 97, 108, 115, 101]⟩ : ByteArray))) else (some a0_2))
theorem tallyroomref04_Text.mono : ∀ a0 a1 a2 k, LeO (tallyroomref04_Text.f k a0 a1 a2) (tallyroomref04_Text.f (k + 1) a0 a1 a2) := by
  intro a0 a1 a2 k
  unfold tallyroomref04_Text.f
  repeat' first
      | (with_reducible exact tallyroomref04_Digits.mono _ _)
      | (with_reducible exact LeO.refl _)
      | (with_reducible exact LeO.none _)
      | (with_reducible refine LeO.ite ?_ ?_)
      | (with_reducible refine LeO.bind ?_ (fun _ => ?_))
      | exact tallyroomref04_Digits.mono _ _
      | exact LeO.none _
      | refine LeO.ite ?_ ?_
      | refine LeO.bind ?_ (fun _ => ?_)
set_option maxHeartbeats 8000000 in
set_option maxRecDepth 100000 in
theorem tallyroomref04_Text.calls (k : Nat) (a0_0 : Int) (a0_1 : Int) (a0_2 : ByteArray) (r : ByteArray) (w : World) (h : tallyroomref04_Text.f k a0_0 a0_1 a0_2 = some r) :
    Calls Tryd.prog 14 #[.agg #[.int .i64 a0_0, .int .i64 a0_1, .string a0_2]] w fun e w' => e = .returned (.string r) ∧ Below w.heap.size w w' := by
  have hu23 := Tryd.underlying23
  have HB := Aside0.mk (Below.refl w.heap.size w)
  have H : (if a0_0 = 1 then ((tallyroomref04_Digits.f k a0_1).bind fun t127 => (some t127)) else (if a0_0 = 2 then (if a0_1 = 1 then (some (⟨#[116, 114, 117, 101]⟩ : ByteArray)) else (some (⟨#[102, 97, 108, 115, 101]⟩ : ByteArray))) else (some a0_2))) = some r := h
  clear h
  by_cases c2 : a0_0 = 1
  · rw [if_pos c2] at H
    have c2b0 : (a0_0 == 1) = true := beq_iff_eq.mpr c2
    have c2b1 : (a0_0 != 1) = false := bne_eq_false_iff_eq.mpr c2
    clear c2
    replace H := Option.bind_eq_some_iff.mp H
    obtain ⟨t127, A30, H⟩ := H
    replace H : (some t127) = some r := H
    have A3 := Aside0.mk A30
    clear A30
    obtain rfl := Option.some.inj H
    go_enter Tryd.func14, Tryd.ntmps14
    go_wp2_with (first | ((with_reducible refine gate_dst (N := 1) rfl ?_); refine box_event ?hg (N := 1) ?hd (cs := #[.int .i64 a0_0, .int .i64 a0_1, .string a0_2]) (t := 23) ?hr ?_; (case hd => rfl); (case hg => rfl); (case hr => first | (go_simp; done) | (go_simp; rfl)); intro gb126 hg w4 hbox hb; have n0_ := Aside0.mk (below_step (by repeat (first | (with_reducible first | exact HB.out | apply below_alloc | apply pw_below_drewN | apply below_drew1) | exact HB.out)) hb); have n1_ := Aside0.mk (hbox); have n2_ := Aside0.mk ((by rw [hg]; exact (below_size (by repeat (first | (with_reducible first | exact HB.out | apply below_alloc | apply pw_below_drewN | apply below_drew1) | exact HB.out))) : w.heap.size ≤ gb126)); have n3_ := Aside0.mk ((by rw [hg]; exact (below_size (by repeat (first | (with_reducible first | exact HB.out | apply below_alloc | apply pw_below_drewN | apply below_drew1) | exact HB.out))) : w.heap.size ≤ gb126)); clear HB; have HB := n0_; have BK126 := n1_; have GW126 := n2_; have GE126 := n3_; clear n0_ n1_ n2_ n3_; clear hb hbox hg; have hcz5_0 : w4.cell? ⟨gb126, 0, none⟩ = some (.int .i64 a0_0) := (blk_cell BK126.out 0).trans rfl; have hcz5_1 : w4.cell? ⟨gb126, 1, none⟩ = some (.int .i64 a0_1) := (blk_cell BK126.out 1).trans rfl; have hcz5_2 : w4.cell? ⟨gb126, 2, none⟩ = some (.string a0_2) := (blk_cell BK126.out 2).trans rfl; have hfz5_0 := blk_frozen BK126.out 0; have hfz5_1 := blk_frozen BK126.out 1; have hfz5_2 := blk_frozen BK126.out 2) | ((with_reducible refine gate_callee (f := 25) rfl ?_); refine goesL_ (some 8) rfl rfl Tryd.func25 (by kernel_rfl) rfl #[.int .i64 a0_1] rfl (by (try simp only [List.map_toArray, List.map_cons, List.map_nil]); first | done | rfl | (simp only [List.length_drop, List.length_take]; rfl)) ?_; (with_reducible refine (tallyroomref04_Digits.calls k a0_1 t127 _ A3.out).mono ?_); rintro e w6 ⟨rfl, hb⟩; refine ⟨_, rfl, ?_⟩; have n0_ := Aside0.mk (blk_below (g := gb126) (o := .cells #[.int .i64 a0_0, .int .i64 a0_1, .string a0_2] 23 (0, 0)) (by (with_reducible repeat (first | refine blk_drewN ?_ _ | refine blk_drew ?_ | refine blk_alloc ?_ _)); exact BK126.out) hb); have n1_ := Aside0.mk (below_step (by repeat (first | (with_reducible first | exact HB.out | apply below_alloc | apply pw_below_drewN | apply below_drew1 | refine below_set ?_ GE126.out) | exact HB.out)) hb); clear BK126; clear HB; have BK126 := n0_; have HB := n1_; clear n0_ n1_; (try clear hb); (try clear hb2); (try clear hk); (try clear hi)))
    go_ret
    exact ⟨by first | rfl | (simp [errW_none, errW_some] <;> rfl) | (simp [*, errW_none, errW_some] <;> rfl), by repeat (first | (with_reducible first | exact HB.out | apply below_alloc | apply pw_below_drewN | apply below_drew1 | refine below_set ?_ GE126.out) | exact HB.out)⟩
  · rw [if_neg c2] at H
    have c2b0 : (a0_0 == 1) = false := beq_eq_false_iff_ne.mpr c2
    have c2b1 : (a0_0 != 1) = true := bne_iff_ne.mpr c2
    by_cases c7 : a0_0 = 2
    · rw [if_pos c7] at H
      have c7b0 : (a0_0 == 2) = true := beq_iff_eq.mpr c7
      have c7b1 : (a0_0 != 2) = false := bne_eq_false_iff_eq.mpr c7
      clear c7
      by_cases c8 : a0_1 = 1
      · rw [if_pos c8] at H
        have c8b0 : (a0_1 == 1) = true := beq_iff_eq.mpr c8
        have c8b1 : (a0_1 != 1) = false := bne_eq_false_iff_eq.mpr c8
        clear c8
        obtain rfl := Option.some.inj H
        go_enter Tryd.func14, Tryd.ntmps14
        go_wp2_with (first | ((with_reducible refine gate_dst (N := 1) rfl ?_); refine box_event ?hg (N := 1) ?hd (cs := #[.int .i64 a0_0, .int .i64 a0_1, .string a0_2]) (t := 23) ?hr ?_; (case hd => rfl); (case hg => rfl); (case hr => first | (go_simp; done) | (go_simp; rfl)); intro gb126 hg w9 hbox hb; have n0_ := Aside0.mk (below_step (by repeat (first | (with_reducible first | exact HB.out | apply below_alloc | apply pw_below_drewN | apply below_drew1) | exact HB.out)) hb); have n1_ := Aside0.mk (hbox); have n2_ := Aside0.mk ((by rw [hg]; exact (below_size (by repeat (first | (with_reducible first | exact HB.out | apply below_alloc | apply pw_below_drewN | apply below_drew1) | exact HB.out))) : w.heap.size ≤ gb126)); have n3_ := Aside0.mk ((by rw [hg]; exact (below_size (by repeat (first | (with_reducible first | exact HB.out | apply below_alloc | apply pw_below_drewN | apply below_drew1) | exact HB.out))) : w.heap.size ≤ gb126)); clear HB; have HB := n0_; have BK126 := n1_; have GW126 := n2_; have GE126 := n3_; clear n0_ n1_ n2_ n3_; clear hb hbox hg; have hcz10_0 : w9.cell? ⟨gb126, 0, none⟩ = some (.int .i64 a0_0) := (blk_cell BK126.out 0).trans rfl; have hcz10_1 : w9.cell? ⟨gb126, 1, none⟩ = some (.int .i64 a0_1) := (blk_cell BK126.out 1).trans rfl; have hcz10_2 : w9.cell? ⟨gb126, 2, none⟩ = some (.string a0_2) := (blk_cell BK126.out 2).trans rfl; have hfz10_0 := blk_frozen BK126.out 0; have hfz10_1 := blk_frozen BK126.out 1; have hfz10_2 := blk_frozen BK126.out 2))
        go_ret
        exact ⟨by first | rfl | (simp [errW_none, errW_some] <;> rfl) | (simp [*, errW_none, errW_some] <;> rfl), by repeat (first | (with_reducible first | exact HB.out | apply below_alloc | apply pw_below_drewN | apply below_drew1 | refine below_set ?_ GE126.out) | exact HB.out)⟩
      · rw [if_neg c8] at H
        have c8b0 : (a0_1 == 1) = false := beq_eq_false_iff_ne.mpr c8
        have c8b1 : (a0_1 != 1) = true := bne_iff_ne.mpr c8
        obtain rfl := Option.some.inj H
        go_enter Tryd.func14, Tryd.ntmps14
        go_wp2_with (first | ((with_reducible refine gate_dst (N := 1) rfl ?_); refine box_event ?hg (N := 1) ?hd (cs := #[.int .i64 a0_0, .int .i64 a0_1, .string a0_2]) (t := 23) ?hr ?_; (case hd => rfl); (case hg => rfl); (case hr => first | (go_simp; done) | (go_simp; rfl)); intro gb126 hg w11 hbox hb; have n0_ := Aside0.mk (below_step (by repeat (first | (with_reducible first | exact HB.out | apply below_alloc | apply pw_below_drewN | apply below_drew1) | exact HB.out)) hb); have n1_ := Aside0.mk (hbox); have n2_ := Aside0.mk ((by rw [hg]; exact (below_size (by repeat (first | (with_reducible first | exact HB.out | apply below_alloc | apply pw_below_drewN | apply below_drew1) | exact HB.out))) : w.heap.size ≤ gb126)); have n3_ := Aside0.mk ((by rw [hg]; exact (below_size (by repeat (first | (with_reducible first | exact HB.out | apply below_alloc | apply pw_below_drewN | apply below_drew1) | exact HB.out))) : w.heap.size ≤ gb126)); clear HB; have HB := n0_; have BK126 := n1_; have GW126 := n2_; have GE126 := n3_; clear n0_ n1_ n2_ n3_; clear hb hbox hg; have hcz12_0 : w11.cell? ⟨gb126, 0, none⟩ = some (.int .i64 a0_0) := (blk_cell BK126.out 0).trans rfl; have hcz12_1 : w11.cell? ⟨gb126, 1, none⟩ = some (.int .i64 a0_1) := (blk_cell BK126.out 1).trans rfl; have hcz12_2 : w11.cell? ⟨gb126, 2, none⟩ = some (.string a0_2) := (blk_cell BK126.out 2).trans rfl; have hfz12_0 := blk_frozen BK126.out 0; have hfz12_1 := blk_frozen BK126.out 1; have hfz12_2 := blk_frozen BK126.out 2))
        go_ret
        exact ⟨by first | rfl | (simp [errW_none, errW_some] <;> rfl) | (simp [*, errW_none, errW_some] <;> rfl), by repeat (first | (with_reducible first | exact HB.out | apply below_alloc | apply pw_below_drewN | apply below_drew1 | refine below_set ?_ GE126.out) | exact HB.out)⟩
    · rw [if_neg c7] at H
      have c7b0 : (a0_0 == 2) = false := beq_eq_false_iff_ne.mpr c7
      have c7b1 : (a0_0 != 2) = true := bne_iff_ne.mpr c7
      obtain rfl := Option.some.inj H
      go_enter Tryd.func14, Tryd.ntmps14
      go_wp2_with (first | ((with_reducible refine gate_dst (N := 1) rfl ?_); refine box_event ?hg (N := 1) ?hd (cs := #[.int .i64 a0_0, .int .i64 a0_1, .string a0_2]) (t := 23) ?hr ?_; (case hd => rfl); (case hg => rfl); (case hr => first | (go_simp; done) | (go_simp; rfl)); intro gb126 hg w13 hbox hb; have n0_ := Aside0.mk (below_step (by repeat (first | (with_reducible first | exact HB.out | apply below_alloc | apply pw_below_drewN | apply below_drew1) | exact HB.out)) hb); have n1_ := Aside0.mk (hbox); have n2_ := Aside0.mk ((by rw [hg]; exact (below_size (by repeat (first | (with_reducible first | exact HB.out | apply below_alloc | apply pw_below_drewN | apply below_drew1) | exact HB.out))) : w.heap.size ≤ gb126)); have n3_ := Aside0.mk ((by rw [hg]; exact (below_size (by repeat (first | (with_reducible first | exact HB.out | apply below_alloc | apply pw_below_drewN | apply below_drew1) | exact HB.out))) : w.heap.size ≤ gb126)); clear HB; have HB := n0_; have BK126 := n1_; have GW126 := n2_; have GE126 := n3_; clear n0_ n1_ n2_ n3_; clear hb hbox hg; have hcz14_0 : w13.cell? ⟨gb126, 0, none⟩ = some (.int .i64 a0_0) := (blk_cell BK126.out 0).trans rfl; have hcz14_1 : w13.cell? ⟨gb126, 1, none⟩ = some (.int .i64 a0_1) := (blk_cell BK126.out 1).trans rfl; have hcz14_2 : w13.cell? ⟨gb126, 2, none⟩ = some (.string a0_2) := (blk_cell BK126.out 2).trans rfl; have hfz14_0 := blk_frozen BK126.out 0; have hfz14_1 := blk_frozen BK126.out 1; have hfz14_2 := blk_frozen BK126.out 2))
      go_ret
      exact ⟨by first | rfl | (simp [errW_none, errW_some] <;> rfl) | (simp [*, errW_none, errW_some] <;> rfl), by repeat (first | (with_reducible first | exact HB.out | apply below_alloc | apply pw_below_drewN | apply below_drew1 | refine below_set ?_ GE126.out) | exact HB.out)⟩


end Go.Proofs.YtcglhpagimkajaaDoor.Pv
set_option linter.unusedVariables false
set_option linter.unusedSimpArgs false
namespace Go.Proofs.YtcglhpagimkajaaDoor.Vl
open Go.RowKit Go.Proofs.YtcglhpagimkajaaDoor.B0 Go.Proofs.YtcglhpagimkajaaDoor.Pv Go.Proofs.YtcglhpagimkajaaDoorW.PrintWords Go.Proofs.YtcglhpagimkajaaDoor.By

theorem Below_drewN {B : Nat} {a b : World} (h : Below B a b) (n : Nat) : Below B a (b.drewN n) := ⟨h.os, h.tape, h.output, h.size, h.block⟩
theorem rright_f (x : Va) : tallyroomref04_Right.f x.k x.n x.s = some (rightB x) := by
  unfold tallyroomref04_Right.f rightB
  obtain ⟨k, n, s⟩ := x
  simp only
  by_cases h1 : k = 1
  · subst h1
    by_cases hs : s.toList = []
    · simp [hs]
    · have : (s.toList == []) = false := by simpa using hs
      simp [hs]
  · by_cases h2 : k = 2
    · subst h2
      by_cases hs : s.toList = []
      · by_cases h0 : n = 0
        · simp [hs, h0]
        · by_cases h3 : n = 1 <;> simp [hs, h0, h3]
      · simp [hs]
    · by_cases h3 : k = 3
      · subst h3
        by_cases h0 : n = 0 <;> simp [h0]
      · simp [h1, h2, h3]
theorem RRight_c (x : Va) (w : World) : Calls Tryd.prog 10 #[x.c] w fun e w' => e = .returned (.bool (rightB x)) ∧ Below w.heap.size w w' :=
  tallyroomref04_Right.calls x.k x.n x.s _ w (rright_f x)

theorem one_digit (c : Nat) (h : c < 10) : strOfNums [(IntKind.u64.wrap (48 + (c : Int))) % 256] = ⟨#[UInt8.ofNat (48 + c)]⟩ := by
  have e : (IntKind.u64.wrap (48 + (c : Int))) % 256 = ((48 + c : Nat) : Int) := by
    rw [IntKind.wrap_u64]; omega
  rw [e]
  show (⟨#[UInt8.ofNat (((48 + c : Nat) : Int)).toNat]⟩ : ByteArray) = _
  rw [Int.toNat_natCast]
theorem dec_ba (u : Nat) (x : ByteArray) : (⟨(Lib.decDigits u).toArray⟩ : ByteArray) ++ x = if u < 10 then (⟨#[UInt8.ofNat (48 + u)]⟩ : ByteArray) ++ x else (⟨(Lib.decDigits (u / 10)).toArray⟩ : ByteArray) ++ ((⟨#[UInt8.ofNat (48 + u % 10)]⟩ : ByteArray) ++ x) := by
  rw [Lib.decDigits]
  split
  · rfl
  · rw [← ByteArray.append_assoc]
    congr 1
theorem dig_l0 (x3 : ByteArray) (h3 : x3.size ≤ 1) : ∀ (d u : Nat) (x : ByteArray), u < 10 ^ d → u < 2 ^ 64 → x.size + d ≤ 100 → ∃ k, tallyroomref04_Digits.l0 k x3 u x = some (x3 ++ ((⟨(Lib.decDigits u).toArray⟩ : ByteArray) ++ x)) := by
  intro d
  induction d with
  | zero =>
    intro u x hu _ hx
    have : u = 0 := by simpa using hu
    subst this
    refine ⟨1, ?_⟩
    have e := one_digit 0 (by omega)
    have hsz : (⟨#[UInt8.ofNat (48 + 0)]⟩ : ByteArray).size = 1 := rfl
    have hw : IntKind.u64.wrap (Int.tdiv ((0 : Nat) : Int) 10) = 0 := by kernel_rfl
    have hm : Int.tmod ((0 : Nat) : Int) 10 = ((0 : Nat) : Int) := by kernel_rfl
    rw [dec_ba, if_pos (by omega), tallyroomref04_Digits.l0]
    simp only [Option.bind_some]
    rw [hm, e, hw, if_pos (by rw [hsz]; omega), if_pos rfl, if_pos (by rw [ByteArray.size_append, hsz]; omega)]
  | succ d ih =>
    intro u x hu hu2 hx
    have hm : Int.tmod ((u : Nat) : Int) 10 = ((u % 10 : Nat) : Int) := by rw [Int.tmod_eq_emod_of_nonneg (by omega)]; omega
    have hw : IntKind.u64.wrap (Int.tdiv ((u : Nat) : Int) 10) = ((u / 10 : Nat) : Int) := by rw [Int.tdiv_eq_ediv_of_nonneg (by omega), IntKind.wrap_u64]; omega
    have e := one_digit (u % 10) (by omega)
    have hsz : (⟨#[UInt8.ofNat (48 + u % 10)]⟩ : ByteArray).size = 1 := rfl
    by_cases h10 : u < 10
    · refine ⟨1, ?_⟩
      have h0 : u / 10 = 0 := by omega
      have hs2 : (⟨#[UInt8.ofNat (48 + u)]⟩ : ByteArray).size = 1 := rfl
      rw [dec_ba, if_pos h10, tallyroomref04_Digits.l0]
      simp only [Option.bind_some]
      rw [hm, e, hw, show u % 10 = u from by omega, h0, if_pos (by rw [hs2]; omega), if_pos (by rfl), if_pos (by rw [ByteArray.size_append, hs2]; omega)]
    · obtain ⟨k, hk⟩ := ih (u / 10) ((⟨#[UInt8.ofNat (48 + u % 10)]⟩ : ByteArray) ++ x) (by rw [Nat.pow_succ] at hu; omega) (by omega) (by rw [ByteArray.size_append, hsz]; omega)
      refine ⟨k + 1, ?_⟩
      rw [dec_ba, if_neg h10, tallyroomref04_Digits.l0]
      simp only [Option.bind_some]
      rw [hm, e, hw, if_pos (by rw [hsz]; omega), if_neg (by omega), hk]
theorem digits_f (n : Int) (h0 : -9223372036854775808 ≤ n) (h1 : n ≤ 9223372036854775807) : ∃ k, tallyroomref04_Digits.f k n = some (itoaS n) := by
  unfold tallyroomref04_Digits.f itoaS Lib.itoa
  by_cases hn : n < 0
  · obtain ⟨k, hk⟩ := dig_l0 ⟨#[45]⟩ (by decide) 20 n.natAbs ByteArray.empty (by omega) (by omega) (by decide)
    refine ⟨k + 1, ?_⟩
    have e : (IntKind.u64.wrap ((IntKind.u64.wrap (wrap64 (-(wrap64 (n + 1))))) + 1)) = (n.natAbs : Int) := by
      rw [IntKind.wrap_u64, IntKind.wrap_u64]; unfold wrap64; omega
    rw [if_pos hn, if_pos hn, tallyroomref04_Digits.j0, e]
    refine hk.trans ?_
    congr 1
    apply ByteArray.ext
    simp
  · obtain ⟨k, hk⟩ := dig_l0 ⟨#[]⟩ (by decide) 20 n.toNat ByteArray.empty (by omega) (by omega) (by decide)
    refine ⟨k + 1, ?_⟩
    have e : IntKind.u64.wrap n = (n.toNat : Int) := by rw [IntKind.wrap_u64]; omega
    rw [if_neg hn, if_neg hn, tallyroomref04_Digits.j0, e]
    refine hk.trans ?_
    congr 1
    apply ByteArray.ext
    simp
def okV (x : Va) : Prop := -9223372036854775808 ≤ x.n ∧ x.n ≤ 9223372036854775807
theorem RText_c (x : Va) (hx : okV x) (hr : rightB x = true) (w : World) : Calls Tryd.prog 14 #[x.c] w fun e w' => e = .returned (.string (textA (anyA x))) ∧ Below w.heap.size w w' := by
  obtain ⟨k, hk⟩ := digits_f x.n hx.1 hx.2
  refine tallyroomref04_Text.calls k x.k x.n x.s _ w ?_
  unfold tallyroomref04_Text.f
  have hk3 := kinds_of hr
  obtain ⟨xk, n, s⟩ := x
  simp only at hk hk3 ⊢
  rcases hk3 with rfl | rfl | rfl
  · rw [if_pos rfl, hk]
    unfold anyA; rw [hr]; rfl
  · rw [if_neg (by decide), if_pos rfl]
    unfold anyA; rw [hr]
    by_cases h1 : n = 1
    · subst h1; rfl
    · rw [if_neg h1]
      have : (n == 1) = false := by simpa using h1
      show _ = some (bS (n == 1))
      rw [this]; rfl
  · rw [if_neg (by decide), if_neg (by decide)]
    unfold anyA; rw [hr]; rfl

theorem empty_of {s : ByteArray} (h : s.toList = []) : s = ByteArray.empty := toList_inj (h.trans (by rw [ByteArray.toList_eq]; rfl))
theorem of_any (x : Va) (hr : rightB x = true) : ofA (anyA x) = (x, 0) := by
  have hk3 := kinds_of hr
  have hr' := hr
  obtain ⟨k, n, s⟩ := x
  simp only at hk3
  rcases hk3 with rfl | rfl | rfl
  · unfold rightB at hr'
    simp at hr'
    unfold anyA; rw [hr]
    obtain rfl := empty_of hr'
    rfl
  · unfold rightB at hr'
    simp at hr'
    unfold anyA; rw [hr]
    obtain rfl := empty_of hr'.1
    rcases hr'.2 with rfl | rfl <;> rfl
  · unfold rightB at hr'
    simp at hr'
    unfold anyA; rw [hr]
    obtain ⟨rfl, h⟩ := hr'
    show (if (s.size : Int) ≤ 4096 then _ else _) = _
    rw [if_pos (by omega)]
theorem int_any (x : Va) (hr : rightB x = true) : intA (anyA x) = (x.n, decide (x.k ≠ 3)) := by
  have hk3 := kinds_of hr
  have hr' := hr
  obtain ⟨k, n, s⟩ := x
  simp only at hk3
  rcases hk3 with rfl | rfl | rfl
  · unfold anyA; rw [hr]; rfl
  · unfold rightB at hr'
    simp at hr'
    unfold anyA; rw [hr]
    rcases hr'.2 with rfl | rfl <;> rfl
  · unfold rightB at hr'
    simp at hr'
    unfold anyA; rw [hr]
    obtain ⟨rfl, h⟩ := hr'
    rfl
theorem any_ok (x : Va) (hx : okV x) : okA (anyA x) := by
  unfold anyA
  split
  · split
    · exact hx
    · split <;> exact trivial
  · exact trivial
end Go.Proofs.YtcglhpagimkajaaDoor.Vl
set_option linter.unusedVariables false
set_option linter.unusedSimpArgs false
namespace Go.Proofs.YtcglhpagimkajaaDoor.Vl
open Go.RowKit Go.Proofs.YtcglhpagimkajaaDoor.B0 Go.Proofs.YtcglhpagimkajaaDoor.Pv Go.Proofs.YtcglhpagimkajaaDoorW.PrintWords

/-- bytes of the call's own. -/
def OB (w : World) (base : Nat) (v : Value) (xs : List Int) : Prop := w.ownsRow base 5 1 v xs.length (nums .u8 xs)
theorem OB.reads {w : World} {base : Nat} {v : Value} {xs : List Int} (h : OB w base v xs) : ∃ A c, v = .slice A xs.length c ∧ ReadsInt w .u8 A xs.length xs := own_reads h
theorem OB.below {w w' : World} {base : Nat} {v : Value} {xs : List Int} (h : OB w base v xs) (hb : Below w.heap.size w w') : OB w' base v xs := pw_own_below h hb
theorem OB.lower {w : World} {base b : Nat} {v : Value} {xs : List Int} (h : OB w base v xs) (hb : b ≤ base) : OB w b v xs := by
  refine ⟨h.1, ?_⟩
  rcases h.2 with h0 | ⟨g, cap, cur, e1, e2, e3⟩
  · exact .inl h0
  · exact .inr ⟨g, cap, cur, e1, by omega, e3⟩
theorem OB.cap {w : World} {base : Nat} {v : Value} {xs : List Int} (h : OB w base v xs) : ∃ A c, v = .slice A xs.length c ∧ xs.length ≤ c ∧ ReadsInt w .u8 A xs.length xs := by
  obtain ⟨A, c, rfl, hr⟩ := h.reads
  rcases h.2 with ⟨e, h0⟩ | ⟨g, cap, cur, e, _, _, hc, _⟩
  · exact ⟨_, _, rfl, by omega, hr⟩
  · simp only [Value.slice.injEq] at e
    obtain ⟨_, _, rfl⟩ := e
    exact ⟨_, _, rfl, hc, hr⟩
theorem info5 : (Tryd.prog.info? 5).map (fun i => (i.zero, i.size, i.bytes)) = some (some (.int .u8 0), 1, 1) := by kernel_rfl

set_option maxRecDepth 100000 in
set_option maxHeartbeats 2000000 in
theorem Clone_b (w : World) (A : Option Addr) (c : Nat) (xs : List Int) (hr : ReadsInt w .u8 A xs.length xs) (hl : xs.length ≤ 100000) :
    Calls Tryd.prog 30 #[.slice A xs.length c] w fun e w' => ∃ v', e = .returned v' ∧ OB w' w.heap.size v' xs ∧ Below w.heap.size w w' := by
  have hq : ∀ W, (binOp BinOp.eql 40 (.slice A xs.length c) (.slice none 0 0)).run Tryd.prog W = .ok (.bool A.isNone) W := fun W => Lib.run_eql_slice_nil W 40 5 A xs.length c 0 0 Tryd.underlying40
  have R := Lib.hid hr; clear hr
  cases A with
  | none =>
    have h0 : xs.length = 0 := by
      rcases Nat.eq_zero_or_pos xs.length with h | h
      · exact h
      · obtain ⟨ad, e, _⟩ := R.out.2.2 h; cases e
    obtain rfl : xs = [] := List.eq_nil_of_length_eq_zero h0
    have hq2 : ∀ W, (binOp BinOp.eql 40 (.slice none 0 c) (.slice none 0 0)).run Tryd.prog W = .ok (.bool true) W := hq
    clear hq h0
    go_enter Tryd.func30, Tryd.ntmps30
    go_wp2_with fail
    go_ret
    exact ⟨_, rfl, World.ownsRow_nil _ _ _ _, Below.refl _ _⟩
  | some ad =>
    have hq2 : ∀ W, (binOp BinOp.eql 40 (.slice (some ad) xs.length c) (.slice none 0 0)).run Tryd.prog W = .ok (.bool false) W := hq
    clear hq
    go_enter Tryd.func30, Tryd.ntmps30
    go_wp2_with (at_builtin; refine print_append_row (w0 := w) w.heap.size rfl _ _ 40 5 .u8 1 rfl Tryd.underlying40 info5 (by decide) (.slice (some ⟨w.heap.size, 0, none⟩) 0 0) [] xs (some ad) xs.length c rfl rfl (World.ownsRow_made w #[] 0 (Nat.le_refl _) (Nat.zero_le _) (by simp)) (R.out.allocS _) ((Below.refl _ _).alloc (Nat.le_refl _) _) (by simp) (by simp; omega) ?_)
    intro v1 w1 h1 h2 h3 h4
    have K1 : Hid (OB w1 w.heap.size v1 xs) := h1
    have K2 := Lib.hid h2
    clear h1 h2 h3 h4
    go_wp2_with fail
    go_ret
    exact ⟨v1, rfl, K1.out, K2.out⟩

/-- a number's bytes. -/
def putL (n : Nat) : List Int := if n < 128 then [(n : Int)] else ((n % 128 + 128 : Nat) : Int) :: putL (n / 128)
termination_by n
decreasing_by omega
theorem putL_len (n : Nat) (h : n < 2 ^ 64) : (putL n).length ≤ 10 := by
  have key : ∀ d n, n < 2 ^ (7 * d) → 0 < d → (putL n).length ≤ d := by
    intro d
    induction d with
    | zero => intro n _ h; omega
    | succ d ih =>
      intro n hn _
      rw [putL]
      split
      · simp
      · rename_i h
        have h1 : 2 ^ (7 * (d + 1)) = 2 ^ (7 * d) * 128 := by rw [Nat.mul_succ, Nat.pow_add]
        by_cases hd : d = 0
        · subst hd; simp at hn; omega
        · have := ih (n / 128) (by rw [h1] at hn; omega) (by omega)
          simp; omega
  exact key 10 n (Nat.lt_of_lt_of_le h (Nat.pow_le_pow_right (by decide) (by decide))) (by decide)
theorem or128 (a : Nat) (h : a < 256) : Go.bits .or .u8 (a : Int) 128 = ((a % 128 + 128 : Nat) : Int) := by
  have key : (List.range 256).all (fun a => Go.bits .or .u8 (a : Int) 128 == ((a % 128 + 128 : Nat) : Int)) = true := by kernel_rfl
  have := List.all_eq_true.1 key a (List.mem_range.2 h)
  simpa using this
set_option maxRecDepth 100000 in
set_option maxHeartbeats 2000000 in
theorem VPut_c (w : World) (A : Option Addr) (c : Nat) (xs : List Int) (n : Nat) (hn : n < 2 ^ 64) (hr : ReadsInt w .u8 A xs.length xs) (hl : xs.length ≤ 20000) :
    Calls Tryd.prog 31 #[.slice A xs.length c, .int .u64 n] w fun e w' => ∃ v', e = .returned v' ∧ OB w' w.heap.size v' (xs ++ putL n) ∧ Below w.heap.size w w' := by
  have hpl := putL_len n hn
  have HN := Lib.hid hn; clear hn
  have R := Lib.hid hr; clear hr
  go_enter Tryd.func31, Tryd.ntmps31
  go_wp2_with fail
  refine (Clone_b w A c xs R.out (by omega)).mono ?_
  rintro e w1 ⟨v1, rfl, hO, hB⟩
  have HO := Lib.hid hO; have HB := Lib.hid hB; clear hO hB
  go_wp2_with fail
  go_loopw [1, 5] (fun nv vv wr => ∃ (m : Nat) (ys : List Int), nv = .int .u64 m ∧ m < 2 ^ 64 ∧ Hid (OB wr w.heap.size vv ys) ∧ Hid (Below w.heap.size w wr) ∧ Hid (ys ++ putL m = xs ++ putL n)) (fun nv _ _ => (intOf nv).toNat)
  case atStart => exact ⟨n, xs, rfl, HN.out, HO, HB, rfl⟩
  case round =>
    obtain ⟨m, ys, rfl, hm, HO, HB, HE⟩ := hrel
    have hyl : ys.length ≤ 20010 := by
      have := congrArg List.length HE.out
      simp only [List.length_append] at this
      omega
    have HM := Lib.hid hm; clear hm
    have hw8 : IntKind.u8.wrap (m : Int) = (m : Int) % 256 := IntKind.wrap_u8 _
    by_cases h128 : m < 128
    · have h128i : (m : Int) < 128 := by omega
      have hput : Hid (xs ++ putL n = ys ++ [(m : Int)]) := by show _ = _; rw [← HE.out, putL, if_pos h128]
      have hm8 : (m : Int) % 256 = m := by omega
      rw [hm8] at hw8
      clear hm8
      go_wp2_with (at_builtin; refine print_append_num (w0 := w) w.heap.size rfl _ _ 40 5 .u8 1 rfl Tryd.underlying40 info5 (by decide) u5 ys (m : Int) rfl rfl HO.out HB.out HB.out.size (by omega) ?_)
      intro v2 w2 h1 h2 h3 h4
      have K1 : Hid (OB w2 w.heap.size v2 (xs ++ putL n)) := by
        rw [hput.out]
        show OB _ _ _ _
        unfold OB; rw [List.length_append]; exact h1
      have K2 := Lib.hid h2
      clear h1 h2 h3 h4
      go_wp2_with fail
      go_ret
      exact ⟨v2, rfl, K1.out, K2.out⟩
    · have h128i : (128 : Int) ≤ (m : Int) := by omega
      have hor : Go.bits .or .u8 ((m : Int) % 256) 128 = (m : Int) % 128 + 128 := by
        have := or128 (m % 256) (by omega)
        rw [show ((m % 256 : Nat) : Int) = (m : Int) % 256 from by omega] at this
        rw [this]; omega
      have hpm : ((m % 128 + 128 : Nat) : Int) = (m : Int) % 128 + 128 := by omega
      have HPM := Lib.hid hpm; clear hpm
      have hsh : (m : Int).fdiv (2 ^ min (Int.toNat 7) IntKind.u64.bits) = ((m / 128 : Nat) : Int) := by
        have e : (2 : Int) ^ min (Int.toNat 7) IntKind.u64.bits = 128 := by kernel_rfl
        rw [e, Int.fdiv_eq_ediv_of_nonneg _ (by omega)]; omega
      go_wp2_with (at_builtin; refine print_append_num (w0 := w) w.heap.size rfl _ _ 40 5 .u8 1 rfl Tryd.underlying40 info5 (by decide) u5 ys ((m : Int) % 128 + 128) rfl rfl HO.out HB.out HB.out.size (by omega) ?_)
      intro v2 w2 h1 h2 h3 h4
      have K1 : Hid (OB w2 w.heap.size v2 (ys ++ [((m : Int) % 128 + 128)])) := by
        show OB _ _ _ _
        unfold OB; rw [List.length_append]; exact h1
      have K2 := Lib.hid h2
      have hE2 : Hid ((ys ++ [((m : Int) % 128 + 128)]) ++ putL (m / 128) = xs ++ putL n) := by
        show _ = _
        rw [← HPM.out]
        rw [← HE.out]
        conv => rhs; rw [putL, if_neg h128]
        simp
      clear h1 h2 h3 h4
      go_wp2_with fail
      go_roundw
      case rel => exact ⟨m / 128, _, by go_num, by have := HM.out; omega, K1.out, K2.out, hE2.out⟩
      case measure => simp [intOf]; omega
end Go.Proofs.YtcglhpagimkajaaDoor.Vl
set_option linter.unusedVariables false
set_option linter.unusedSimpArgs false
namespace Go.Proofs.YtcglhpagimkajaaDoor.Pv
open Go.RowKit Go.Proofs.YtcglhpagimkajaaDoorW.PrintWords
def bits_Len64.f (k : Nat) (a0 : Int) : Option Int := if 0 ≤ a0 ∧ a0 ≤ 18446744073709551615 then some (Lib.bitLen a0.toNat : Int) else none
theorem bits_Len64.mono : ∀ a0 k, LeO (bits_Len64.f k a0) (bits_Len64.f (k + 1) a0) := fun a0 k => LeO.refl _
theorem bits_Len64.calls (k : Nat) (a0 : Int) (r : Int) (w : World) (h : bits_Len64.f k a0 = some r) : Calls Tryd.prog 44 #[.int .u64 a0] w fun e w' => e = .returned (.int .i64 r) ∧ Drawn0 w w' := by
  unfold bits_Len64.f at h
  split at h
  · rename_i hc
    cases h
    exact (Any.bits_Len64 Tryd.layL a0 w hc.1 hc.2).mono fun e w' ⟨he, hw⟩ => ⟨he, by rw [hw]; exact Drawn0.refl _⟩
  · cases h
end Go.Proofs.YtcglhpagimkajaaDoor.Pv
namespace Go.Proofs.YtcglhpagimkajaaDoor.Pv
open Go.RowKit Go.Proofs.YtcglhpagimkajaaDoorW.PrintWords Go.Proofs.YtcglhpagimkajaaDoorW.PrintLast Go.Proofs.YtcglhpagimkajaaDoorW.PrintMore
attribute [local go_sem] max2_int min2_int max_two min_two max_three min_three max_four min_four
set_option linter.unusedVariables false
set_option linter.unusedSimpArgs false

/-! ### varint_Zig: function 32 -/
def varint_Zig.f (a0 : Int) : Option (Int) := some (Go.bits .xor .u64 (IntKind.u64.wrap (wrap64 (a0 * 2))) (IntKind.u64.wrap (a0 / 9223372036854775808)))
set_option maxHeartbeats 8000000 in
set_option maxRecDepth 100000 in
theorem varint_Zig.calls (a0 : Int) (r : Int) (w : World) (h : varint_Zig.f a0 = some r) :
    Calls Tryd.prog 32 #[.int .i64 a0] w fun e w' => e = .returned (.int .u64 r) ∧ Drawn0 w w' := by
  have H : (some (Go.bits .xor .u64 (IntKind.u64.wrap (wrap64 (a0 * 2))) (IntKind.u64.wrap (a0 / 9223372036854775808)))) = some r := h
  clear h
  obtain rfl := Option.some.inj H
  go_enter Tryd.func32, Tryd.ntmps32
  go_wp2
  go_ret
  exact ⟨by first | rfl | (simp; done) | (simp [*]; done), by repeat (first | exact Drawn0.refl _ | apply Drawn0.step)⟩


end Go.Proofs.YtcglhpagimkajaaDoor.Pv
namespace Go.Proofs.YtcglhpagimkajaaDoor.Pv
open Go.RowKit Go.Proofs.YtcglhpagimkajaaDoorW.PrintWords Go.Proofs.YtcglhpagimkajaaDoorW.PrintLast Go.Proofs.YtcglhpagimkajaaDoorW.PrintMore
attribute [local go_sem] max2_int min2_int max_two min_two max_three min_three max_four min_four
set_option linter.unusedVariables false
set_option linter.unusedSimpArgs false

/-! ### tallyroomref01_Bytes: function 19 -/
def tallyroomref01_Bytes.f (l0 : List Int) (l1 : List Int) : Option (Bool) := some ((strOfNums l0).toList == (strOfNums l1).toList)
set_option maxHeartbeats 8000000 in
set_option maxRecDepth 100000 in
theorem tallyroomref01_Bytes.calls (A0 : Option Addr) (c0 : Nat) (l0 : List Int) (A1 : Option Addr) (c1 : Nat) (l1 : List Int) (r : Bool) (w : World) (hr0 : Kd.C (Kd.int .u8) w A0 l0.length l0) (hc0 : l0.length ≤ c0) (hr1 : Kd.C (Kd.int .u8) w A1 l1.length l1) (hc1 : l1.length ≤ c1) (h : tallyroomref01_Bytes.f l0 l1 = some r) :
    Calls Tryd.prog 19 #[.slice A0 l0.length c0, .slice A1 l1.length c1] w fun e w' => e = .returned (.bool r) ∧ Drawn0 w w' := by
  have HR0 := Aside0.mk hr0
  have HC0 := Aside0.mk hc0
  clear hr0 hc0
  have HR1 := Aside0.mk hr1
  have HC1 := Aside0.mk hc1
  clear hr1 hc1
  have H : (some ((strOfNums l0).toList == (strOfNums l1).toList)) = some r := h
  clear h
  obtain rfl := Option.some.inj H
  have hcv3 := Kd.C_string (P := Tryd.prog) (A := A0) (c := c0) Tryd.underlying40 Tryd.underlying5 Tryd.underlying9 HR0.out
  have hcv4 := Kd.C_string (P := Tryd.prog) (A := A1) (c := c1) Tryd.underlying40 Tryd.underlying5 Tryd.underlying9 HR1.out
  go_enter Tryd.func19, Tryd.ntmps19
  go_wp2
  go_ret
  exact ⟨by first | rfl | (simp; done) | (simp [*]; done), by repeat (first | exact Drawn0.refl _ | apply Drawn0.step)⟩


end Go.Proofs.YtcglhpagimkajaaDoor.Pv
namespace Go.Proofs.YtcglhpagimkajaaDoor.Pv
open Go.RowKit Go.Proofs.YtcglhpagimkajaaDoorW.PrintWords Go.Proofs.YtcglhpagimkajaaDoorW.PrintLast Go.Proofs.YtcglhpagimkajaaDoorW.PrintMore
attribute [local go_sem] max2_int min2_int max_two min_two max_three min_three max_four min_four
set_option linter.unusedVariables false
set_option linter.unusedSimpArgs false

/-! ### tallyroomref01_Put: function 33 -/
def tallyroomref01_Put.l0 : Nat → Int → List Int → Option (List Int)
  | 0, _, _ => none
  | k + 1, x0, x3 => if x0 > 127 then (if x3.length < 140737488355328 then (tallyroomref01_Put.l0 k (IntKind.u64.wrap (Int.tdiv x0 128)) (x3 ++ [(IntKind.u64.wrap (128 + (Int.tmod x0 128))) % 256])) else (none)) else (if x3.length < 140737488355328 then (some (x3 ++ [(x0) % 256])) else (none))
def tallyroomref01_Put.f (k : Nat) (a0 : Int) : Option (List Int) := tallyroomref01_Put.l0 k a0 ([] : List Int)
theorem tallyroomref01_Put.mono_l : ∀ k, (∀ y0 y1, LeO (tallyroomref01_Put.l0 k y0 y1) (tallyroomref01_Put.l0 (k + 1) y0 y1))
  | 0 => fun _ _ r h => by simp [tallyroomref01_Put.l0] at h
  | k + 1 => by
    have ih0 := tallyroomref01_Put.mono_l k
    · intro y0 y1
      unfold tallyroomref01_Put.l0
      repeat' first
      | (with_reducible exact ih0 _ _)
      | (with_reducible exact LeO.refl _)
      | (with_reducible exact LeO.none _)
      | (with_reducible refine LeO.ite ?_ ?_)
      | (with_reducible refine LeO.bind ?_ (fun _ => ?_))
      | exact ih0 _ _
      | exact LeO.none _
      | refine LeO.ite ?_ ?_
      | refine LeO.bind ?_ (fun _ => ?_)
theorem tallyroomref01_Put.mono : ∀ a0 k, LeO (tallyroomref01_Put.f k a0) (tallyroomref01_Put.f (k + 1) a0) := by
  intro a0 k
  have ih0 := tallyroomref01_Put.mono_l k
  unfold tallyroomref01_Put.f
  repeat' first
      | (with_reducible exact ih0 _ _)
      | (with_reducible exact LeO.refl _)
      | (with_reducible exact LeO.none _)
      | (with_reducible refine LeO.ite ?_ ?_)
      | (with_reducible refine LeO.bind ?_ (fun _ => ?_))
      | exact ih0 _ _
      | exact LeO.none _
      | refine LeO.ite ?_ ?_
      | refine LeO.bind ?_ (fun _ => ?_)
set_option maxHeartbeats 8000000 in
set_option maxRecDepth 100000 in
theorem tallyroomref01_Put.calls (k : Nat) (a0 : Int) (r : List Int) (w : World) (h : tallyroomref01_Put.f k a0 = some r) :
    Calls Tryd.prog 33 #[.int .u64 a0] w fun e w' => ∃ v0_ : Value, e = .returned (v0_) ∧ Kd.R (Kd.int .u8) 5 w' w.heap.size (fun _ => True) v0_ r ∧ Below w.heap.size w w' := by
  have HB := Aside0.mk (Below.refl w.heap.size w)
  have H : (tallyroomref01_Put.l0 k a0 ([] : List Int)) = some r := h
  clear h
  have H' := Aside0.mk H
  clear H
  go_enter Tryd.func33, Tryd.ntmps33
  go_wp2
  go_loopg [0, 3] k (fun kq v0 v3 w' => ∃ (x0_1 : Int) (x3_1 : List Int), v0 = .int .u64 x0_1 ∧ Aside0 (tallyroomref01_Put.l0 kq x0_1 x3_1 = some r) ∧ Aside0 (kq ≤ k) ∧ Aside0 (Kd.R (Kd.int .u8) 5 w' w.heap.size (fun _ => True) v3 x3_1) ∧ Aside0 (Below w.heap.size w w'))
  case atStart => exact ⟨(a0), (([] : List Int)), (by first | rfl | (simp; done) | (simp [*]; done)), H', ⟨Nat.le_refl _⟩, ⟨by first | exact Kd.R_nil _ _ _ _ _ | exact Kd.N_nil _ _ _ _ _ | exact Kd.V_nil _ _ _ _ _ | exact Kd.Q_nil _ _ _ _ _ | exact Kd.S_nil _ _ _ _ _⟩, ⟨by repeat (first | (with_reducible first | exact HB.out | apply below_alloc | apply pw_below_drewN | apply below_drew1) | exact HB.out)⟩⟩
  case round =>
    clear H'
    obtain ⟨x0_1, x3_1, rfl, HA, HK1, HO_3, HB⟩ := hrel
    cases gk with
    | zero => exact absurd HA.out (by simp [tallyroomref01_Put.l0])
    | succ k1 =>
      have H := HA.out
      clear HA
      simp only [tallyroomref01_Put.l0] at H
      by_cases c2 : x0_1 > 127
      · rw [if_pos c2] at H
        have c2b0 : decide (127 < x0_1) = true := decide_eq_true c2
        clear c2
        by_cases c3 : x3_1.length < 140737488355328
        · rw [if_pos c3] at H
          have LMc3 := Aside0.mk c3
          clear c3
          obtain ⟨y124, hy124⟩ : ∃ y_ : List Int, y_ = (x3_1 ++ [(IntKind.u64.wrap (128 + (Int.tmod x0_1 128))) % 256]) := ⟨_, rfl⟩
          replace H : (tallyroomref01_Put.l0 k1 (IntKind.u64.wrap (Int.tdiv x0_1 128)) y124) = some r := by first | (rw [hy124]; with_reducible exact H) | (have H2_ := (Option.bind_some _ _).symm.trans H; rw [hy124]; with_reducible exact H2_) | (have H2_ := (Option.bind_some _ _).symm.trans H; with_reducible exact H2_) | with_reducible exact H | (rw [hy124]; exact H) | exact H
          have Ny124 := Aside0.mk hy124
          clear hy124
          have H' := Aside0.mk H
          clear H
          go_wp2_with (first | ((with_reducible refine gate_builtin (b := .append) (xs := #[.tmp 6, .tmp 11]) rfl ?_); at_builtin; refine Kd.R_append (Kd.int .u8) (w0 := w) w.heap.size rfl (.tmp 6) (.tmp 11) 40 5 (.int .u8 0) 1 rfl Tryd.underlying40 info5 rfl (by decide) (by omega) u3 x3_1 ((IntKind.u64.wrap (128 + (Int.tmod x0_1 128))) % 256) [.int .u8 ((IntKind.u64.wrap (128 + (Int.tmod x0_1 128))) % 256)] (fun _ => True) (fun _ => False) rfl rfl ?aP (fun _ hk => hk.elim) ?aF ?aO ?aB ?aS ?aL ?_; (case aP => exact rfl); (case aB => exact (by repeat (first | (with_reducible first | exact HB.out | apply below_alloc | apply pw_below_drewN | apply below_drew1) | exact HB.out))); (case aF => exact (fun _ _ => trivial)); (case aO => exact (by (with_reducible repeat (first | apply Kd.R_alloc | apply Kd.R_drewN | apply Kd.R_drew)); exact HO_3.out)); (case aS => exact (below_size (by repeat (first | (with_reducible first | exact HB.out | apply below_alloc | apply pw_below_drewN | apply below_drew1) | exact HB.out)))); (case aL => have := LMc3.out; omega); intro v125 w4 ho hb hg hat; rw [← Ny124.out] at ho; have n0_ := Aside0.mk (hb); have n1_ := Aside0.mk (ho); clear HB; clear HO_3; have HB := n0_; have HO126 := n1_; clear n0_ n1_; clear ho hb hg hat))
          go_roundg k1
          case measure => have := HK1.out; omega
          case rel => exact ⟨(IntKind.u64.wrap (Int.tdiv x0_1 128)), (y124), (by first | rfl | (simp; done) | (simp [*]; done)), H', ⟨by have := HK1.out; omega⟩, ⟨by (with_reducible repeat (first | apply Kd.R_alloc | apply Kd.R_drewN | apply Kd.R_drew)); exact HO126.out⟩, ⟨by repeat (first | (with_reducible first | exact HB.out | apply below_alloc | apply pw_below_drewN | apply below_drew1) | exact HB.out)⟩⟩
        · rw [if_neg c3] at H
          exact absurd H (by simp)
      · rw [if_neg c2] at H
        have c2b0 : decide (127 < x0_1) = false := decide_eq_false c2
        clear c2
        by_cases c5 : x3_1.length < 140737488355328
        · rw [if_pos c5] at H
          have LMc5 := Aside0.mk c5
          clear c5
          obtain ⟨y127, hy127⟩ : ∃ y_ : List Int, y_ = (x3_1 ++ [(x0_1) % 256]) := ⟨_, rfl⟩
          replace H : (some y127) = some r := by first | (rw [hy127]; with_reducible exact H) | (have H2_ := (Option.bind_some _ _).symm.trans H; rw [hy127]; with_reducible exact H2_) | (have H2_ := (Option.bind_some _ _).symm.trans H; with_reducible exact H2_) | with_reducible exact H | (rw [hy127]; exact H) | exact H
          have Ny127 := Aside0.mk hy127
          clear hy127
          obtain rfl := Option.some.inj H
          go_wp2_with (first | ((with_reducible refine gate_builtin (b := .append) (xs := #[.tmp 15, .tmp 18]) rfl ?_); at_builtin; refine Kd.R_append (Kd.int .u8) (w0 := w) w.heap.size rfl (.tmp 15) (.tmp 18) 40 5 (.int .u8 0) 1 rfl Tryd.underlying40 info5 rfl (by decide) (by omega) u3 x3_1 ((x0_1) % 256) [.int .u8 ((x0_1) % 256)] (fun _ => True) (fun _ => False) rfl rfl ?aP (fun _ hk => hk.elim) ?aF ?aO ?aB ?aS ?aL ?_; (case aP => exact rfl); (case aB => exact (by repeat (first | (with_reducible first | exact HB.out | apply below_alloc | apply pw_below_drewN | apply below_drew1) | exact HB.out))); (case aF => exact (fun _ _ => trivial)); (case aO => exact (by (with_reducible repeat (first | apply Kd.R_alloc | apply Kd.R_drewN | apply Kd.R_drew)); exact HO_3.out)); (case aS => exact (below_size (by repeat (first | (with_reducible first | exact HB.out | apply below_alloc | apply pw_below_drewN | apply below_drew1) | exact HB.out)))); (case aL => have := LMc5.out; omega); intro v128 w6 ho hb hg hat; rw [← Ny127.out] at ho; have n0_ := Aside0.mk (hb); have n1_ := Aside0.mk (ho); clear HB; clear HO_3; have HB := n0_; have HO129 := n1_; clear n0_ n1_; clear ho hb hg hat))
          go_ret
          exact ⟨_, by first | rfl | (simp [errW_none, errW_some] <;> rfl) | (simp [*, errW_none, errW_some] <;> rfl), by (with_reducible repeat (first | apply Kd.R_alloc | apply Kd.R_drewN | apply Kd.R_drew)); exact HO129.out, by repeat (first | (with_reducible first | exact HB.out | apply below_alloc | apply pw_below_drewN | apply below_drew1) | exact HB.out)⟩
        · rw [if_neg c5] at H
          exact absurd H (by simp)


end Go.Proofs.YtcglhpagimkajaaDoor.Pv
namespace Go.Proofs.YtcglhpagimkajaaDoor.Pv
open Go.RowKit Go.Proofs.YtcglhpagimkajaaDoorW.PrintWords Go.Proofs.YtcglhpagimkajaaDoorW.PrintLast Go.Proofs.YtcglhpagimkajaaDoorW.PrintMore
attribute [local go_sem] max2_int min2_int max_two min_two max_three min_three max_four min_four
set_option linter.unusedVariables false
set_option linter.unusedSimpArgs false

/-! ### tallyroomref01_Zig: function 34 -/
def tallyroomref01_Zig.f (a0 : Int) : Option (Int) := if a0 ≥ 0 then (some (IntKind.u64.wrap (2 * (IntKind.u64.wrap (a0))))) else (some (IntKind.u64.wrap ((IntKind.u64.wrap (2 * (IntKind.u64.wrap (wrap64 (-(wrap64 (a0 + 1))))))) + 1)))
set_option maxHeartbeats 8000000 in
set_option maxRecDepth 100000 in
theorem tallyroomref01_Zig.calls (a0 : Int) (r : Int) (w : World) (h : tallyroomref01_Zig.f a0 = some r) :
    Calls Tryd.prog 34 #[.int .i64 a0] w fun e w' => e = .returned (.int .u64 r) ∧ Drawn0 w w' := by
  have H : (if a0 ≥ 0 then (some (IntKind.u64.wrap (2 * (IntKind.u64.wrap (a0))))) else (some (IntKind.u64.wrap ((IntKind.u64.wrap (2 * (IntKind.u64.wrap (wrap64 (-(wrap64 (a0 + 1))))))) + 1)))) = some r := h
  clear h
  by_cases c2 : a0 ≥ 0
  · rw [if_pos c2] at H
    have c2b0 : decide (0 ≤ a0) = true := decide_eq_true c2
    clear c2
    obtain rfl := Option.some.inj H
    go_enter Tryd.func34, Tryd.ntmps34
    go_wp2
    go_ret
    exact ⟨by first | rfl | (simp; done) | (simp [*]; done), by repeat (first | exact Drawn0.refl _ | apply Drawn0.step)⟩
  · rw [if_neg c2] at H
    have c2b0 : decide (0 ≤ a0) = false := decide_eq_false c2
    clear c2
    obtain rfl := Option.some.inj H
    go_enter Tryd.func34, Tryd.ntmps34
    go_wp2
    go_ret
    exact ⟨by first | rfl | (simp; done) | (simp [*]; done), by repeat (first | exact Drawn0.refl _ | apply Drawn0.step)⟩


end Go.Proofs.YtcglhpagimkajaaDoor.Pv
namespace Go.Proofs.YtcglhpagimkajaaDoor.Pv
open Go.RowKit Go.Proofs.YtcglhpagimkajaaDoorW.PrintWords Go.Proofs.YtcglhpagimkajaaDoorW.PrintLast Go.Proofs.YtcglhpagimkajaaDoorW.PrintMore
attribute [local go_sem] max2_int min2_int max_two min_two max_three min_three max_four min_four
set_option linter.unusedVariables false
set_option linter.unusedSimpArgs false

/-! ### value_truth: function 35 -/
def value_truth.f (l0 : List Int) : Option (Int × Int × ByteArray × Int × Int) := if (l0.length : Int) < 2 then (some (0, 0, (⟨#[]⟩ : ByteArray), 0, 10)) else (if 1 < (l0.length : Int) then (if (rd l0 1) > 1 then (some (0, 0, (⟨#[]⟩ : ByteArray), 0, 11)) else (some (2, wrap64 (rd l0 1), (⟨#[]⟩ : ByteArray), 2, 0))) else (none))
set_option maxHeartbeats 8000000 in
set_option maxRecDepth 100000 in
theorem value_truth.calls (A0 : Option Addr) (c0 : Nat) (l0 : List Int) (r1 : Int) (r2 : Int) (r3 : ByteArray) (r4 : Int) (r5 : Int) (w : World) (hr0 : Kd.C (Kd.int .u8) w A0 l0.length l0) (hc0 : l0.length ≤ c0) (h : value_truth.f l0 = some (r1, r2, r3, r4, r5)) :
    Calls Tryd.prog 35 #[.slice A0 l0.length c0] w fun e w' => e = .returned (.tuple #[.agg #[.int .i64 r1, .int .i64 r2, .string r3], .int .i64 r4, .int .i64 r5]) ∧ Below w.heap.size w w' := by
  have hu26 := Tryd.underlying26
  have HR0 := Aside0.mk hr0
  have HC0 := Aside0.mk hc0
  clear hr0 hc0
  have HB := Aside0.mk (Below.refl w.heap.size w)
  have H : (if (l0.length : Int) < 2 then (some (0, 0, (⟨#[]⟩ : ByteArray), 0, 10)) else (if 1 < (l0.length : Int) then (if (rd l0 1) > 1 then (some (0, 0, (⟨#[]⟩ : ByteArray), 0, 11)) else (some (2, wrap64 (rd l0 1), (⟨#[]⟩ : ByteArray), 2, 0))) else (none))) = some (r1, r2, r3, r4, r5) := h
  clear h
  by_cases c2 : (l0.length : Int) < 2
  · rw [if_pos c2] at H
    have c2b0 : decide ((l0.length : Int) < 2) = true := decide_eq_true c2
    have c2b1 : decide (l0.length < 2) = true := decide_eq_true (by omega)
    clear c2
    simp only [Option.some.injEq, Prod.mk.injEq] at H
    obtain ⟨rfl, rfl, rfl, rfl, rfl⟩ := H
    go_enter Tryd.func35, Tryd.ntmps35
    go_wp2_with (first | ((with_reducible refine gate_dst (N := 2) rfl ?_); refine box_event ?hg (N := 2) ?hd (cs := #[.int .i64 0, .int .i64 0, .string (⟨#[]⟩ : ByteArray)]) (t := 26) ?hr ?_; (case hd => rfl); (case hg => rfl); (case hr => first | (go_simp; done) | (go_simp; rfl)); intro gb154 hg w3 hbox hb; have n0_ := Aside0.mk (below_step (by repeat (first | (with_reducible first | exact HB.out | apply below_alloc | apply pw_below_drewN | apply below_drew1) | exact HB.out)) hb); have n1_ := Aside0.mk (hbox); have n2_ := Aside0.mk ((by rw [hg]; exact (below_size (by repeat (first | (with_reducible first | exact HB.out | apply below_alloc | apply pw_below_drewN | apply below_drew1) | exact HB.out))) : w.heap.size ≤ gb154)); have n3_ := Aside0.mk ((by rw [hg]; exact (below_size (by repeat (first | (with_reducible first | exact HB.out | apply below_alloc | apply pw_below_drewN | apply below_drew1) | exact HB.out))) : w.heap.size ≤ gb154)); clear HB; have HB := n0_; have BK154 := n1_; have GW154 := n2_; have GE154 := n3_; clear n0_ n1_ n2_ n3_; clear hb hbox hg; have hcz4_0 : w3.cell? ⟨gb154, 0, none⟩ = some (.int .i64 0) := (blk_cell BK154.out 0).trans rfl; have hcz4_1 : w3.cell? ⟨gb154, 1, none⟩ = some (.int .i64 0) := (blk_cell BK154.out 1).trans rfl; have hcz4_2 : w3.cell? ⟨gb154, 2, none⟩ = some (.string (⟨#[]⟩ : ByteArray)) := (blk_cell BK154.out 2).trans rfl; have hfz4_0 := blk_frozen BK154.out 0; have hfz4_1 := blk_frozen BK154.out 1; have hfz4_2 := blk_frozen BK154.out 2))
    refine bodyPost_ret (results_ctt rfl _ _ gb154 26 #[.int .i64 0, .int .i64 0, .string (⟨#[]⟩ : ByteArray)] (0, 0) _ rfl (by (with_reducible repeat (first | refine blk_drewN ?_ _ | refine blk_drew ?_ | refine blk_alloc ?_ _)); refine blk_put (cs := #[.int .i64 0, .int .i64 0, .string (⟨#[]⟩ : ByteArray)]) ?_ 2 _ rfl; (with_reducible repeat (first | refine blk_drewN ?_ _ | refine blk_drew ?_ | refine blk_alloc ?_ _)); refine blk_put (cs := #[.int .i64 0, .int .i64 0, .string (⟨#[]⟩ : ByteArray)]) ?_ 1 _ rfl; (with_reducible repeat (first | refine blk_drewN ?_ _ | refine blk_drew ?_ | refine blk_alloc ?_ _)); refine blk_put (cs := #[.int .i64 0, .int .i64 0, .string (⟨#[]⟩ : ByteArray)]) ?_ 0 _ rfl; (with_reducible repeat (first | refine blk_drewN ?_ _ | refine blk_drew ?_ | refine blk_alloc ?_ _)); exact BK154.out) Tryd.underlying26 rfl (by kernel_rfl)) rfl ?_
    exact ⟨by first | rfl | (simp [errW_none, errW_some] <;> rfl) | (simp [*, errW_none, errW_some] <;> rfl), by repeat (first | (with_reducible first | exact HB.out | apply below_alloc | apply pw_below_drewN | apply below_drew1 | refine below_set ?_ GE154.out) | exact HB.out)⟩
  · rw [if_neg c2] at H
    have c2b0 : decide ((l0.length : Int) < 2) = false := decide_eq_false c2
    have c2b1 : decide (l0.length < 2) = false := decide_eq_false (by omega)
    clear c2
    by_cases c5 : 1 < (l0.length : Int)
    · rw [if_pos c5] at H
      have c5b0 : decide (1 < (l0.length : Int)) = true := decide_eq_true c5
      have c5b1 : decide (1 < l0.length) = true := decide_eq_true (by omega)
      clear c5
      by_cases c6 : (rd l0 1) > 1
      · rw [if_pos c6] at H
        have c6b0 : decide (1 < (rd l0 1)) = true := decide_eq_true c6
        clear c6
        simp only [Option.some.injEq, Prod.mk.injEq] at H
        obtain ⟨rfl, rfl, rfl, rfl, rfl⟩ := H
        go_enter Tryd.func35, Tryd.ntmps35
        go_wp2_with (first | ((with_reducible refine gate_dst (N := 2) rfl ?_); refine box_event ?hg (N := 2) ?hd (cs := #[.int .i64 0, .int .i64 0, .string (⟨#[]⟩ : ByteArray)]) (t := 26) ?hr ?_; (case hd => rfl); (case hg => rfl); (case hr => first | (go_simp; done) | (go_simp; rfl)); intro gb154 hg w7 hbox hb; have n0_ := Aside0.mk (below_step (by repeat (first | (with_reducible first | exact HB.out | apply below_alloc | apply pw_below_drewN | apply below_drew1) | exact HB.out)) hb); have n1_ := Aside0.mk (hbox); have n2_ := Aside0.mk ((by rw [hg]; exact (below_size (by repeat (first | (with_reducible first | exact HB.out | apply below_alloc | apply pw_below_drewN | apply below_drew1) | exact HB.out))) : w.heap.size ≤ gb154)); have n3_ := Aside0.mk ((by rw [hg]; exact (below_size (by repeat (first | (with_reducible first | exact HB.out | apply below_alloc | apply pw_below_drewN | apply below_drew1) | exact HB.out))) : w.heap.size ≤ gb154)); clear HB; have HB := n0_; have BK154 := n1_; have GW154 := n2_; have GE154 := n3_; clear n0_ n1_ n2_ n3_; clear hb hbox hg; have p155 : 0 ≤ (1 : Int) := (by omega); have q155 : 1 < (l0.length : Int) := of_decide_eq_true (by first | (with_reducible assumption) | assumption); obtain ⟨ad155, e155, hx155_0⟩ := Kd.at_int HR0.out 1 p155 q155; cases e155; (try simp only [show (1 : Int).toNat = 1 from rfl, Nat.reduceMul, Nat.reduceEqDiff, Go.Addr.add, ↓reduceIte] at hx155_0); have qi155 : (1 < l0.length) = True := eq_true (by omega); (try rw [show ((1 : Int)).toNat = 1 from rfl] at hx155_0); replace hx155_0 := (HB.out.cell (World.block_lt_of_cell? w _ hx155_0)).trans hx155_0; replace p155 := eq_true p155; replace q155 := eq_true q155; have hcz8_0 : w7.cell? ⟨gb154, 0, none⟩ = some (.int .i64 0) := (blk_cell BK154.out 0).trans rfl; have hcz8_1 : w7.cell? ⟨gb154, 1, none⟩ = some (.int .i64 0) := (blk_cell BK154.out 1).trans rfl; have hcz8_2 : w7.cell? ⟨gb154, 2, none⟩ = some (.string (⟨#[]⟩ : ByteArray)) := (blk_cell BK154.out 2).trans rfl; have hfz8_0 := blk_frozen BK154.out 0; have hfz8_1 := blk_frozen BK154.out 1; have hfz8_2 := blk_frozen BK154.out 2))
        refine bodyPost_ret (results_ctt rfl _ _ gb154 26 #[.int .i64 0, .int .i64 0, .string (⟨#[]⟩ : ByteArray)] (0, 0) _ rfl (by (with_reducible repeat (first | refine blk_drewN ?_ _ | refine blk_drew ?_ | refine blk_alloc ?_ _)); refine blk_put (cs := #[.int .i64 0, .int .i64 0, .string (⟨#[]⟩ : ByteArray)]) ?_ 2 _ rfl; (with_reducible repeat (first | refine blk_drewN ?_ _ | refine blk_drew ?_ | refine blk_alloc ?_ _)); refine blk_put (cs := #[.int .i64 0, .int .i64 0, .string (⟨#[]⟩ : ByteArray)]) ?_ 1 _ rfl; (with_reducible repeat (first | refine blk_drewN ?_ _ | refine blk_drew ?_ | refine blk_alloc ?_ _)); refine blk_put (cs := #[.int .i64 0, .int .i64 0, .string (⟨#[]⟩ : ByteArray)]) ?_ 0 _ rfl; (with_reducible repeat (first | refine blk_drewN ?_ _ | refine blk_drew ?_ | refine blk_alloc ?_ _)); exact BK154.out) Tryd.underlying26 rfl (by kernel_rfl)) rfl ?_
        exact ⟨by first | rfl | (simp [errW_none, errW_some] <;> rfl) | (simp [*, errW_none, errW_some] <;> rfl), by repeat (first | (with_reducible first | exact HB.out | apply below_alloc | apply pw_below_drewN | apply below_drew1 | refine below_set ?_ GE154.out) | exact HB.out)⟩
      · rw [if_neg c6] at H
        have c6b0 : decide (1 < (rd l0 1)) = false := decide_eq_false c6
        clear c6
        simp only [Option.some.injEq, Prod.mk.injEq] at H
        obtain ⟨rfl, rfl, rfl, rfl, rfl⟩ := H
        go_enter Tryd.func35, Tryd.ntmps35
        go_wp2_with (first | ((with_reducible refine gate_dst (N := 2) rfl ?_); refine box_event ?hg (N := 2) ?hd (cs := #[.int .i64 0, .int .i64 0, .string (⟨#[]⟩ : ByteArray)]) (t := 26) ?hr ?_; (case hd => rfl); (case hg => rfl); (case hr => first | (go_simp; done) | (go_simp; rfl)); intro gb154 hg w9 hbox hb; have n0_ := Aside0.mk (below_step (by repeat (first | (with_reducible first | exact HB.out | apply below_alloc | apply pw_below_drewN | apply below_drew1) | exact HB.out)) hb); have n1_ := Aside0.mk (hbox); have n2_ := Aside0.mk ((by rw [hg]; exact (below_size (by repeat (first | (with_reducible first | exact HB.out | apply below_alloc | apply pw_below_drewN | apply below_drew1) | exact HB.out))) : w.heap.size ≤ gb154)); have n3_ := Aside0.mk ((by rw [hg]; exact (below_size (by repeat (first | (with_reducible first | exact HB.out | apply below_alloc | apply pw_below_drewN | apply below_drew1) | exact HB.out))) : w.heap.size ≤ gb154)); clear HB; have HB := n0_; have BK154 := n1_; have GW154 := n2_; have GE154 := n3_; clear n0_ n1_ n2_ n3_; clear hb hbox hg; have p155 : 0 ≤ (1 : Int) := (by omega); have q155 : 1 < (l0.length : Int) := of_decide_eq_true (by first | (with_reducible assumption) | assumption); obtain ⟨ad155, e155, hx155_0⟩ := Kd.at_int HR0.out 1 p155 q155; cases e155; (try simp only [show (1 : Int).toNat = 1 from rfl, Nat.reduceMul, Nat.reduceEqDiff, Go.Addr.add, ↓reduceIte] at hx155_0); have qi155 : (1 < l0.length) = True := eq_true (by omega); (try rw [show ((1 : Int)).toNat = 1 from rfl] at hx155_0); replace hx155_0 := (HB.out.cell (World.block_lt_of_cell? w _ hx155_0)).trans hx155_0; replace p155 := eq_true p155; replace q155 := eq_true q155; have p156 : 0 ≤ (1 : Int) := (by omega); have q156 : 1 < (l0.length : Int) := of_decide_eq_true (by first | (with_reducible assumption) | assumption); obtain ⟨ad156, e156, hx156_0⟩ := Kd.at_int HR0.out 1 p156 q156; obtain rfl : ad155 = ad156 := (by injection e156); (try simp only [show (1 : Int).toNat = 1 from rfl, Nat.reduceMul, Nat.reduceEqDiff, Go.Addr.add, ↓reduceIte] at hx156_0); have qi156 : (1 < l0.length) = True := eq_true (by omega); (try rw [show ((1 : Int)).toNat = 1 from rfl] at hx156_0); replace hx156_0 := (HB.out.cell (World.block_lt_of_cell? w _ hx156_0)).trans hx156_0; replace p156 := eq_true p156; replace q156 := eq_true q156; have hcz10_0 : w9.cell? ⟨gb154, 0, none⟩ = some (.int .i64 0) := (blk_cell BK154.out 0).trans rfl; have hcz10_1 : w9.cell? ⟨gb154, 1, none⟩ = some (.int .i64 0) := (blk_cell BK154.out 1).trans rfl; have hcz10_2 : w9.cell? ⟨gb154, 2, none⟩ = some (.string (⟨#[]⟩ : ByteArray)) := (blk_cell BK154.out 2).trans rfl; have hfz10_0 := blk_frozen BK154.out 0; have hfz10_1 := blk_frozen BK154.out 1; have hfz10_2 := blk_frozen BK154.out 2))
        refine bodyPost_ret (results_ctt rfl _ _ gb154 26 #[.int .i64 2, .int .i64 (wrap64 (rd l0 1)), .string (⟨#[]⟩ : ByteArray)] (0, 0) _ rfl (by (with_reducible repeat (first | refine blk_drewN ?_ _ | refine blk_drew ?_ | refine blk_alloc ?_ _)); refine blk_put (cs := #[.int .i64 2, .int .i64 (wrap64 (rd l0 1)), .string (⟨#[]⟩ : ByteArray)]) ?_ 2 _ rfl; (with_reducible repeat (first | refine blk_drewN ?_ _ | refine blk_drew ?_ | refine blk_alloc ?_ _)); refine blk_put (cs := #[.int .i64 2, .int .i64 0, .string (⟨#[]⟩ : ByteArray)]) ?_ 1 _ rfl; (with_reducible repeat (first | refine blk_drewN ?_ _ | refine blk_drew ?_ | refine blk_alloc ?_ _)); refine blk_put (cs := #[.int .i64 0, .int .i64 0, .string (⟨#[]⟩ : ByteArray)]) ?_ 0 _ rfl; (with_reducible repeat (first | refine blk_drewN ?_ _ | refine blk_drew ?_ | refine blk_alloc ?_ _)); exact BK154.out) Tryd.underlying26 rfl (by kernel_rfl)) rfl ?_
        exact ⟨by first | rfl | (simp [errW_none, errW_some] <;> rfl) | (simp [*, errW_none, errW_some] <;> rfl), by repeat (first | (with_reducible first | exact HB.out | apply below_alloc | apply pw_below_drewN | apply below_drew1 | refine below_set ?_ GE154.out) | exact HB.out)⟩
    · rw [if_neg c5] at H
      exact absurd H (by simp)


end Go.Proofs.YtcglhpagimkajaaDoor.Pv
namespace Go.Proofs.YtcglhpagimkajaaDoor.Pv
open Go.RowKit Go.Proofs.YtcglhpagimkajaaDoorW.PrintWords Go.Proofs.YtcglhpagimkajaaDoorW.PrintLast Go.Proofs.YtcglhpagimkajaaDoorW.PrintMore
attribute [local go_sem] max2_int min2_int max_two min_two max_three min_three max_four min_four
set_option linter.unusedVariables false
set_option linter.unusedSimpArgs false

/-! ### varint_Get: function 36 -/
mutual
def varint_Get.l0 : Nat → Int → List Int → Int → Int → Option (Int × Int × Int)
  | 0, _, _, _, _ => none
  | k + 1, x5, x9, x10, x11 => if x11 < x10 then (if 0 ≤ x11 then (if x11 < (x9.length : Int) then (if (wrap64 (7 * x11)) > 63 then (varint_Get.j1 k x5 x11 (rd x9 x11) (IntKind.u64.wrap (Go.bits .andNot .u8 (rd x9 x11) 128)) x9 x10 x11 true) else ((bits_Len64.f k (IntKind.u64.wrap (Go.bits .andNot .u8 (rd x9 x11) 128))).bind fun t158 => (varint_Get.j1 k x5 x11 (rd x9 x11) (IntKind.u64.wrap (Go.bits .andNot .u8 (rd x9 x11) 128)) x9 x10 x11 (decide ((wrap64 (t158 + (wrap64 (7 * x11)))) > 64))))) else (none)) else (none)) else (some (0, 0, 10))
def varint_Get.j1 : Nat → Int → Int → Int → Int → List Int → Int → Int → Bool → Option (Int × Int × Int)
  | 0, _, _, _, _, _, _, _, _ => none
  | k + 1, x5, x6, x7, x8, x9, x10, x11, x29 => if x29 = true then (some (0, 0, 11)) else (if 0 ≤ (wrap64 (7 * x6)) then (if (Go.bits .and .u8 x7 128) = 0 then (if x7 = 0 then (if x6 > 0 then (some (0, 0, 11)) else (some (Go.bits .or .u64 x5 (shl .u64 x8 (wrap64 (7 * x6))), wrap64 (x6 + 1), 0))) else (some (Go.bits .or .u64 x5 (shl .u64 x8 (wrap64 (7 * x6))), wrap64 (x6 + 1), 0))) else (varint_Get.l0 k (Go.bits .or .u64 x5 (shl .u64 x8 (wrap64 (7 * x6)))) x9 x10 (wrap64 (x11 + 1)))) else (none))
end
def varint_Get.f (k : Nat) (l0 : List Int) : Option (Int × Int × Int) := varint_Get.l0 k 0 l0 (l0.length : Int) 0
theorem varint_Get.mono_l : ∀ k, (∀ y0 y1 y2 y3, LeO (varint_Get.l0 k y0 y1 y2 y3) (varint_Get.l0 (k + 1) y0 y1 y2 y3)) ∧ (∀ y0 y1 y2 y3 y4 y5 y6 y7, LeO (varint_Get.j1 k y0 y1 y2 y3 y4 y5 y6 y7) (varint_Get.j1 (k + 1) y0 y1 y2 y3 y4 y5 y6 y7))
  | 0 => ⟨fun _ _ _ _ r h => by simp [varint_Get.l0] at h, fun _ _ _ _ _ _ _ _ r h => by simp [varint_Get.j1] at h⟩
  | k + 1 => by
    obtain ⟨ih0, ih1⟩ := varint_Get.mono_l k
    refine ⟨?_, ?_⟩
    · intro y0 y1 y2 y3
      unfold varint_Get.l0
      repeat' first
      | (with_reducible exact ih0 _ _ _ _)
      | (with_reducible exact ih1 _ _ _ _ _ _ _ _)
      | (with_reducible exact bits_Len64.mono _ _)
      | (with_reducible exact LeO.refl _)
      | (with_reducible exact LeO.none _)
      | (with_reducible refine LeO.ite ?_ ?_)
      | (with_reducible refine LeO.bind ?_ (fun _ => ?_))
      | exact ih0 _ _ _ _
      | exact ih1 _ _ _ _ _ _ _ _
      | exact bits_Len64.mono _ _
      | exact LeO.none _
      | refine LeO.ite ?_ ?_
      | refine LeO.bind ?_ (fun _ => ?_)
    · intro y0 y1 y2 y3 y4 y5 y6 y7
      unfold varint_Get.j1
      repeat' first
      | (with_reducible exact ih0 _ _ _ _)
      | (with_reducible exact ih1 _ _ _ _ _ _ _ _)
      | (with_reducible exact bits_Len64.mono _ _)
      | (with_reducible exact LeO.refl _)
      | (with_reducible exact LeO.none _)
      | (with_reducible refine LeO.ite ?_ ?_)
      | (with_reducible refine LeO.bind ?_ (fun _ => ?_))
      | exact ih0 _ _ _ _
      | exact ih1 _ _ _ _ _ _ _ _
      | exact bits_Len64.mono _ _
      | exact LeO.none _
      | refine LeO.ite ?_ ?_
      | refine LeO.bind ?_ (fun _ => ?_)
theorem varint_Get.mono : ∀ a0 k, LeO (varint_Get.f k a0) (varint_Get.f (k + 1) a0) := by
  intro a0 k
  obtain ⟨ih0, ih1⟩ := varint_Get.mono_l k
  unfold varint_Get.f
  repeat' first
      | (with_reducible exact ih0 _ _ _ _)
      | (with_reducible exact ih1 _ _ _ _ _ _ _ _)
      | (with_reducible exact bits_Len64.mono _ _)
      | (with_reducible exact LeO.refl _)
      | (with_reducible exact LeO.none _)
      | (with_reducible refine LeO.ite ?_ ?_)
      | (with_reducible refine LeO.bind ?_ (fun _ => ?_))
      | exact ih0 _ _ _ _
      | exact ih1 _ _ _ _ _ _ _ _
      | exact bits_Len64.mono _ _
      | exact LeO.none _
      | refine LeO.ite ?_ ?_
      | refine LeO.bind ?_ (fun _ => ?_)
set_option maxHeartbeats 8000000 in
set_option maxRecDepth 100000 in
theorem varint_Get.calls (k : Nat) (A0 : Option Addr) (c0 : Nat) (l0 : List Int) (r1 : Int) (r2 : Int) (r3 : Int) (w : World) (hr0 : Kd.C (Kd.int .u8) w A0 l0.length l0) (hc0 : l0.length ≤ c0) (h : varint_Get.f k l0 = some (r1, r2, r3)) :
    Calls Tryd.prog 36 #[.slice A0 l0.length c0] w fun e w' => e = .returned (.tuple #[.int .u64 r1, .int .i64 r2, .int .i64 r3]) ∧ Drawn0 w w' := by
  have HR0 := Aside0.mk hr0
  have HC0 := Aside0.mk hc0
  clear hr0 hc0
  have H : (varint_Get.l0 k 0 l0 (l0.length : Int) 0) = some (r1, r2, r3) := h
  clear h
  have H' := Aside0.mk H
  clear H
  go_enter Tryd.func36, Tryd.ntmps36
  go_wp2
  go_loopg [5, 11] k (fun kq v5 v11 w' => ∃ (x5_1 : Int) (x11_1 : Int), v5 = .int .u64 x5_1 ∧ v11 = .int .i64 x11_1 ∧ Aside0 (varint_Get.l0 kq x5_1 l0 (l0.length : Int) x11_1 = some (r1, r2, r3)) ∧ Aside0 (kq ≤ k) ∧ Drawn0 w w')
  case atStart => exact ⟨(0), (0), (by first | rfl | (simp; done) | (simp [*]; done)), (by first | rfl | (simp; done) | (simp [*]; done)), H', ⟨Nat.le_refl _⟩, by repeat (first | exact Drawn0.refl _ | apply Drawn0.step)⟩
  case round =>
    clear H'
    obtain ⟨x5_1, x11_1, rfl, rfl, HA, HK1, ⟨m1, rfl⟩⟩ := hrel
    cases gk with
    | zero => exact absurd HA.out (by simp [varint_Get.l0])
    | succ k1 =>
      have H := HA.out
      clear HA
      simp only [varint_Get.l0] at H
      by_cases c2 : x11_1 < (l0.length : Int)
      · rw [if_pos c2] at H
        have c2b0 : decide (x11_1 < (l0.length : Int)) = true := decide_eq_true c2
        clear c2
        by_cases c3 : 0 ≤ x11_1
        · rw [if_pos c3] at H
          have c3b0 : decide (0 ≤ x11_1) = true := decide_eq_true c3
          clear c3
          by_cases c4 : x11_1 < (l0.length : Int)
          · rw [if_pos c4] at H
            have c4b0 : decide (x11_1 < (l0.length : Int)) = true := decide_eq_true c4
            clear c4
            have HC5 := Aside0.mk H
            clear H
            have p157 : 0 ≤ (x11_1 : Int) := of_decide_eq_true (by first | (with_reducible assumption) | assumption)
            have q157 : x11_1 < (l0.length : Int) := of_decide_eq_true (by first | (with_reducible assumption) | assumption)
            obtain ⟨ad157, e157, hx157_0⟩ := Kd.at_int HR0.out x11_1 p157 q157
            cases e157
            replace p157 := eq_true p157
            replace q157 := eq_true q157
            go_upto_region 6 with (fail)
            go_cut [29] (fun v29 wc => ∃ (kq : Nat) (x29_4 : Bool), v29 = .bool x29_4 ∧ Aside0 (varint_Get.j1 kq x5_1 x11_1 (rd l0 x11_1) (IntKind.u64.wrap (Go.bits .andNot .u8 (rd l0 x11_1) 128)) l0 (l0.length : Int) x11_1 x29_4 = some (r1, r2, r3)) ∧ Aside0 (kq ≤ k1) ∧ Drawn0 w wc)
            case first =>
              have H := HC5.out
              clear HC5
              by_cases c6 : (wrap64 (7 * x11_1)) > 63
              · rw [if_pos c6] at H
                have c6b0 : decide (63 < (wrap64 (7 * x11_1))) = true := decide_eq_true c6
                clear c6
                (first | rw [c6b0] | (simp only [i64_w, i32_w]; rw [c6b0]) | skip)
                have H' := Aside0.mk H
                clear H
                go_wp2
                go_meet
                case rel => exact ⟨_, (true), (by first | rfl | (simp; done) | (simp [*]; done)), H', ⟨by have := HK1.out; first | omega | exact Nat.le_refl _⟩, by repeat (first | exact Drawn0.refl _ | apply Drawn0.step)⟩
              · rw [if_neg c6] at H
                have c6b0 : decide (63 < (wrap64 (7 * x11_1))) = false := decide_eq_false c6
                clear c6
                (first | rw [c6b0] | (simp only [i64_w, i32_w]; rw [c6b0]) | skip)
                replace H := Option.bind_eq_some_iff.mp H
                obtain ⟨t158, A70, H⟩ := H
                replace H : (varint_Get.j1 k1 x5_1 x11_1 (rd l0 x11_1) (IntKind.u64.wrap (Go.bits .andNot .u8 (rd l0 x11_1) 128)) l0 (l0.length : Int) x11_1 (decide ((wrap64 (t158 + (wrap64 (7 * x11_1)))) > 64))) = some (r1, r2, r3) := H
                have A7 := Aside0.mk A70
                clear A70
                have H' := Aside0.mk H
                clear H
                go_wp2_with (first | (go_at_call 44; (with_reducible refine (bits_Len64.calls k1 (IntKind.u64.wrap (Go.bits .andNot .u8 (rd l0 x11_1) 128)) t158 _ A7.out).mono ?_); rintro e w' ⟨rfl, ⟨nd, rfl⟩⟩))
                go_meet
                case rel => exact ⟨_, (decide ((wrap64 (t158 + (wrap64 (7 * x11_1)))) > 64)), (by first | rfl | (simp; done) | (simp [*]; done)), H', ⟨by have := HK1.out; first | omega | exact Nat.le_refl _⟩, by repeat (first | exact Drawn0.refl _ | apply Drawn0.step)⟩
            case rest =>
              clear HC5
              try clear p1
              try clear q1
              try clear hx1
              try clear c2
              try clear c2b0
              try clear p2
              try clear c3
              try clear c3b0
              try clear c4
              try clear c4b0
              try clear c6
              try clear c6b0
              try clear p6
              try clear hx157_0
              try clear p157
              try clear q157
              obtain ⟨kq, x29_4, rfl, HA, HJ4, ⟨mc4, rfl⟩⟩ := hcut
              cases kq with
              | zero => exact absurd HA.out (by simp [varint_Get.j1])
              | succ kj4 =>
                have H := HA.out
                clear HA
                simp only [varint_Get.j1] at H
                by_cases c8 : x29_4 = true
                · subst c8
                  have H1 : (some (0, 0, 11)) = some (r1, r2, r3) := by rw [if_pos rfl] at H; exact H
                  clear H
                  have H := H1
                  clear H1
                  simp only [Option.some.injEq, Prod.mk.injEq] at H
                  obtain ⟨rfl, rfl, rfl⟩ := H
                  go_wp2
                  go_ret3
                  exact ⟨by first | rfl | (simp; done) | (simp [*]; done), by repeat (first | exact Drawn0.refl _ | apply Drawn0.step)⟩
                · replace c8 := Bool.eq_false_iff.mpr c8
                  subst c8
                  have H1 : (if 0 ≤ (wrap64 (7 * x11_1)) then (if (Go.bits .and .u8 (rd l0 x11_1) 128) = 0 then (if (rd l0 x11_1) = 0 then (if x11_1 > 0 then (some (0, 0, 11)) else (some (Go.bits .or .u64 x5_1 (shl .u64 (IntKind.u64.wrap (Go.bits .andNot .u8 (rd l0 x11_1) 128)) (wrap64 (7 * x11_1))), wrap64 (x11_1 + 1), 0))) else (some (Go.bits .or .u64 x5_1 (shl .u64 (IntKind.u64.wrap (Go.bits .andNot .u8 (rd l0 x11_1) 128)) (wrap64 (7 * x11_1))), wrap64 (x11_1 + 1), 0))) else (varint_Get.l0 kj4 (Go.bits .or .u64 x5_1 (shl .u64 (IntKind.u64.wrap (Go.bits .andNot .u8 (rd l0 x11_1) 128)) (wrap64 (7 * x11_1)))) l0 (l0.length : Int) (wrap64 (x11_1 + 1)))) else (none)) = some (r1, r2, r3) := by rw [if_neg (show ¬ (false = true) by decide)] at H; exact H
                  clear H
                  have H := H1
                  clear H1
                  obtain ⟨ji9, hji9⟩ : ∃ j_ : Int, (wrap64 (7 * x11_1)) = j_ := ⟨_, rfl⟩
                  replace H : (if 0 ≤ (ji9) then (if (Go.bits .and .u8 (rd l0 x11_1) 128) = 0 then (if (rd l0 x11_1) = 0 then (if x11_1 > 0 then (some (0, 0, 11)) else (some (Go.bits .or .u64 x5_1 (shl .u64 (IntKind.u64.wrap (Go.bits .andNot .u8 (rd l0 x11_1) 128)) (ji9)), wrap64 (x11_1 + 1), 0))) else (some (Go.bits .or .u64 x5_1 (shl .u64 (IntKind.u64.wrap (Go.bits .andNot .u8 (rd l0 x11_1) 128)) (ji9)), wrap64 (x11_1 + 1), 0))) else (varint_Get.l0 kj4 (Go.bits .or .u64 x5_1 (shl .u64 (IntKind.u64.wrap (Go.bits .andNot .u8 (rd l0 x11_1) 128)) (ji9))) l0 (l0.length : Int) (wrap64 (x11_1 + 1)))) else (none)) = some (r1, r2, r3) := by first | (rw [hji9] at H; exact H) | (simp only [hji9] at H ⊢; exact H)
                  have hji9w : (IntKind.i64.wrap (7 * x11_1)) = ji9 := (i64_w _).trans hji9
                  by_cases c10 : 0 ≤ (ji9)
                  · rw [if_pos c10] at H
                    have c10b0 := eq_true c10
                    have c10b1 : decide (0 ≤ (ji9)) = true := decide_eq_true c10
                    clear c10
                    obtain ⟨ji11, hji11⟩ : ∃ j_ : Int, (shl .u64 (IntKind.u64.wrap (Go.bits .andNot .u8 (rd l0 x11_1) 128)) (ji9)) = j_ := ⟨_, rfl⟩
                    replace H : (if (Go.bits .and .u8 (rd l0 x11_1) 128) = 0 then (if (rd l0 x11_1) = 0 then (if x11_1 > 0 then (some (0, 0, 11)) else (some (Go.bits .or .u64 x5_1 (ji11), wrap64 (x11_1 + 1), 0))) else (some (Go.bits .or .u64 x5_1 (ji11), wrap64 (x11_1 + 1), 0))) else (varint_Get.l0 kj4 (Go.bits .or .u64 x5_1 (ji11)) l0 (l0.length : Int) (wrap64 (x11_1 + 1)))) = some (r1, r2, r3) := by first | (rw [hji11] at H; exact H) | (simp only [hji11] at H ⊢; exact H)
                    have hji11_ : (IntKind.u64.wrap ((IntKind.u64.wrap (Go.bits .andNot .u8 (rd l0 x11_1) 128)) * 2 ^ min (ji9).toNat 64)) = ji11 := hji11
                    have hji11z : (ji9) ≤ 64 → (IntKind.u64.wrap ((IntKind.u64.wrap (Go.bits .andNot .u8 (rd l0 x11_1) 128)) * 2 ^ (ji9).toNat)) = ji11 := shl_small hji11
                    by_cases c12 : (Go.bits .and .u8 (rd l0 x11_1) 128) = 0
                    · rw [if_pos c12] at H
                      have c12b0 : ((Go.bits .and .u8 (rd l0 x11_1) 128) == 0) = true := beq_iff_eq.mpr c12
                      have c12b1 : ((Go.bits .and .u8 (rd l0 x11_1) 128) != 0) = false := bne_eq_false_iff_eq.mpr c12
                      clear c12
                      by_cases c13 : (rd l0 x11_1) = 0
                      · rw [if_pos c13] at H
                        have c13b0 : ((rd l0 x11_1) == 0) = true := beq_iff_eq.mpr c13
                        have c13b1 : ((rd l0 x11_1) != 0) = false := bne_eq_false_iff_eq.mpr c13
                        clear c13
                        by_cases c14 : x11_1 > 0
                        · rw [if_pos c14] at H
                          have c14b0 : decide (0 < x11_1) = true := decide_eq_true c14
                          clear c14
                          simp only [Option.some.injEq, Prod.mk.injEq] at H
                          obtain ⟨rfl, rfl, rfl⟩ := H
                          go_wp2
                          go_ret3
                          exact ⟨by first | rfl | (simp; done) | (simp only [← hji9, ← hji11] <;> (first | rfl | simp)) | (simp [*]; done), by repeat (first | exact Drawn0.refl _ | apply Drawn0.step)⟩
                        · rw [if_neg c14] at H
                          have c14b0 : decide (0 < x11_1) = false := decide_eq_false c14
                          clear c14
                          simp only [Option.some.injEq, Prod.mk.injEq] at H
                          obtain ⟨rfl, rfl, rfl⟩ := H
                          go_wp2
                          go_ret3
                          exact ⟨by first | rfl | (simp; done) | (simp only [← hji9, ← hji11] <;> (first | rfl | simp)) | (simp [*]; done), by repeat (first | exact Drawn0.refl _ | apply Drawn0.step)⟩
                      · rw [if_neg c13] at H
                        have c13b0 : ((rd l0 x11_1) == 0) = false := beq_eq_false_iff_ne.mpr c13
                        have c13b1 : ((rd l0 x11_1) != 0) = true := bne_iff_ne.mpr c13
                        simp only [Option.some.injEq, Prod.mk.injEq] at H
                        obtain ⟨rfl, rfl, rfl⟩ := H
                        go_wp2
                        go_ret3
                        exact ⟨by first | rfl | (simp; done) | (simp only [← hji9, ← hji11] <;> (first | rfl | simp)) | (simp [*]; done), by repeat (first | exact Drawn0.refl _ | apply Drawn0.step)⟩
                    · rw [if_neg c12] at H
                      have c12b0 : ((Go.bits .and .u8 (rd l0 x11_1) 128) == 0) = false := beq_eq_false_iff_ne.mpr c12
                      have c12b1 : ((Go.bits .and .u8 (rd l0 x11_1) 128) != 0) = true := bne_iff_ne.mpr c12
                      have H' := Aside0.mk H
                      clear H
                      go_wp2
                      go_roundg kj4
                      case measure => have := HK1.out; have := HJ4.out; omega
                      case rel => exact ⟨(Go.bits .or .u64 x5_1 (ji11)), (wrap64 (x11_1 + 1)), (by first | rfl | (simp; done) | (simp only [← hji11] <;> (first | rfl | simp)) | (simp [*]; done)), (by first | rfl | (simp; done) | (simp [*]; done)), H', ⟨by have := HK1.out; have := HJ4.out; omega⟩, by repeat (first | exact Drawn0.refl _ | apply Drawn0.step)⟩
                  · rw [if_neg c10] at H
                    exact absurd H (by simp)
          · rw [if_neg c4] at H
            exact absurd H (by simp)
        · rw [if_neg c3] at H
          exact absurd H (by simp)
      · rw [if_neg c2] at H
        have c2b0 : decide (x11_1 < (l0.length : Int)) = false := decide_eq_false c2
        clear c2
        simp only [Option.some.injEq, Prod.mk.injEq] at H
        obtain ⟨rfl, rfl, rfl⟩ := H
        go_wp2
        go_ret3
        exact ⟨by first | rfl | (simp; done) | (simp [*]; done), by repeat (first | exact Drawn0.refl _ | apply Drawn0.step)⟩


end Go.Proofs.YtcglhpagimkajaaDoor.Pv
namespace Go.Proofs.YtcglhpagimkajaaDoor.Pv
open Go.RowKit Go.Proofs.YtcglhpagimkajaaDoorW.PrintWords Go.Proofs.YtcglhpagimkajaaDoorW.PrintLast Go.Proofs.YtcglhpagimkajaaDoorW.PrintMore
attribute [local go_sem] max2_int min2_int max_two min_two max_three min_three max_four min_four
set_option linter.unusedVariables false
set_option linter.unusedSimpArgs false

/-! ### varint_Zag: function 37 -/
def varint_Zag.f (a0 : Int) : Option (Int) := some (Go.bits .xor .i64 (wrap64 (a0 / 2)) (wrap64 (-(wrap64 (Go.bits .and .u64 a0 1)))))
set_option maxHeartbeats 8000000 in
set_option maxRecDepth 100000 in
theorem varint_Zag.calls (a0 : Int) (r : Int) (w : World) (h : varint_Zag.f a0 = some r) :
    Calls Tryd.prog 37 #[.int .u64 a0] w fun e w' => e = .returned (.int .i64 r) ∧ Drawn0 w w' := by
  have H : (some (Go.bits .xor .i64 (wrap64 (a0 / 2)) (wrap64 (-(wrap64 (Go.bits .and .u64 a0 1)))))) = some r := h
  clear h
  obtain rfl := Option.some.inj H
  go_enter Tryd.func37, Tryd.ntmps37
  go_wp2
  go_ret
  exact ⟨by first | rfl | (simp; done) | (simp [*]; done), by repeat (first | exact Drawn0.refl _ | apply Drawn0.step)⟩


end Go.Proofs.YtcglhpagimkajaaDoor.Pv
namespace Go.Proofs.YtcglhpagimkajaaDoor.Pv
open Go.RowKit Go.Proofs.YtcglhpagimkajaaDoorW.PrintWords Go.Proofs.YtcglhpagimkajaaDoorW.PrintLast Go.Proofs.YtcglhpagimkajaaDoorW.PrintMore
attribute [local go_sem] max2_int min2_int max_two min_two max_three min_three max_four min_four
set_option linter.unusedVariables false
set_option linter.unusedSimpArgs false

/-! ### tallyroomref01_Get: function 38 -/
mutual
def tallyroomref01_Get.l0 : Nat → List Int → Int → Int → Int → Option (Int × Int × Int)
  | 0, _, _, _, _ => none
  | k + 1, x0, x5, x6, x7 => if x7 < (x0.length : Int) then (if 0 ≤ x7 then (if x7 = 10 then (tallyroomref01_Get.j1 k x0 x5 x6 x7 (IntKind.u64.wrap (Int.tmod (rd x0 x7) 128)) true) else (if x7 = 9 then (tallyroomref01_Get.j1 k x0 x5 x6 x7 (IntKind.u64.wrap (Int.tmod (rd x0 x7) 128)) (decide ((IntKind.u64.wrap (Int.tmod (rd x0 x7) 128)) > 1))) else (tallyroomref01_Get.j1 k x0 x5 x6 x7 (IntKind.u64.wrap (Int.tmod (rd x0 x7) 128)) false))) else (none)) else (some (0, 0, 10))
def tallyroomref01_Get.j1 : Nat → List Int → Int → Int → Int → Int → Bool → Option (Int × Int × Int)
  | 0, _, _, _, _, _, _ => none
  | k + 1, x0, x5, x6, x7, x8, x30 => if x30 = true then (some (0, 0, 11)) else (if 0 ≤ x7 then (if x7 < (x0.length : Int) then (if (rd x0 x7) < 128 then (if x7 > 0 then (if (rd x0 x7) = 0 then (some (0, 0, 11)) else (some (IntKind.u64.wrap (x5 + (IntKind.u64.wrap (x8 * x6))), wrap64 (x7 + 1), 0))) else (some (IntKind.u64.wrap (x5 + (IntKind.u64.wrap (x8 * x6))), wrap64 (x7 + 1), 0))) else (tallyroomref01_Get.l0 k x0 (IntKind.u64.wrap (x5 + (IntKind.u64.wrap (x8 * x6)))) (IntKind.u64.wrap (x6 * 128)) (wrap64 (x7 + 1)))) else (none)) else (none))
end
def tallyroomref01_Get.f (k : Nat) (l0 : List Int) : Option (Int × Int × Int) := tallyroomref01_Get.l0 k l0 0 1 0
theorem tallyroomref01_Get.mono_l : ∀ k, (∀ y0 y1 y2 y3, LeO (tallyroomref01_Get.l0 k y0 y1 y2 y3) (tallyroomref01_Get.l0 (k + 1) y0 y1 y2 y3)) ∧ (∀ y0 y1 y2 y3 y4 y5, LeO (tallyroomref01_Get.j1 k y0 y1 y2 y3 y4 y5) (tallyroomref01_Get.j1 (k + 1) y0 y1 y2 y3 y4 y5))
  | 0 => ⟨fun _ _ _ _ r h => by simp [tallyroomref01_Get.l0] at h, fun _ _ _ _ _ _ r h => by simp [tallyroomref01_Get.j1] at h⟩
  | k + 1 => by
    obtain ⟨ih0, ih1⟩ := tallyroomref01_Get.mono_l k
    refine ⟨?_, ?_⟩
    · intro y0 y1 y2 y3
      unfold tallyroomref01_Get.l0
      repeat' first
      | (with_reducible exact ih0 _ _ _ _)
      | (with_reducible exact ih1 _ _ _ _ _ _)
      | (with_reducible exact LeO.refl _)
      | (with_reducible exact LeO.none _)
      | (with_reducible refine LeO.ite ?_ ?_)
      | (with_reducible refine LeO.bind ?_ (fun _ => ?_))
      | exact ih0 _ _ _ _
      | exact ih1 _ _ _ _ _ _
      | exact LeO.none _
      | refine LeO.ite ?_ ?_
      | refine LeO.bind ?_ (fun _ => ?_)
    · intro y0 y1 y2 y3 y4 y5
      unfold tallyroomref01_Get.j1
      repeat' first
      | (with_reducible exact ih0 _ _ _ _)
      | (with_reducible exact ih1 _ _ _ _ _ _)
      | (with_reducible exact LeO.refl _)
      | (with_reducible exact LeO.none _)
      | (with_reducible refine LeO.ite ?_ ?_)
      | (with_reducible refine LeO.bind ?_ (fun _ => ?_))
      | exact ih0 _ _ _ _
      | exact ih1 _ _ _ _ _ _
      | exact LeO.none _
      | refine LeO.ite ?_ ?_
      | refine LeO.bind ?_ (fun _ => ?_)
theorem tallyroomref01_Get.mono : ∀ a0 k, LeO (tallyroomref01_Get.f k a0) (tallyroomref01_Get.f (k + 1) a0) := by
  intro a0 k
  obtain ⟨ih0, ih1⟩ := tallyroomref01_Get.mono_l k
  unfold tallyroomref01_Get.f
  repeat' first
      | (with_reducible exact ih0 _ _ _ _)
      | (with_reducible exact ih1 _ _ _ _ _ _)
      | (with_reducible exact LeO.refl _)
      | (with_reducible exact LeO.none _)
      | (with_reducible refine LeO.ite ?_ ?_)
      | (with_reducible refine LeO.bind ?_ (fun _ => ?_))
      | exact ih0 _ _ _ _
      | exact ih1 _ _ _ _ _ _
      | exact LeO.none _
      | refine LeO.ite ?_ ?_
      | refine LeO.bind ?_ (fun _ => ?_)
set_option maxHeartbeats 8000000 in
set_option maxRecDepth 100000 in
theorem tallyroomref01_Get.calls (k : Nat) (A0 : Option Addr) (c0 : Nat) (l0 : List Int) (r1 : Int) (r2 : Int) (r3 : Int) (w : World) (hr0 : Kd.C (Kd.int .u8) w A0 l0.length l0) (hc0 : l0.length ≤ c0) (h : tallyroomref01_Get.f k l0 = some (r1, r2, r3)) :
    Calls Tryd.prog 38 #[.slice A0 l0.length c0] w fun e w' => e = .returned (.tuple #[.int .u64 r1, .int .i64 r2, .int .i64 r3]) ∧ Drawn0 w w' := by
  have HR0 := Aside0.mk hr0
  have HC0 := Aside0.mk hc0
  clear hr0 hc0
  have H : (tallyroomref01_Get.l0 k l0 0 1 0) = some (r1, r2, r3) := h
  clear h
  have H' := Aside0.mk H
  clear H
  go_enter Tryd.func38, Tryd.ntmps38
  go_wp2
  go_loopg [5, 6, 7] k (fun kq v5 v6 v7 w' => ∃ (x5_1 : Int) (x6_1 : Int) (x7_1 : Int), v5 = .int .u64 x5_1 ∧ v6 = .int .u64 x6_1 ∧ v7 = .int .i64 x7_1 ∧ Aside0 (tallyroomref01_Get.l0 kq l0 x5_1 x6_1 x7_1 = some (r1, r2, r3)) ∧ Aside0 (kq ≤ k) ∧ Drawn0 w w')
  case atStart => exact ⟨(0), (1), (0), (by first | rfl | (simp; done) | (simp [*]; done)), (by first | rfl | (simp; done) | (simp [*]; done)), (by first | rfl | (simp; done) | (simp [*]; done)), H', ⟨Nat.le_refl _⟩, by repeat (first | exact Drawn0.refl _ | apply Drawn0.step)⟩
  case round =>
    clear H'
    obtain ⟨x5_1, x6_1, x7_1, rfl, rfl, rfl, HA, HK1, ⟨m1, rfl⟩⟩ := hrel
    cases gk with
    | zero => exact absurd HA.out (by simp [tallyroomref01_Get.l0])
    | succ k1 =>
      have H := HA.out
      clear HA
      simp only [tallyroomref01_Get.l0] at H
      by_cases c2 : x7_1 < (l0.length : Int)
      · rw [if_pos c2] at H
        have c2b0 : decide (x7_1 < (l0.length : Int)) = true := decide_eq_true c2
        clear c2
        by_cases c3 : 0 ≤ x7_1
        · rw [if_pos c3] at H
          have c3b0 : decide (0 ≤ x7_1) = true := decide_eq_true c3
          clear c3
          have HC4 := Aside0.mk H
          clear H
          have p175 : 0 ≤ (x7_1 : Int) := of_decide_eq_true (by first | (with_reducible assumption) | assumption)
          have q175 : x7_1 < (l0.length : Int) := of_decide_eq_true (by first | (with_reducible assumption) | assumption)
          obtain ⟨ad175, e175, hx175_0⟩ := Kd.at_int HR0.out x7_1 p175 q175
          cases e175
          replace p175 := eq_true p175
          replace q175 := eq_true q175
          go_upto_region 7 with (fail)
          go_cut [30] (fun v30 wc => ∃ (kq : Nat) (x30_3 : Bool), v30 = .bool x30_3 ∧ Aside0 (tallyroomref01_Get.j1 kq l0 x5_1 x6_1 x7_1 (IntKind.u64.wrap (Int.tmod (rd l0 x7_1) 128)) x30_3 = some (r1, r2, r3)) ∧ Aside0 (kq ≤ k1) ∧ Drawn0 w wc)
          case first =>
            have H := HC4.out
            clear HC4
            by_cases c5 : x7_1 = 10
            · rw [if_pos c5] at H
              have c5b0 : (x7_1 == 10) = true := beq_iff_eq.mpr c5
              have c5b1 : (x7_1 != 10) = false := bne_eq_false_iff_eq.mpr c5
              clear c5
              (first | rw [c5b0] | (simp only [i64_w, i32_w]; rw [c5b0]) | skip)
              have H' := Aside0.mk H
              clear H
              go_wp2
              go_meet
              case rel => exact ⟨_, (true), (by first | rfl | (simp; done) | (simp [*]; done)), H', ⟨by have := HK1.out; first | omega | exact Nat.le_refl _⟩, by repeat (first | exact Drawn0.refl _ | apply Drawn0.step)⟩
            · rw [if_neg c5] at H
              have c5b0 : (x7_1 == 10) = false := beq_eq_false_iff_ne.mpr c5
              have c5b1 : (x7_1 != 10) = true := bne_iff_ne.mpr c5
              (first | rw [c5b0] | (simp only [i64_w, i32_w]; rw [c5b0]) | skip)
              by_cases c6 : x7_1 = 9
              · rw [if_pos c6] at H
                have c6b0 : (x7_1 == 9) = true := beq_iff_eq.mpr c6
                have c6b1 : (x7_1 != 9) = false := bne_eq_false_iff_eq.mpr c6
                clear c6
                have H' := Aside0.mk H
                clear H
                go_wp2
                go_meet
                case rel => exact ⟨_, (decide ((IntKind.u64.wrap (Int.tmod (rd l0 x7_1) 128)) > 1)), (by first | rfl | (simp; done) | (simp [*]; done)), H', ⟨by have := HK1.out; first | omega | exact Nat.le_refl _⟩, by repeat (first | exact Drawn0.refl _ | apply Drawn0.step)⟩
              · rw [if_neg c6] at H
                have c6b0 : (x7_1 == 9) = false := beq_eq_false_iff_ne.mpr c6
                have c6b1 : (x7_1 != 9) = true := bne_iff_ne.mpr c6
                have H' := Aside0.mk H
                clear H
                go_wp2
                go_meet
                case rel => exact ⟨_, (false), (by first | rfl | (simp; done) | (simp [*]; done)), H', ⟨by have := HK1.out; first | omega | exact Nat.le_refl _⟩, by repeat (first | exact Drawn0.refl _ | apply Drawn0.step)⟩
          case rest =>
            clear HC4
            try clear p1
            try clear q1
            try clear hx1
            try clear c2
            try clear c2b0
            try clear p2
            try clear c3
            try clear c3b0
            try clear c5
            try clear c5b0
            try clear c5b1
            try clear c6
            try clear c6b0
            try clear c6b1
            try clear hx175_0
            try clear p175
            try clear q175
            obtain ⟨kq, x30_3, rfl, HA, HJ3, ⟨mc3, rfl⟩⟩ := hcut
            cases kq with
            | zero => exact absurd HA.out (by simp [tallyroomref01_Get.j1])
            | succ kj3 =>
              have H := HA.out
              clear HA
              simp only [tallyroomref01_Get.j1] at H
              by_cases c7 : x30_3 = true
              · subst c7
                have H1 : (some (0, 0, 11)) = some (r1, r2, r3) := by rw [if_pos rfl] at H; exact H
                clear H
                have H := H1
                clear H1
                simp only [Option.some.injEq, Prod.mk.injEq] at H
                obtain ⟨rfl, rfl, rfl⟩ := H
                go_wp2
                go_ret3
                exact ⟨by first | rfl | (simp; done) | (simp [*]; done), by repeat (first | exact Drawn0.refl _ | apply Drawn0.step)⟩
              · replace c7 := Bool.eq_false_iff.mpr c7
                subst c7
                have H1 : (if 0 ≤ x7_1 then (if x7_1 < (l0.length : Int) then (if (rd l0 x7_1) < 128 then (if x7_1 > 0 then (if (rd l0 x7_1) = 0 then (some (0, 0, 11)) else (some (IntKind.u64.wrap (x5_1 + (IntKind.u64.wrap ((IntKind.u64.wrap (Int.tmod (rd l0 x7_1) 128)) * x6_1))), wrap64 (x7_1 + 1), 0))) else (some (IntKind.u64.wrap (x5_1 + (IntKind.u64.wrap ((IntKind.u64.wrap (Int.tmod (rd l0 x7_1) 128)) * x6_1))), wrap64 (x7_1 + 1), 0))) else (tallyroomref01_Get.l0 kj3 l0 (IntKind.u64.wrap (x5_1 + (IntKind.u64.wrap ((IntKind.u64.wrap (Int.tmod (rd l0 x7_1) 128)) * x6_1)))) (IntKind.u64.wrap (x6_1 * 128)) (wrap64 (x7_1 + 1)))) else (none)) else (none)) = some (r1, r2, r3) := by rw [if_neg (show ¬ (false = true) by decide)] at H; exact H
                clear H
                have H := H1
                clear H1
                by_cases c8 : 0 ≤ x7_1
                · rw [if_pos c8] at H
                  have c8b0 : decide (0 ≤ x7_1) = true := decide_eq_true c8
                  clear c8
                  by_cases c9 : x7_1 < (l0.length : Int)
                  · rw [if_pos c9] at H
                    have c9b0 : decide (x7_1 < (l0.length : Int)) = true := decide_eq_true c9
                    clear c9
                    by_cases c10 : (rd l0 x7_1) < 128
                    · rw [if_pos c10] at H
                      have c10b0 : decide ((rd l0 x7_1) < 128) = true := decide_eq_true c10
                      clear c10
                      by_cases c11 : x7_1 > 0
                      · rw [if_pos c11] at H
                        have c11b0 : decide (0 < x7_1) = true := decide_eq_true c11
                        clear c11
                        by_cases c12 : (rd l0 x7_1) = 0
                        · rw [if_pos c12] at H
                          have c12b0 : ((rd l0 x7_1) == 0) = true := beq_iff_eq.mpr c12
                          have c12b1 : ((rd l0 x7_1) != 0) = false := bne_eq_false_iff_eq.mpr c12
                          clear c12
                          simp only [Option.some.injEq, Prod.mk.injEq] at H
                          obtain ⟨rfl, rfl, rfl⟩ := H
                          have p176 : 0 ≤ (x7_1 : Int) := of_decide_eq_true (by first | (with_reducible assumption) | assumption)
                          have q176 : x7_1 < (l0.length : Int) := of_decide_eq_true (by first | (with_reducible assumption) | assumption)
                          obtain ⟨ad176, e176, hx176_0⟩ := Kd.at_int HR0.out x7_1 p176 q176
                          obtain rfl : ad175 = ad176 := (by injection e176)
                          replace p176 := eq_true p176
                          replace q176 := eq_true q176
                          have p177 : 0 ≤ (x7_1 : Int) := of_decide_eq_true (by first | (with_reducible assumption) | assumption)
                          have q177 : x7_1 < (l0.length : Int) := of_decide_eq_true (by first | (with_reducible assumption) | assumption)
                          obtain ⟨ad177, e177, hx177_0⟩ := Kd.at_int HR0.out x7_1 p177 q177
                          obtain rfl : ad175 = ad177 := (by injection e177)
                          replace p177 := eq_true p177
                          replace q177 := eq_true q177
                          go_wp2
                          go_ret3
                          exact ⟨by first | rfl | (simp; done) | (simp [*]; done), by repeat (first | exact Drawn0.refl _ | apply Drawn0.step)⟩
                        · rw [if_neg c12] at H
                          have c12b0 : ((rd l0 x7_1) == 0) = false := beq_eq_false_iff_ne.mpr c12
                          have c12b1 : ((rd l0 x7_1) != 0) = true := bne_iff_ne.mpr c12
                          simp only [Option.some.injEq, Prod.mk.injEq] at H
                          obtain ⟨rfl, rfl, rfl⟩ := H
                          have p176 : 0 ≤ (x7_1 : Int) := of_decide_eq_true (by first | (with_reducible assumption) | assumption)
                          have q176 : x7_1 < (l0.length : Int) := of_decide_eq_true (by first | (with_reducible assumption) | assumption)
                          obtain ⟨ad176, e176, hx176_0⟩ := Kd.at_int HR0.out x7_1 p176 q176
                          obtain rfl : ad175 = ad176 := (by injection e176)
                          replace p176 := eq_true p176
                          replace q176 := eq_true q176
                          have p177 : 0 ≤ (x7_1 : Int) := of_decide_eq_true (by first | (with_reducible assumption) | assumption)
                          have q177 : x7_1 < (l0.length : Int) := of_decide_eq_true (by first | (with_reducible assumption) | assumption)
                          obtain ⟨ad177, e177, hx177_0⟩ := Kd.at_int HR0.out x7_1 p177 q177
                          obtain rfl : ad175 = ad177 := (by injection e177)
                          replace p177 := eq_true p177
                          replace q177 := eq_true q177
                          go_wp2
                          go_ret3
                          exact ⟨by first | rfl | (simp; done) | (simp [*]; done), by repeat (first | exact Drawn0.refl _ | apply Drawn0.step)⟩
                      · rw [if_neg c11] at H
                        have c11b0 : decide (0 < x7_1) = false := decide_eq_false c11
                        clear c11
                        simp only [Option.some.injEq, Prod.mk.injEq] at H
                        obtain ⟨rfl, rfl, rfl⟩ := H
                        have p176 : 0 ≤ (x7_1 : Int) := of_decide_eq_true (by first | (with_reducible assumption) | assumption)
                        have q176 : x7_1 < (l0.length : Int) := of_decide_eq_true (by first | (with_reducible assumption) | assumption)
                        obtain ⟨ad176, e176, hx176_0⟩ := Kd.at_int HR0.out x7_1 p176 q176
                        obtain rfl : ad175 = ad176 := (by injection e176)
                        replace p176 := eq_true p176
                        replace q176 := eq_true q176
                        go_wp2
                        go_ret3
                        exact ⟨by first | rfl | (simp; done) | (simp [*]; done), by repeat (first | exact Drawn0.refl _ | apply Drawn0.step)⟩
                    · rw [if_neg c10] at H
                      have c10b0 : decide ((rd l0 x7_1) < 128) = false := decide_eq_false c10
                      clear c10
                      have H' := Aside0.mk H
                      clear H
                      have p176 : 0 ≤ (x7_1 : Int) := of_decide_eq_true (by first | (with_reducible assumption) | assumption)
                      have q176 : x7_1 < (l0.length : Int) := of_decide_eq_true (by first | (with_reducible assumption) | assumption)
                      obtain ⟨ad176, e176, hx176_0⟩ := Kd.at_int HR0.out x7_1 p176 q176
                      obtain rfl : ad175 = ad176 := (by injection e176)
                      replace p176 := eq_true p176
                      replace q176 := eq_true q176
                      go_wp2
                      go_roundg kj3
                      case measure => have := HK1.out; have := HJ3.out; omega
                      case rel => exact ⟨(IntKind.u64.wrap (x5_1 + (IntKind.u64.wrap ((IntKind.u64.wrap (Int.tmod (rd l0 x7_1) 128)) * x6_1)))), (IntKind.u64.wrap (x6_1 * 128)), (wrap64 (x7_1 + 1)), (by first | rfl | (simp; done) | (simp [*]; done)), (by first | rfl | (simp; done) | (simp [*]; done)), (by first | rfl | (simp; done) | (simp [*]; done)), H', ⟨by have := HK1.out; have := HJ3.out; omega⟩, by repeat (first | exact Drawn0.refl _ | apply Drawn0.step)⟩
                  · rw [if_neg c9] at H
                    exact absurd H (by simp)
                · rw [if_neg c8] at H
                  exact absurd H (by simp)
        · rw [if_neg c3] at H
          exact absurd H (by simp)
      · rw [if_neg c2] at H
        have c2b0 : decide (x7_1 < (l0.length : Int)) = false := decide_eq_false c2
        clear c2
        simp only [Option.some.injEq, Prod.mk.injEq] at H
        obtain ⟨rfl, rfl, rfl⟩ := H
        go_wp2
        go_ret3
        exact ⟨by first | rfl | (simp; done) | (simp [*]; done), by repeat (first | exact Drawn0.refl _ | apply Drawn0.step)⟩


end Go.Proofs.YtcglhpagimkajaaDoor.Pv
set_option linter.unusedVariables false
set_option linter.unusedSimpArgs false
namespace Go.Proofs.YtcglhpagimkajaaDoor.Vl
open Go.RowKit Go.Proofs.YtcglhpagimkajaaDoor.B0 Go.Proofs.YtcglhpagimkajaaDoor.Pv Go.Proofs.YtcglhpagimkajaaDoorW.PrintWords

def zigN (n : Int) : Nat := if 0 ≤ n then (2 * n).toNat else (-2 * n - 1).toNat
theorem xor_zero (a : Nat) (h : a < 2 ^ 64) : Go.bits .xor .u64 (a : Int) 0 = (a : Int) := by
  have e : (0 : Int) = ((0 : Nat) : Int) := rfl
  rw [e]
  simp only [Go.bits, BitVec.ofInt_natCast, BitVec.toNat_xor, BitVec.toNat_ofNat]
  have : a % 2 ^ IntKind.u64.bits = a := Nat.mod_eq_of_lt h
  rw [this]
  simp
  rw [IntKind.wrap_u64]; omega
theorem xor_ones (a : Nat) (h : a < 2 ^ 64) : Go.bits .xor .u64 (a : Int) 18446744073709551615 = ((2 ^ 64 - 1 - a : Nat) : Int) := by
  have e : (18446744073709551615 : Int) = ((18446744073709551615 : Nat) : Int) := rfl
  rw [e]
  simp only [Go.bits, BitVec.ofInt_natCast]
  have e2 : (BitVec.ofNat IntKind.u64.bits 18446744073709551615) = BitVec.allOnes IntKind.u64.bits := by kernel_rfl
  rw [e2, BitVec.xor_allOnes, BitVec.toNat_not, BitVec.toNat_ofNat]
  have : a % 2 ^ IntKind.u64.bits = a := Nat.mod_eq_of_lt h
  rw [this, IntKind.wrap_u64]
  have e3 : (2 : Nat) ^ IntKind.u64.bits = 2 ^ 64 := rfl
  rw [e3]
  omega
theorem zig_f (n : Int) (h0 : -9223372036854775808 ≤ n) (h1 : n ≤ 9223372036854775807) : varint_Zig.f n = some (zigN n : Int) := by
  unfold varint_Zig.f zigN
  by_cases hn : 0 ≤ n
  · have e1 : IntKind.u64.wrap (wrap64 (n * 2)) = ((2 * n).toNat : Int) := by rw [IntKind.wrap_u64]; unfold wrap64; omega
    have e2 : IntKind.u64.wrap (n / 9223372036854775808) = 0 := by rw [show n / 9223372036854775808 = 0 from by omega]; kernel_rfl
    rw [e1, e2, xor_zero _ (by omega), if_pos hn]
  · have e1 : IntKind.u64.wrap (wrap64 (n * 2)) = ((2 * n + 18446744073709551616).toNat : Int) := by rw [IntKind.wrap_u64]; unfold wrap64; omega
    have e2 : IntKind.u64.wrap (n / 9223372036854775808) = 18446744073709551615 := by rw [show n / 9223372036854775808 = -1 from by omega]; kernel_rfl
    rw [e1, e2, xor_ones _ (by omega), if_neg hn]
    congr 1; omega
theorem rzig_f (n : Int) (h0 : -9223372036854775808 ≤ n) (h1 : n ≤ 9223372036854775807) : tallyroomref01_Zig.f n = some (zigN n : Int) := by
  unfold tallyroomref01_Zig.f zigN
  by_cases hn : 0 ≤ n
  · rw [if_pos (by omega), if_pos hn]; congr 1; rw [IntKind.wrap_u64, IntKind.wrap_u64]; omega
  · rw [if_neg (by omega), if_neg hn]; congr 1; simp only [IntKind.wrap_u64]; unfold wrap64; omega
theorem zigN_lt (n : Int) (h0 : -9223372036854775808 ≤ n) (h1 : n ≤ 9223372036854775807) : zigN n < 2 ^ 64 := by unfold zigN; split <;> omega
theorem Zig_c (n : Int) (h0 : -9223372036854775808 ≤ n) (h1 : n ≤ 9223372036854775807) (w : World) : Calls Tryd.prog 32 #[.int .i64 n] w fun e w' => e = .returned (.int .u64 (zigN n)) ∧ Below w.heap.size w w' :=
  (varint_Zig.calls n _ w (zig_f n h0 h1)).mono fun e w' ⟨he, hd⟩ => ⟨he, hd.below⟩
theorem RZig_c (n : Int) (h0 : -9223372036854775808 ≤ n) (h1 : n ≤ 9223372036854775807) (w : World) : Calls Tryd.prog 34 #[.int .i64 n] w fun e w' => e = .returned (.int .u64 (zigN n)) ∧ Below w.heap.size w w' :=
  (tallyroomref01_Zig.calls n _ w (rzig_f n h0 h1)).mono fun e w' ⟨he, hd⟩ => ⟨he, hd.below⟩
theorem rput_l0 : ∀ (d n : Nat) (ys : List Int), n < 2 ^ (7 * (d + 1)) → n < 2 ^ 64 → ys.length + d ≤ 1000 → tallyroomref01_Put.l0 (d + 1) n ys = some (ys ++ putL n) := by
  intro d
  induction d with
  | zero =>
    intro n ys hn hn2 hl
    rw [tallyroomref01_Put.l0, if_neg (by omega), if_pos (by omega), putL, if_pos (by omega)]
    congr 3; omega
  | succ d ih =>
    intro n ys hn hn2 hl
    rw [tallyroomref01_Put.l0, putL]
    by_cases h : n < 128
    · rw [if_neg (by omega), if_pos (by omega), if_pos h]
      congr 3; omega
    · have e1 : IntKind.u64.wrap (Int.tdiv (n : Int) 128) = ((n / 128 : Nat) : Int) := by rw [Int.tdiv_eq_ediv_of_nonneg (by omega), IntKind.wrap_u64]; omega
      have e2 : (IntKind.u64.wrap (128 + (Int.tmod (n : Int) 128))) % 256 = ((n % 128 + 128 : Nat) : Int) := by rw [Int.tmod_eq_emod_of_nonneg (by omega), IntKind.wrap_u64]; omega
      rw [if_pos (by omega), if_pos (by omega), if_neg h, e1, e2]
      have hp : 2 ^ (7 * (d + 1 + 1)) = 2 ^ (7 * (d + 1)) * 128 := by rw [Nat.mul_succ, Nat.pow_add]
      rw [ih (n / 128) _ (by rw [hp] at hn; omega) (by omega) (by simp; omega)]
      simp
theorem rput_f (n : Nat) (h : n < 2 ^ 64) : tallyroomref01_Put.f 11 n = some (putL n) := by
  unfold tallyroomref01_Put.f
  rw [rput_l0 10 n [] (Nat.lt_of_lt_of_le h (Nat.pow_le_pow_right (by decide) (by decide))) h (by simp)]
  simp
theorem RPut_c (n : Nat) (h : n < 2 ^ 64) (w : World) : Calls Tryd.prog 33 #[.int .u64 n] w fun e w' => ∃ A c, e = .returned (.slice A (putL n).length c) ∧ ReadsInt w' .u8 A (putL n).length (putL n) ∧ Below w.heap.size w w' := by
  refine (tallyroomref01_Put.calls 11 n _ w (rput_f n h)).mono ?_
  rintro e w' ⟨v, rfl, hR, hB⟩
  obtain ⟨A, c, rfl, h1, h2⟩ := Kd.R_reads hR
  exact ⟨A, c, rfl, Kd.reads_of_C h2, hB⟩
end Go.Proofs.YtcglhpagimkajaaDoor.Vl
set_option linter.unusedVariables false
set_option linter.unusedSimpArgs false
namespace Go.Proofs.YtcglhpagimkajaaDoor.Vl
open Go.RowKit Go.Proofs.YtcglhpagimkajaaDoor.B0 Go.Proofs.YtcglhpagimkajaaDoor.Pv Go.Proofs.YtcglhpagimkajaaDoorW.PrintWords Go.Proofs.YtcglhpagimkajaaDoorW.PrintLast

theorem bool_of {n : Int} {s : ByteArray} (h : rightB ⟨2, n, s⟩ = true) : n = 0 ∨ n = 1 := by
  have h1 : (s.toList == [] && (n == 0 || n == 1)) = true := h
  simp only [Bool.and_eq_true, Bool.or_eq_true, beq_iff_eq] at h1
  exact h1.2

theorem step_app {P : Program} {ops : Array Oper} {o : Oper} {a : Act} {w : World} {K : Act → World → Prop} {Q : Exit → Act → World → Prop} {E : Prop} (hw : Region.wanted o (yielded ops a.tmps) = true) (s x : Operand) (t u : TypeId)
    (hop : o.op = .call { callee := .builtin .append, args := #[s, x], argTypes := #[t, u] }) (v y : Value) (hs : a.eval s = v) (hx : a.eval x = y) {v' : Value} {w' : World}
    (hr : (Builtin.append_ #[t, u] o.type #[v, y]).run P w = .ok v' w') (hK : K (a.put o.dst v') w') : if Region.wanted o (yielded ops a.tmps) = true then Oper.wp P o a w K Q else E := by
  rw [if_pos hw]
  unfold Oper.wp
  simp [execOp, hop, resolve, invoke, builtin, hs, hx, hr, Result.andThen]
  exact hK
/-- append(v, s...) onto bytes of the call's own. -/
theorem app_str (w : World) (ty : TypeId) (base : Nat) (v : Value) (xs : List Int) (y : ByteArray) (ho : OB w base v xs) (hb : base ≤ w.heap.size) (hl : xs.length + y.size ≤ 1000000) :
    ∃ v' w', (Builtin.append_ #[40, 9] ty #[v, .string y]).run Tryd.prog w = .ok v' w' ∧ OB w' base v' (xs ++ bytesOf y) ∧ w.grownBy w' v.ownBlock := by
  obtain ⟨i0, hi, hz0, hz1, hz2⟩ := info_parts info5
  obtain ⟨v', w', h1, h2, h3, _⟩ := Lib.run_append_own_string (P := Tryd.prog) w base 40 9 ty 5 i0 Tryd.underlying40 Tryd.underlying9 hi hz0 hz1 hz2 v xs.length (nums .u8 xs) ho y (by unfold maxLen; omega) (by omega) hb
  refine ⟨v', w', h1, ?_, h3⟩
  have e : nums .u8 (xs ++ bytesOf y) = nums .u8 xs ++ Lib.strCells y := by
    simp [nums, bytesOf, Lib.strCells]
  unfold OB
  rw [List.length_append, bytesOf_length, e]
  exact h2
theorem OB.own {w : World} {base : Nat} {v : Value} {xs : List Int} (h : OB w base v xs) : ∀ k, v.ownBlock = some k → base ≤ k := fun k hk => (World.ownsRow.lt h k hk).1

def T18_10 : Bool × List (List Nat × List Nat) := (true, [([], []), ([], []), ([1], [1]), ([2], [2]), ([3], [3]), ([0, 4], [0, 4]), ([], []), ([6], [6]), ([5, 7, 5], [5, 7]), ([8, 8, 0, 1, 2, 3, 4, 5, 6, 7, 8], [8])])
def B18_10 : List Nat := [0, 0, 2, 6, 14, 31, 0, 64, 255, 511]
theorem tab18_10 : rtab .any (opsOf Tryd.f18 10) = T18_10 := by kernel_rfl
theorem bits18_10 : waitsOk T18_10.2 B18_10 = true := by kernel_rfl
/-- a value's bytes. -/
def bytesV (x : Va) : List Int := if rightB x = true then (if x.k = 1 then 1 :: putL (zigN x.n) else if x.k = 2 then [2, x.n] else 3 :: (putL x.s.size ++ bytesOf x.s)) else []
set_option maxRecDepth 100000 in
set_option maxHeartbeats 4000000 in
theorem Put_c (x : Va) (hx : okV x) (hs : x.s.size ≤ 10000) (w : World) (A : Option Addr) (c : Nat) (xs : List Int) (hr : ReadsInt w .u8 A xs.length xs) (hl : xs.length ≤ 10000) :
    Calls Tryd.prog 18 #[.slice A xs.length c, x.c] w fun e w' => ∃ v', e = .returned v' ∧ OB w' w.heap.size v' (xs ++ bytesV x) ∧ Below w.heap.size w w' := by
  obtain ⟨k, n, s⟩ := x
  have R := Lib.hid hr; clear hr
  obtain ⟨hx0, hx1⟩ := hx
  simp only at hx0 hx1 hs
  have HX0 := Lib.hid hx0; have HX1 := Lib.hid hx1; clear hx0 hx1
  have hbox : ∀ w1, Below (w.alloc (.cells #[.int .i64 k, .int .i64 n, .string s] 26)).heap.size (w.alloc (.cells #[.int .i64 k, .int .i64 n, .string s] 26)) w1 → w1.cell? ⟨w.heap.size, 0, none⟩ = some (.int .i64 k) ∧ w1.cell? ⟨w.heap.size, 1, none⟩ = some (.int .i64 n) ∧ w1.cell? ⟨w.heap.size, 2, none⟩ = some (.string s) := fun w1 h => by
    have hb : w1.heap[w.heap.size]? = some (.cells #[.int .i64 k, .int .i64 n, .string s] 26 (0, 0)) := (h.block _ (by rw [size_alloc]; omega)).trans (allocN w _)
    exact ⟨cellB hb 0, cellB hb 1, cellB hb 2⟩
  have HX := Lib.hid hbox; clear hbox
  obtain ⟨wa, hwa⟩ : ∃ wa, Hid (wa = w.alloc (.cells #[.int .i64 k, .int .i64 n, .string s] 26)) := ⟨_, rfl⟩
  rw [← hwa.out] at HX
  have hBa : Hid (Below w.heap.size w wa) := by rw [hwa.out]; exact (Below.refl _ w).alloc (Nat.le_refl _) _
  have hsz : Hid (wa.heap.size = w.heap.size + 1) := by rw [hwa.out]; exact size_alloc _ _
  unfold Va.c
  go_enter Tryd.func18, Tryd.ntmps18
  go_wp2_with fail
  change Calls _ _ _ (w.alloc (.cells #[.int .i64 k, .int .i64 n, .string s] 26)) _
  rw [← hwa.out]
  refine (Clone_b wa A c xs (R.out.below hBa.out) (by omega)).mono ?_
  rintro e w1 ⟨v1, rfl, hO, hB⟩
  have HO := Lib.hid hO; have HB := Lib.hid hB; clear hO hB
  obtain ⟨c0, c1, c2⟩ := HX.out w1 HB.out
  go_wp2_with fail
  refine (Right_c ⟨k, n, s⟩ _).mono ?_
  rintro e w2 ⟨rfl, hB⟩
  have HO2 := Lib.hid (HO.out.below hB)
  have HB2 : Hid (Below wa.heap.size wa w2) := HB.out.trans (hB.mono HB.out.size)
  clear hB HO HB c0 c1 c2
  obtain ⟨c0, c1, c2⟩ := HX.out w2 HB2.out
  cases hr : rightB ⟨k, n, s⟩ with
  | false =>
    have e1 : Hid (bytesV ⟨k, n, s⟩ = []) := by show _ = _; unfold bytesV; rw [hr]; rfl
    clear hr
    go_wp2_with fail
    go_ret
    refine ⟨v1, rfl, ?_, hBa.out.trans (HB2.out.mono (by have := hsz.out; omega))⟩
    rw [e1.out, List.append_nil]
    exact HO2.out.lower (by have := hsz.out; omega)
  | true =>
    have hk := kinds_of hr
    simp only at hk
    rcases hk with rfl | rfl | rfl
    · have e1 : Hid (bytesV ⟨1, n, s⟩ = 1 :: putL (zigN n)) := by show _ = _; unfold bytesV; rw [hr]; rfl
      clear hr
      go_wp2_with (at_builtin; refine print_append_num (w0 := wa) wa.heap.size rfl _ _ 40 5 .u8 1 rfl Tryd.underlying40 info5 (by decide) v1 xs 1 rfl rfl HO2.out HB2.out HB2.out.size (by omega) ?_)
      intro v3 w3 h1 h2 h3 h4
      obtain ⟨ys, hys⟩ : ∃ ys, Hid (ys = xs ++ [1]) := ⟨xs ++ [1], Lib.hid rfl⟩
      have hyl : ys.length ≤ 10001 := by rw [hys.out]; simp; omega
      have K1 : Hid (OB w3 wa.heap.size v3 ys) := by
        rw [hys.out]
        show OB _ _ _ _
        unfold OB; rw [List.length_append]; exact h1
      have K2 : Hid (Below wa.heap.size wa w3) := h2
      clear h1 h2 h3 h4 c0 c1 c2 HB2 HO2
      obtain ⟨c0, c1, c2⟩ := HX.out w3 K2.out
      go_wp2_with fail
      refine (Zig_c n HX0.out HX1.out _).mono ?_
      rintro e w4 ⟨rfl, hB⟩
      have K3 := Lib.hid (K1.out.below hB)
      have K4 := Lib.hid (K2.out.trans (hB.mono K2.out.size))
      clear hB K1 K2 c0 c1 c2
      obtain ⟨A3, c3, rfl, R3⟩ := K3.out.reads
      have R4 := Lib.hid R3; clear R3
      go_wp2_with fail
      refine (VPut_c w4 A3 c3 ys (zigN n) (zigN_lt n HX0.out HX1.out) R4.out (by omega)).mono ?_
      rintro e w5 ⟨v5, rfl, hO, hB⟩
      have K5 := Lib.hid hO
      have K6 := Lib.hid (K4.out.trans (hB.mono K4.out.size))
      clear hO hB
      go_wp2_with fail
      go_ret
      refine ⟨v5, rfl, ?_, hBa.out.trans (K6.out.mono (by have := hsz.out; omega))⟩
      rw [e1.out]
      have := K5.out
      rw [hys.out] at this
      rw [List.append_assoc] at this
      exact this.lower (by have := hsz.out; have := K4.out.size; omega)
    · have e1 : Hid (bytesV ⟨2, n, s⟩ = [2, n]) := by show _ = _; unfold bytesV; rw [hr]; rfl
      have hn01 : Hid (n = 0 ∨ n = 1) := bool_of hr
      clear hr
      go_wp2_with (at_builtin; refine print_append_num (w0 := wa) wa.heap.size rfl _ _ 40 5 .u8 1 rfl Tryd.underlying40 info5 (by decide) v1 xs 2 rfl rfl HO2.out HB2.out HB2.out.size (by omega) ?_)
      intro v3 w3 h1 h2 h3 h4
      obtain ⟨ys, hys⟩ : ∃ ys, Hid (ys = xs ++ [2]) := ⟨xs ++ [2], Lib.hid rfl⟩
      have hyl : ys.length ≤ 10001 := by rw [hys.out]; simp; omega
      have K1 : Hid (OB w3 wa.heap.size v3 ys) := by
        rw [hys.out]
        show OB _ _ _ _
        unfold OB; rw [List.length_append]; exact h1
      have K2 : Hid (Below wa.heap.size wa w3) := h2
      clear h1 h2 h3 h4 c0 c1 c2 HB2 HO2
      obtain ⟨c0, c1, c2⟩ := HX.out w3 K2.out
      have hw : IntKind.u8.wrap n = n := by rw [IntKind.wrap_u8]; have := hn01.out; omega
      go_wp2_with (at_builtin; refine print_append_num (w0 := wa) wa.heap.size rfl _ _ 40 5 .u8 1 rfl Tryd.underlying40 info5 (by decide) v3 ys n rfl rfl K1.out K2.out K2.out.size (by omega) ?_)
      intro v4 w4 h1 h2 h3 h4
      have K3 : Hid (OB w4 wa.heap.size v4 (ys ++ [n])) := by
        show OB _ _ _ _
        unfold OB; rw [List.length_append]; exact h1
      have K4 : Hid (Below wa.heap.size wa w4) := h2
      clear h1 h2 h3 h4 c0 c1 c2
      go_wp2_with fail
      go_ret
      refine ⟨v4, rfl, ?_, hBa.out.trans (K4.out.mono (by have := hsz.out; omega))⟩
      rw [e1.out]
      have := K3.out
      rw [hys.out] at this
      rw [List.append_assoc] at this
      exact this.lower (by have := hsz.out; omega)
    · have e1 : Hid (bytesV ⟨3, n, s⟩ = 3 :: (putL s.size ++ bytesOf s)) := by show _ = _; unfold bytesV; rw [hr]; rfl
      clear hr
      go_wp2_with (at_builtin; refine print_append_num (w0 := wa) wa.heap.size rfl _ _ 40 5 .u8 1 rfl Tryd.underlying40 info5 (by decide) v1 xs 3 rfl rfl HO2.out HB2.out HB2.out.size (by omega) ?_)
      intro v3 w3 h1 h2 h3 h4
      obtain ⟨ys, hys⟩ : ∃ ys, Hid (ys = xs ++ [3]) := ⟨xs ++ [3], Lib.hid rfl⟩
      have hyl : ys.length ≤ 10001 := by rw [hys.out]; simp; omega
      have K1 : Hid (OB w3 wa.heap.size v3 ys) := by
        rw [hys.out]
        show OB _ _ _ _
        unfold OB; rw [List.length_append]; exact h1
      have K2 : Hid (Below wa.heap.size wa w3) := h2
      clear h1 h2 h3 h4 c0 c1 c2 HB2 HO2
      obtain ⟨c0, c1, c2⟩ := HX.out w3 K2.out
      obtain ⟨A3, c3, rfl, R3⟩ := K1.out.reads
      have R4 := Lib.hid R3; clear R3
      have EY : Hid (∀ w', Below w3.heap.size w3 w' → w'.cell? ⟨w.heap.size, 2, none⟩ = some (.string s)) := fun w' h => (HX.out w' (K2.out.trans (h.mono K2.out.size))).2.2
      have hw64 : IntKind.u64.wrap (s.size : Int) = (s.size : Int) := by rw [IntKind.wrap_u64]; omega
      go_wp2_with fail
      refine start_ (n := 10) (S := (fun w' => Below w3.heap.size w3 w')) (ds := []) #[false, false, false, false, false, false, false, false, false, false] (by kernel_rfl) (by rfl) (by rfl) (Below_drewN (Below.refl _ _) 1) (fun hHeld => ?_); refine with_tabW tab18_10 bits18_10 (fun HT_ HW_ => ?_)
      refine pure_ (i := 0) (N := some 35) (v := ?_) (a' := ?_) #[true, false, false, false, false, false, false, false, false, false] rfl rfl (any_of HT_.out (by kernel_rfl)) (fun _ _ _ h => h) (Or.inl ⟨by rfl, ?_⟩) ?_ ?_
      rotate_left
      · intro w'
        go_simp
        with_reducible rfl
      rotate_left
      · simp only [Act.put, List.setIfInBounds_toArray, List.set_cons_zero, List.set_cons_succ]
        rfl
      refine pure_ (i := 1) (N := some 36) (v := ?_) (a' := ?_) #[true, true, false, false, false, false, false, false, false, false] rfl rfl (any_of HT_.out (by kernel_rfl)) (fun _ _ _ h => h) (Or.inl ⟨by rfl, ?_⟩) ?_ ?_
      rotate_left
      · intro w'
        go_simp
        with_reducible rfl
      rotate_left
      · simp only [Act.put, List.setIfInBounds_toArray, List.set_cons_zero, List.set_cons_succ]
        rfl
      refine take_ (i := 2) (N := some 37) (v := ?_) (a' := ?_) #[true, true, true, false, false, false, false, false, false, false] rfl rfl (take_ofW HT_.out HW_.out (by kernel_rfl)) (fun _ _ _ h => h) (Or.inl ⟨by rfl, ?_⟩) hHeld ?_ ?_
      rotate_left
      · rintro w' hS; have s2 := EY.out w' hS
        go_simp
        with_reducible rfl
      rotate_left
      · simp only [Act.put, List.setIfInBounds_toArray, List.set_cons_zero, List.set_cons_succ]
        rfl
      refine pure_ (i := 3) (N := some 38) (v := ?_) (a' := ?_) #[true, true, true, true, false, false, false, false, false, false] rfl rfl (any_of HT_.out (by kernel_rfl)) (fun _ _ _ h => h) (Or.inl ⟨by rfl, ?_⟩) ?_ ?_
      rotate_left
      · intro w'
        go_simp
        with_reducible rfl
      rotate_left
      · simp only [Act.put, List.setIfInBounds_toArray, List.set_cons_zero, List.set_cons_succ]
        rfl
      refine pure_ (i := 4) (N := some 39) (v := ?_) (a' := ?_) #[true, true, true, true, true, false, false, false, false, false] rfl rfl (any_of HT_.out (by kernel_rfl)) (fun _ _ _ h => h) (Or.inl ⟨by rfl, ?_⟩) ?_ ?_
      rotate_left
      · intro w'
        go_simp
        with_reducible rfl
      rotate_left
      · simp only [Act.put, List.setIfInBounds_toArray, List.set_cons_zero, List.set_cons_succ]
        rfl
      refine pure_ (i := 6) (N := some 41) (v := ?_) (a' := ?_) #[true, true, true, true, true, false, true, false, false, false] rfl rfl (any_of HT_.out (by kernel_rfl)) (fun _ _ _ h => h) (Or.inl ⟨by rfl, ?_⟩) ?_ ?_
      rotate_left
      · intro w'
        go_simp
        with_reducible rfl
      rotate_left
      · simp only [Act.put, List.setIfInBounds_toArray, List.set_cons_zero, List.set_cons_succ]
        rfl
      refine take_ (i := 7) (N := some 42) (v := ?_) (a' := ?_) #[true, true, true, true, true, false, true, true, false, false] rfl rfl (take_ofW HT_.out HW_.out (by kernel_rfl)) (fun _ _ _ h => h) (Or.inl ⟨by rfl, ?_⟩) hHeld ?_ ?_
      rotate_left
      · rintro w' hS; have s2 := EY.out w' hS
        go_simp
        with_reducible rfl
      rotate_left
      · simp only [Act.put, List.setIfInBounds_toArray, List.set_cons_zero, List.set_cons_succ]
        rfl
      refine one_ (i := 5) (N := some 40) #[true, true, true, true, true, true, true, true, false, false] rfl rfl (one_of HT_.out (by kernel_rfl)) (by decide) (fun K hK => ?_)
      rw [if_pos (by rfl)]
      go_simp
      (try rw [hw64]); refine (VPut_c _ A3 c3 ys s.size (by omega) (R4.out.below hHeld) (by omega)).mono ?_; rintro e w5 ⟨v5, rfl, hO, hb⟩; have hO5 := Lib.hid (hO.lower hHeld.size)
      refine hK.out _ _ (hHeld.trans (hb.mono hHeld.size)) (fun hHeld => ?_)
      clear hK K
      refine one_ (i := 8) (N := some 43) #[true, true, true, true, true, true, true, true, true, false] rfl rfl (one_of HT_.out (by kernel_rfl)) (by decide) (fun K hK => ?_)
      obtain ⟨v6, w6, h6, hO6, hG⟩ := app_str w5 40 w3.heap.size v5 (ys ++ putL s.size) s hO5.out hHeld.size (by have := putL_len s.size (by omega); simp; omega); refine step_app (by rfl) _ _ _ _ rfl _ _ rfl rfl h6 ?_
      refine hK.out _ _ (hHeld.grown hG hHeld.size hO5.out.own) (fun hHeld => ?_)
      clear hK K
      refine pure_ (i := 9) (N := some 4) (v := ?_) (a' := ?_) #[true, true, true, true, true, true, true, true, true, true] rfl rfl (any_of HT_.out (by kernel_rfl)) (fun _ _ _ h => h) (Or.inl ⟨by rfl, ?_⟩) ?_ ?_
      rotate_left
      · intro w'
        go_simp
        with_reducible rfl
      rotate_left
      · simp only [Act.put, List.setIfInBounds_toArray, List.set_cons_zero, List.set_cons_succ]
        rfl
      refine done_ (done_of HT_.out (by kernel_rfl)) ?_
      clear HT_ HW_
      have K5 := Lib.hid hHeld; clear hHeld; go_wp2_with fail; go_ret; exact ⟨v6, by first | rfl | (simp; done), by rw [e1.out]; have := hO6; rw [hys.out, List.append_assoc, List.append_assoc] at this; exact this.lower (by have := hsz.out; have := K2.out.size; omega), hBa.out.trans ((K2.out.trans (K5.out.mono K2.out.size)).mono (by have := hsz.out; omega))⟩
end Go.Proofs.YtcglhpagimkajaaDoor.Vl
set_option linter.unusedVariables false
set_option linter.unusedSimpArgs false
namespace Go.Proofs.YtcglhpagimkajaaDoor.Vl
open Go.RowKit Go.Proofs.YtcglhpagimkajaaDoor.B0 Go.Proofs.YtcglhpagimkajaaDoor.Pv Go.Proofs.YtcglhpagimkajaaDoorW.PrintWords Go.Proofs.YtcglhpagimkajaaDoorW.PrintLast

theorem OB_one (w : World) (base : Nat) (y : Int) (hb : base ≤ w.heap.size) : OB (w.alloc (.cells #[.int .u8 y] 5)) base (.slice (some ⟨w.heap.size, 0, none⟩) 1 1) [y] :=
  ⟨by simp [nums], .inr ⟨w.heap.size, 1, _, rfl, hb, heap_alloc_new w _, Nat.le_refl _, by simp [maxLen], by simp, by simp [nums]⟩⟩
theorem putL_pos (n : Nat) : 0 < (putL n).length := by
  rw [putL]
  split <;> simp
/-- append(v, r...) onto bytes of the call's own. -/
theorem app_row (W : World) (ty : TypeId) (base : Nat) (v : Value) (xs ys : List Int) (A : Option Addr) (m c : Nat) (HO : OB W base v xs) (HR : ReadsInt W .u8 A m ys) (h0 : 0 < m) (hb : base ≤ W.heap.size) (hl : xs.length + m ≤ 1000000) :
    ∃ v' w', (Builtin.append_ #[40, 40] ty #[v, .slice A m c]).run Tryd.prog W = .ok v' w' ∧ OB w' base v' (xs ++ ys) ∧ W.grownBy w' v.ownBlock := by
  obtain ⟨i0, hi, hz0, hz1, hz2⟩ := info_parts info5
  have hm : ys.length = m := HR.1
  obtain ⟨ad, rfl, _⟩ := HR.2.2 h0
  have hcells : ∀ j u, (nums .u8 ys)[j]? = some u → W.cell? (ad.add j) = some u := by
    intro j u hu
    have hj : j < ys.length := by
      rcases Nat.lt_or_ge j ys.length with h | h
      · exact h
      · simp [nums, List.getElem?_eq_none h] at hu
    obtain ⟨ad', h', hc⟩ := HR.2.2 (by omega)
    injection h' with h'
    subst h'
    have := hc j (by omega)
    simp [nums, List.getElem?_eq_getElem hj] at hu
    subst hu
    rw [this]
    simp [List.getD_eq_getElem?_getD, List.getElem?_eq_getElem hj]
  obtain ⟨v1, w1, hr, h2, h3, _, h5⟩ := run_append_own_at (P := Tryd.prog) W base 40 ty 5 i0 (.int .u8 0) 1 1 Tryd.underlying40 hi hz0 hz1 hz2 rfl (by omega) v xs.length (nums .u8 xs) HO ad m c (nums .u8 ys) (by simp [nums, hm]) hcells
    (by intro u hu; simp only [nums, List.mem_map] at hu; obtain ⟨q, _, rfl⟩ := hu; rfl) (by simp only [maxLen]; omega) (by omega) hb
  refine ⟨v1, w1, hr, ?_, h3⟩
  unfold OB
  rw [List.length_append, hm]
  simpa [nums, hm] using h2
def T20_8 : Bool × List (List Nat × List Nat) := (true, [([], []), ([], []), ([1], [1]), ([2], [2]), ([3], [3]), ([4], [4]), ([0, 5, 5], [0, 5]), ([], []), ([7], [7]), ([6, 8, 6], [6, 8]), ([9, 9, 0, 1, 2, 3, 4, 5, 6, 7, 8, 9], [9])])
def B20_8 : List Nat := [0, 0, 2, 6, 14, 30, 63, 0, 128, 511, 1023]
theorem tab20_8 : rtab .any (opsOf Tryd.f20 8) = T20_8 := by kernel_rfl
theorem bits20_8 : waitsOk T20_8.2 B20_8 = true := by kernel_rfl
set_option maxRecDepth 100000 in
set_option maxHeartbeats 4000000 in
theorem RBytes_c (x : Va) (hx : okV x) (hs : x.s.size ≤ 10000) (w : World) :
    Calls Tryd.prog 20 #[x.c] w fun e w' => ∃ v', e = .returned v' ∧ OB w' w.heap.size v' (bytesV x) ∧ Below w.heap.size w w' := by
  obtain ⟨k, n, s⟩ := x
  obtain ⟨hx0, hx1⟩ := hx
  simp only at hx0 hx1 hs
  have HX0 := Lib.hid hx0; have HX1 := Lib.hid hx1; clear hx0 hx1
  have hbox : ∀ w1, Below (w.alloc (.cells #[.int .i64 k, .int .i64 n, .string s] 23)).heap.size (w.alloc (.cells #[.int .i64 k, .int .i64 n, .string s] 23)) w1 → w1.cell? ⟨w.heap.size, 0, none⟩ = some (.int .i64 k) ∧ w1.cell? ⟨w.heap.size, 1, none⟩ = some (.int .i64 n) ∧ w1.cell? ⟨w.heap.size, 2, none⟩ = some (.string s) := fun w1 h => by
    have hb : w1.heap[w.heap.size]? = some (.cells #[.int .i64 k, .int .i64 n, .string s] 23 (0, 0)) := (h.block _ (by rw [size_alloc]; omega)).trans (allocN w _)
    exact ⟨cellB hb 0, cellB hb 1, cellB hb 2⟩
  have HX := Lib.hid hbox; clear hbox
  obtain ⟨wa, hwa⟩ : ∃ wa, Hid (wa = w.alloc (.cells #[.int .i64 k, .int .i64 n, .string s] 23)) := ⟨_, rfl⟩
  rw [← hwa.out] at HX
  have hBa : Hid (Below w.heap.size w wa) := by rw [hwa.out]; exact (Below.refl _ w).alloc (Nat.le_refl _) _
  have hsz : Hid (wa.heap.size = w.heap.size + 1) := by rw [hwa.out]; exact size_alloc _ _
  unfold Va.c
  go_enter Tryd.func20, Tryd.ntmps20
  go_wp2_with fail
  change Calls _ _ _ (w.alloc (.cells #[.int .i64 k, .int .i64 n, .string s] 23)) _
  rw [← hwa.out]
  refine (RRight_c ⟨k, n, s⟩ _).mono ?_
  rintro e w2 ⟨rfl, hB⟩
  have HB2 := Lib.hid hB
  clear hB
  obtain ⟨c0, c1, c2⟩ := HX.out w2 HB2.out
  cases hr : rightB ⟨k, n, s⟩ with
  | false =>
    have e1 : Hid (bytesV ⟨k, n, s⟩ = []) := by show _ = _; unfold bytesV; rw [hr]; rfl
    clear hr
    go_wp2_with fail
    go_ret
    refine ⟨_, rfl, ?_, hBa.out.trans (HB2.out.mono (by have := hsz.out; omega))⟩
    rw [e1.out]
    exact World.ownsRow_nil _ _ _ _
  | true =>
    have hk := kinds_of hr
    simp only at hk
    have c3 : Hid (∀ y, Below wa.heap.size wa (w2.alloc (.cells #[.int .u8 y] 5)) ∧ OB (w2.alloc (.cells #[.int .u8 y] 5)) wa.heap.size (.slice (some ⟨w2.heap.size, 0, none⟩) 1 1) [y]) := fun y => ⟨HB2.out.alloc HB2.out.size _, OB_one w2 _ y HB2.out.size⟩
    rcases hk with rfl | rfl | rfl
    · have e1 : Hid (bytesV ⟨1, n, s⟩ = 1 :: putL (zigN n)) := by show _ = _; unfold bytesV; rw [hr]; rfl
      clear hr
      have c4 := Lib.hid (c3.out 1); clear c3
      obtain ⟨d0, d1, d2⟩ := HX.out _ c4.out.1
      go_wp2_with fail
      refine (RZig_c n HX0.out HX1.out _).mono ?_
      rintro e w3 ⟨rfl, hB⟩
      have K1 := Lib.hid (c4.out.2.below (hB.mono (Nat.le_refl _)))
      have K2 := Lib.hid (c4.out.1.trans (hB.mono c4.out.1.size))
      clear hB d0 d1 d2
      go_wp2_with fail
      refine (RPut_c (zigN n) (zigN_lt n HX0.out HX1.out) _).mono ?_
      rintro e w4 ⟨A3, c3, rfl, hR, hB⟩
      have K3 := Lib.hid (K1.out.below (hB.mono (Nat.le_refl _)))
      have K4 := Lib.hid (K2.out.trans (hB.mono K2.out.size))
      have R3 := Lib.hid hR
      have hpl := putL_len (zigN n) (zigN_lt n HX0.out HX1.out)
      clear hB hR K1 K2
      obtain ⟨ps, hps⟩ : ∃ ps, Hid (ps = putL (zigN n)) := ⟨_, Lib.hid rfl⟩
      rw [← hps.out] at R3 hpl e1 ⊢
      go_wp2_with (at_builtin; refine print_append_row (w0 := wa) wa.heap.size rfl _ _ 40 5 .u8 1 rfl Tryd.underlying40 info5 (by decide) (.slice (some ⟨w2.heap.size, 0, none⟩) 1 1) [1] ps A3 ps.length c3 rfl rfl K3.out R3.out K4.out K4.out.size (by simp; omega) ?_)
      intro v5 w5 h1 h2 h3 h4
      have K5 : Hid (OB w5 wa.heap.size v5 ([1] ++ ps)) := h1
      have K6 : Hid (Below wa.heap.size wa w5) := h2
      clear h1 h2 h3 h4
      go_wp2_with fail
      go_ret
      exact ⟨v5, rfl, by rw [e1.out]; exact K5.out.lower (by have := hsz.out; omega), hBa.out.trans (K6.out.mono (by have := hsz.out; omega))⟩
    · have e1 : Hid (bytesV ⟨2, n, s⟩ = [2, n]) := by show _ = _; unfold bytesV; rw [hr]; rfl
      have hn01 : Hid (n = 0 ∨ n = 1) := bool_of hr
      clear hr
      have hw : IntKind.u8.wrap n = n := by rw [IntKind.wrap_u8]; have := hn01.out; omega
      have c4 := Lib.hid (c3.out 2); clear c3
      obtain ⟨d0, d1, d2⟩ := HX.out _ c4.out.1
      go_wp2_with (at_builtin; refine print_append_num (w0 := wa) wa.heap.size rfl _ _ 40 5 .u8 1 rfl Tryd.underlying40 info5 (by decide) (.slice (some ⟨w2.heap.size, 0, none⟩) 1 1) [2] n rfl (by first | rfl | (simp [size_alloc]; done) | (go_simp; done) | (go_simp; simp [size_alloc]; done) | trace_state) c4.out.2 c4.out.1 c4.out.1.size (by simp) ?_)
      intro v5 w5 h1 h2 h3 h4
      have K5 : Hid (OB w5 wa.heap.size v5 ([2] ++ [n])) := h1
      have K6 : Hid (Below wa.heap.size wa w5) := h2
      clear h1 h2 h3 h4
      go_wp2_with fail
      go_ret
      exact ⟨v5, rfl, by rw [e1.out]; exact K5.out.lower (by have := hsz.out; omega), hBa.out.trans (K6.out.mono (by have := hsz.out; omega))⟩
    · have e1 : Hid (bytesV ⟨3, n, s⟩ = 3 :: (putL s.size ++ bytesOf s)) := by show _ = _; unfold bytesV; rw [hr]; rfl
      clear hr
      have c4 := Lib.hid (c3.out 3); clear c3
      obtain ⟨d0, d1, d2⟩ := HX.out _ c4.out.1
      have hw64 : IntKind.u64.wrap (s.size : Int) = (s.size : Int) := by rw [IntKind.wrap_u64]; omega
      have hpl := putL_len s.size (by omega)
      have EY : Hid (∀ w', Below wa.heap.size wa w' → w'.cell? ⟨w.heap.size, 2, none⟩ = some (.string s)) := fun w' h => (HX.out w' h).2.2
      go_wp2_with fail
      clear d0 d1 d2
      generalize hwb : w2.alloc (.cells #[.int .u8 3] 5) = wb at c4 ⊢
      clear hwb
      have HO := Lib.hid c4.out.2
      have HB := Lib.hid c4.out.1
      clear c4
      refine start_ (n := 11) (S := (fun w' => Below wa.heap.size wa w')) (ds := []) #[false, false, false, false, false, false, false, false, false, false, false] (by kernel_rfl) (by rfl) (by rfl) (Below_drewN HB.out 1) (fun hHeld => ?_); refine with_tabW tab20_8 bits20_8 (fun HT_ HW_ => ?_)
      generalize hgen_ : wb.drew = wq at hHeld ⊢
      have HO2 : Hid (OB wq wa.heap.size (.slice (some ⟨w2.heap.size, 0, none⟩) 1 1) [3]) := (by rw [← hgen_]; exact HO.out.below (Below_drewN (Below.refl _ _) 1)); clear hgen_
      refine pure_ (i := 0) (N := some 29) (v := ?_) (a' := ?_) #[true, false, false, false, false, false, false, false, false, false, false] rfl rfl (any_of HT_.out (by kernel_rfl)) (fun _ _ _ h => h) (Or.inl ⟨by rfl, ?_⟩) ?_ ?_
      rotate_left
      · intro w'
        go_simp
        with_reducible rfl
      rotate_left
      · simp only [Act.put, List.setIfInBounds_toArray, List.set_cons_zero, List.set_cons_succ]
        rfl
      refine pure_ (i := 1) (N := some 30) (v := ?_) (a' := ?_) #[true, true, false, false, false, false, false, false, false, false, false] rfl rfl (any_of HT_.out (by kernel_rfl)) (fun _ _ _ h => h) (Or.inl ⟨by rfl, ?_⟩) ?_ ?_
      rotate_left
      · intro w'
        go_simp
        with_reducible rfl
      rotate_left
      · simp only [Act.put, List.setIfInBounds_toArray, List.set_cons_zero, List.set_cons_succ]
        rfl
      refine take_ (i := 2) (N := some 31) (v := ?_) (a' := ?_) #[true, true, true, false, false, false, false, false, false, false, false] rfl rfl (take_ofW HT_.out HW_.out (by kernel_rfl)) (fun _ _ _ h => h) (Or.inl ⟨by rfl, ?_⟩) hHeld ?_ ?_
      rotate_left
      · rintro w' hS; have s2 := EY.out w' hS
        go_simp
        with_reducible rfl
      rotate_left
      · simp only [Act.put, List.setIfInBounds_toArray, List.set_cons_zero, List.set_cons_succ]
        rfl
      refine pure_ (i := 3) (N := some 32) (v := ?_) (a' := ?_) #[true, true, true, true, false, false, false, false, false, false, false] rfl rfl (any_of HT_.out (by kernel_rfl)) (fun _ _ _ h => h) (Or.inl ⟨by rfl, ?_⟩) ?_ ?_
      rotate_left
      · intro w'
        go_simp
        with_reducible rfl
      rotate_left
      · simp only [Act.put, List.setIfInBounds_toArray, List.set_cons_zero, List.set_cons_succ]
        rfl
      refine pure_ (i := 4) (N := some 33) (v := ?_) (a' := ?_) #[true, true, true, true, true, false, false, false, false, false, false] rfl rfl (any_of HT_.out (by kernel_rfl)) (fun _ _ _ h => h) (Or.inl ⟨by rfl, ?_⟩) ?_ ?_
      rotate_left
      · intro w'
        go_simp
        with_reducible rfl
      rotate_left
      · simp only [Act.put, List.setIfInBounds_toArray, List.set_cons_zero, List.set_cons_succ]
        rfl
      refine pure_ (i := 7) (N := some 36) (v := ?_) (a' := ?_) #[true, true, true, true, true, false, false, true, false, false, false] rfl rfl (any_of HT_.out (by kernel_rfl)) (fun _ _ _ h => h) (Or.inl ⟨by rfl, ?_⟩) ?_ ?_
      rotate_left
      · intro w'
        go_simp
        with_reducible rfl
      rotate_left
      · simp only [Act.put, List.setIfInBounds_toArray, List.set_cons_zero, List.set_cons_succ]
        rfl
      refine take_ (i := 8) (N := some 37) (v := ?_) (a' := ?_) #[true, true, true, true, true, false, false, true, true, false, false] rfl rfl (take_ofW HT_.out HW_.out (by kernel_rfl)) (fun _ _ _ h => h) (Or.inl ⟨by rfl, ?_⟩) hHeld ?_ ?_
      rotate_left
      · rintro w' hS; have s2 := EY.out w' hS
        go_simp
        with_reducible rfl
      rotate_left
      · simp only [Act.put, List.setIfInBounds_toArray, List.set_cons_zero, List.set_cons_succ]
        rfl
      refine one_ (i := 5) (N := some 34) #[true, true, true, true, true, true, false, true, true, false, false] rfl rfl (one_of HT_.out (by kernel_rfl)) (by decide) (fun K hK => ?_)
      rw [if_pos (by rfl)]
      go_simp
      (try rw [hw64]); refine (RPut_c s.size (by omega) _).mono ?_; rintro e w5 ⟨A3, c3, rfl, hR, hb⟩; have hO5 := Lib.hid (HO2.out.below hb)
      refine hK.out _ _ (hHeld.trans (hb.mono hHeld.size)) (fun hHeld => ?_)
      clear hK K
      refine one_ (i := 6) (N := some 35) #[true, true, true, true, true, true, true, true, true, false, false] rfl rfl (one_of HT_.out (by kernel_rfl)) (by decide) (fun K hK => ?_)
      obtain ⟨v6, w6, h6, hO6, hG6⟩ := app_row w5 40 wa.heap.size (.slice (some ⟨w2.heap.size, 0, none⟩) 1 1) [3] (putL s.size) A3 (putL s.size).length c3 hO5.out hR (putL_pos _) hHeld.size (by simp; omega); refine step_app (by rfl) _ _ _ _ rfl _ _ rfl rfl h6 ?_
      refine hK.out _ _ (hHeld.grown hG6 hHeld.size hO5.out.own) (fun hHeld => ?_)
      clear hK K
      refine one_ (i := 9) (N := some 38) #[true, true, true, true, true, true, true, true, true, true, false] rfl rfl (one_of HT_.out (by kernel_rfl)) (by decide) (fun K hK => ?_)
      obtain ⟨v7, w7, h7, hO7, hG7⟩ := app_str w6 40 wa.heap.size v6 ([3] ++ putL s.size) s hO6 hHeld.size (by simp; omega); refine step_app (by rfl) _ _ _ _ rfl _ _ rfl rfl h7 ?_
      refine hK.out _ _ (hHeld.grown hG7 hHeld.size hO6.own) (fun hHeld => ?_)
      clear hK K
      refine pure_ (i := 10) (N := some 2) (v := ?_) (a' := ?_) #[true, true, true, true, true, true, true, true, true, true, true] rfl rfl (any_of HT_.out (by kernel_rfl)) (fun _ _ _ h => h) (Or.inl ⟨by rfl, ?_⟩) ?_ ?_
      rotate_left
      · intro w'
        go_simp
        with_reducible rfl
      rotate_left
      · simp only [Act.put, List.setIfInBounds_toArray, List.set_cons_zero, List.set_cons_succ]
        rfl
      refine done_ (done_of HT_.out (by kernel_rfl)) ?_
      clear HT_ HW_
      have K6 := Lib.hid hHeld; clear hHeld; go_wp2_with fail; go_ret; exact ⟨v7, by first | rfl | (simp; done), by rw [e1.out]; have := hO7; rw [List.append_assoc] at this; exact this.lower (by have := hsz.out; omega), hBa.out.trans (K6.out.mono (by have := hsz.out; omega))⟩
end Go.Proofs.YtcglhpagimkajaaDoor.Vl
set_option linter.unusedVariables false
set_option linter.unusedSimpArgs false
namespace Go.Proofs.YtcglhpagimkajaaDoor.Vl
open Go.RowKit Go.Proofs.YtcglhpagimkajaaDoor.B0 Go.Proofs.YtcglhpagimkajaaDoor.Pv Go.Proofs.YtcglhpagimkajaaDoorW.PrintWords

theorem andNot128 (a : Nat) (h : a < 256) : Go.bits .andNot .u8 (a : Int) 128 = ((a % 128 : Nat) : Int) := by
  have key : (List.range 256).all (fun a => Go.bits .andNot .u8 (a : Int) 128 == ((a % 128 : Nat) : Int)) = true := by kernel_rfl
  have := List.all_eq_true.1 key a (List.mem_range.2 h)
  simpa using this
theorem and128 (a : Nat) (h : a < 256) : Go.bits .and .u8 (a : Int) 128 = if a < 128 then 0 else 128 := by
  have key : (List.range 256).all (fun a => Go.bits .and .u8 (a : Int) 128 == if a < 128 then 0 else 128) = true := by kernel_rfl
  have := List.all_eq_true.1 key a (List.mem_range.2 h)
  simpa using this
theorem bitLen128 (c : Nat) (h : c < 128) : Lib.bitLen c ≤ 7 ∧ (1 < Lib.bitLen c ↔ 1 < c) := by
  have key : (List.range 128).all (fun c => decide (Lib.bitLen c ≤ 7) && (decide (1 < Lib.bitLen c) == decide (1 < c))) = true := by kernel_rfl
  have := List.all_eq_true.1 key c (List.mem_range.2 h)
  simpa using this
theorem or_shl (n c i : Nat) (hn : n < 2 ^ (7 * i)) (hi : i ≤ 9) (hc : n + c * 2 ^ (7 * i) < 2 ^ 64) : Go.bits .or .u64 (n : Int) (shl .u64 (c : Int) ((7 * i : Nat) : Int)) = ((n + c * 2 ^ (7 * i) : Nat) : Int) := by
  have e1 : shl .u64 (c : Int) ((7 * i : Nat) : Int) = ((c * 2 ^ (7 * i) : Nat) : Int) := by
    unfold shl
    rw [show min (((7 * i : Nat) : Int).toNat) IntKind.u64.bits = 7 * i from by rw [Int.toNat_natCast]; exact Nat.min_eq_left (show 7 * i ≤ 64 by omega), IntKind.wrap_u64]
    have e : (c : Int) * 2 ^ (7 * i) = ((c * 2 ^ (7 * i) : Nat) : Int) := by push_cast; rfl
    rw [e]
    generalize c * 2 ^ (7 * i) = X at *
    omega
  rw [e1]
  simp only [Go.bits, BitVec.ofInt_natCast, BitVec.toNat_or, BitVec.toNat_ofNat]
  have h1 : n % 2 ^ IntKind.u64.bits = n := Nat.mod_eq_of_lt (show n < 2 ^ 64 by omega)
  have h2 : c * 2 ^ (7 * i) % 2 ^ IntKind.u64.bits = c * 2 ^ (7 * i) := Nat.mod_eq_of_lt (show c * 2 ^ (7 * i) < 2 ^ 64 by omega)
  rw [h1, h2]
  have h3 : n ||| c * 2 ^ (7 * i) = n + c * 2 ^ (7 * i) := by
    have := Nat.shiftLeft_add_eq_or_of_lt hn c
    rw [Nat.shiftLeft_eq] at this
    rw [Nat.or_comm, ← this]; omega
  rw [h3, IntKind.wrap_u64]
  omega

theorem guard_iff (i B c : Nat) (h9 : i ≤ 9) (h7 : B ≤ 7) (h1 : 1 < B ↔ 1 < c) : (B : Int) + ((7 * i : Nat) : Int) > 64 ↔ (10 ≤ i ∨ (i = 9 ∧ 1 < c)) := by
  constructor
  · intro h
    have e : i = 9 := by omega
    exact Or.inr ⟨e, h1.1 (by omega)⟩
  · rintro (h | ⟨h, hc⟩)
    · omega
    · have := h1.2 hc
      omega
/-- a number's bytes, read. -/
def getG : List Int → Nat → Nat → Int × Int × Int
  | [], _, _ => (0, 0, 10)
  | b :: bs, i, n => if 10 ≤ i ∨ (i = 9 ∧ 1 < b.toNat % 128) then (0, 0, 11) else if b < 128 then (if 0 < i ∧ b = 0 then (0, 0, 11) else (((n + b.toNat % 128 * 2 ^ (7 * i) : Nat) : Int), (i : Int) + 1, 0)) else getG bs (i + 1) (n + b.toNat % 128 * 2 ^ (7 * i))
def isBytes (l : List Int) : Prop := ∀ b ∈ l, 0 ≤ b ∧ b < 256
theorem rd_at (l : List Int) (i : Nat) (h : i < l.length) : rd l (i : Int) = l[i] := by
  unfold rd
  rw [Int.toNat_natCast, List.getD_eq_getElem?_getD, List.getElem?_eq_getElem h]; rfl
theorem step_n (n c i : Nat) (hn : n < 2 ^ (7 * i)) (hc : c < 128) : n + c * 2 ^ (7 * i) < 2 ^ (7 * (i + 1)) := by
  have h1 : 2 ^ (7 * (i + 1)) = 2 ^ (7 * i) * 128 := by rw [Nat.mul_succ, Nat.pow_add]
  rw [h1]
  have h2 : c * 2 ^ (7 * i) ≤ 127 * 2 ^ (7 * i) := Nat.mul_le_mul_right _ (by omega)
  omega
theorem step_64 (n c i : Nat) (hn : n < 2 ^ (7 * i)) (hc : c < 128) (hi : i ≤ 9) (h9 : ¬ (i = 9 ∧ 1 < c)) : n + c * 2 ^ (7 * i) < 2 ^ 64 := by
  by_cases h : i = 9
  · subst h
    have : c ≤ 1 := by omega
    have h2 : c * 2 ^ (7 * 9) ≤ 1 * 2 ^ (7 * 9) := Nat.mul_le_mul_right _ this
    omega
  · have h1 := step_n n c i hn hc
    have h2 : 2 ^ (7 * (i + 1)) ≤ 2 ^ (7 * 9) := Nat.pow_le_pow_right (by decide) (by omega)
    omega
set_option maxHeartbeats 1000000 in
theorem vget_l0 (l : List Int) (hb : isBytes l) (hl : l.length < 1000000) : ∀ (m i n : Nat), i + m = l.length → i ≤ 10 → n < 2 ^ (7 * i) → varint_Get.l0 (2 * m + 1) n l l.length i = some (getG (l.drop i) i n) := by
  intro m
  induction m with
  | zero =>
    intro i n hi _ _
    rw [varint_Get.l0, if_neg (by omega), List.drop_eq_nil_of_le (by omega)]
    rfl
  | succ m ih =>
    intro i n hi h10 hn
    have hlt : i < l.length := by omega
    have hr := rd_at l i hlt
    have hm := hb l[i] (List.getElem_mem hlt)
    obtain ⟨a, ha⟩ : ∃ a : Nat, l[i] = (a : Int) := ⟨l[i].toNat, by omega⟩
    have ha2 : a < 256 := by omega
    rw [List.drop_eq_getElem_cons hlt, getG, ha, Int.toNat_natCast]
    rw [ha] at hr
    have hw : wrap64 (7 * (i : Int)) = ((7 * i : Nat) : Int) := by unfold wrap64; omega
    have hw1 : wrap64 ((i : Int) + 1) = ((i + 1 : Nat) : Int) := by unfold wrap64; omega
    have hc : IntKind.u64.wrap (Go.bits .andNot .u8 (a : Int) 128) = ((a % 128 : Nat) : Int) := by rw [andNot128 a ha2, IntKind.wrap_u64]; omega
    have hc128 : a % 128 < 128 := Nat.mod_lt _ (by decide)
    have hkk : 2 * (m + 1) + 1 = 2 * m + 1 + 1 + 1 := by omega
    rw [hkk, varint_Get.l0, if_pos (show (i : Int) < (l.length : Int) by omega), if_pos (show (0 : Int) ≤ (i : Int) by omega), if_pos (show (i : Int) < (l.length : Int) by omega), hr, hc, hw]
    have hB := bitLen128 (a % 128) hc128
    have hq : (if ((7 * i : Nat) : Int) > 63 then varint_Get.j1 (2 * m + 1 + 1) n i a ((a % 128 : Nat) : Int) l l.length i true else (bits_Len64.f (2 * m + 1 + 1) ((a % 128 : Nat) : Int)).bind fun t158 => varint_Get.j1 (2 * m + 1 + 1) n i a ((a % 128 : Nat) : Int) l l.length i (decide (wrap64 (t158 + ((7 * i : Nat) : Int)) > 64))) = varint_Get.j1 (2 * m + 1 + 1) n i a ((a % 128 : Nat) : Int) l l.length i (decide (10 ≤ i ∨ (i = 9 ∧ 1 < a % 128))) := by
      by_cases h : i = 10
      · rw [if_pos (by omega), decide_eq_true (Or.inl (by omega))]
      · rw [if_neg (by omega), bits_Len64.f, if_pos (by omega), Option.bind_some, Int.toNat_natCast]
        congr 1
        rw [decide_eq_decide]
        have : wrap64 ((Lib.bitLen (a % 128) : Int) + ((7 * i : Nat) : Int)) = (Lib.bitLen (a % 128) : Int) + ((7 * i : Nat) : Int) := by unfold wrap64; omega
        rw [this]
        exact guard_iff i _ _ (by omega) hB.1 hB.2
    rw [hq, varint_Get.j1]
    by_cases hF : 10 ≤ i ∨ (i = 9 ∧ 1 < a % 128)
    · rw [if_pos (by simpa using hF), if_pos hF]
    · rw [if_neg (by simpa using hF), if_neg hF, hw, if_pos (show (0 : Int) ≤ ((7 * i : Nat) : Int) by omega), and128 a ha2, or_shl n (a % 128) i hn (by omega) (step_64 n _ i hn hc128 (by omega) (by omega)), hw1]
      by_cases h1 : a < 128
      · rw [if_pos h1, if_pos rfl, if_pos (show (a : Int) < 128 by omega)]
        by_cases h0 : a = 0
        · rw [if_pos (show (a : Int) = 0 by omega)]
          by_cases hi0 : 0 < i
          · rw [if_pos (show (i : Int) > 0 by omega), if_pos (show 0 < i ∧ (a : Int) = 0 from ⟨hi0, by omega⟩)]
          · rw [if_neg (show ¬ (i : Int) > 0 by omega), if_neg (show ¬ (0 < i ∧ (a : Int) = 0) by omega), Int.natCast_add]; rfl
        · rw [if_neg (show ¬ (a : Int) = 0 by omega), if_neg (show ¬ (0 < i ∧ (a : Int) = 0) by omega), Int.natCast_add]; rfl
      · rw [if_neg h1, if_neg (show ¬ (128 : Int) = 0 by decide), if_neg (show ¬ (a : Int) < 128 by omega)]
        exact ih (i + 1) _ (by omega) (by omega) (step_n n _ i hn hc128)
set_option maxHeartbeats 1000000 in
theorem rget_l0 (l : List Int) (hb : isBytes l) (hl : l.length < 1000000) : ∀ (m i n : Nat), i + m = l.length → i ≤ 10 → n < 2 ^ (7 * i) → tallyroomref01_Get.l0 (2 * m + 1) l n (IntKind.u64.wrap ((2 ^ (7 * i) : Nat) : Int)) i = some (getG (l.drop i) i n) := by
  intro m
  induction m with
  | zero =>
    intro i n hi _ _
    rw [tallyroomref01_Get.l0, if_neg (by omega), List.drop_eq_nil_of_le (by omega)]
    rfl
  | succ m ih =>
    intro i n hi h10 hn
    have hlt : i < l.length := by omega
    have hr := rd_at l i hlt
    have hm := hb l[i] (List.getElem_mem hlt)
    obtain ⟨a, ha⟩ : ∃ a : Nat, l[i] = (a : Int) := ⟨l[i].toNat, by omega⟩
    have ha2 : a < 256 := by omega
    rw [List.drop_eq_getElem_cons hlt, getG, ha, Int.toNat_natCast]
    rw [ha] at hr
    have hw1 : wrap64 ((i : Int) + 1) = ((i + 1 : Nat) : Int) := by unfold wrap64; omega
    have hc : IntKind.u64.wrap (Int.tmod (a : Int) 128) = ((a % 128 : Nat) : Int) := by rw [Int.tmod_eq_emod_of_nonneg (by omega), IntKind.wrap_u64]; omega
    have hc128 : a % 128 < 128 := Nat.mod_lt _ (by decide)
    have hkk : 2 * (m + 1) + 1 = 2 * m + 1 + 1 + 1 := by omega
    generalize hP : IntKind.u64.wrap ((2 ^ (7 * i) : Nat) : Int) = P
    rw [hkk, tallyroomref01_Get.l0, if_pos (show (i : Int) < (l.length : Int) by omega), if_pos (show (0 : Int) ≤ (i : Int) by omega), hr, hc]
    have hq : (if (i : Int) = 10 then tallyroomref01_Get.j1 (2 * m + 1 + 1) l n P i ((a % 128 : Nat) : Int) true else if (i : Int) = 9 then tallyroomref01_Get.j1 (2 * m + 1 + 1) l n P i ((a % 128 : Nat) : Int) (decide (((a % 128 : Nat) : Int) > 1)) else tallyroomref01_Get.j1 (2 * m + 1 + 1) l n P i ((a % 128 : Nat) : Int) false) = tallyroomref01_Get.j1 (2 * m + 1 + 1) l n P i ((a % 128 : Nat) : Int) (decide (10 ≤ i ∨ (i = 9 ∧ 1 < a % 128))) := by
      by_cases h : i = 10
      · rw [if_pos (by omega), decide_eq_true (Or.inl (by omega))]
      · rw [if_neg (by omega)]
        by_cases h9 : i = 9
        · rw [if_pos (by omega)]
          congr 1
          rw [decide_eq_decide]
          omega
        · rw [if_neg (by omega), decide_eq_false (by omega)]
    rw [hq, tallyroomref01_Get.j1]
    by_cases hF : 10 ≤ i ∨ (i = 9 ∧ 1 < a % 128)
    · rw [if_pos (by simpa using hF), if_pos hF]
    · have h64 := step_64 n (a % 128) i hn hc128 (by omega) (by omega)
      have hp : 2 ^ (7 * i) ≤ 2 ^ 63 := Nat.pow_le_pow_right (by decide) (by omega)
      have hP2 : P = ((2 ^ (7 * i) : Nat) : Int) := by rw [← hP, IntKind.wrap_u64]; generalize 2 ^ (7 * i) = X at *; omega
      have hacc : IntKind.u64.wrap ((n : Int) + IntKind.u64.wrap (((a % 128 : Nat) : Int) * P)) = ((n + a % 128 * 2 ^ (7 * i) : Nat) : Int) := by
        have e : ((a % 128 : Nat) : Int) * P = ((a % 128 * 2 ^ (7 * i) : Nat) : Int) := by rw [hP2]; push_cast; rfl
        rw [e, IntKind.wrap_u64, IntKind.wrap_u64]
        generalize a % 128 * 2 ^ (7 * i) = X at *
        omega
      have hnx : IntKind.u64.wrap (P * 128) = IntKind.u64.wrap ((2 ^ (7 * (i + 1)) : Nat) : Int) := by
        have h1 : 2 ^ (7 * (i + 1)) = 2 ^ (7 * i) * 128 := by rw [Nat.mul_succ, Nat.pow_add]
        rw [hP2, h1]
        congr 1
      rw [if_neg (by simpa using hF), if_neg hF, if_pos (show (0 : Int) ≤ (i : Int) by omega), if_pos (show (i : Int) < (l.length : Int) by omega), hr, hacc, hw1]
      by_cases h1 : a < 128
      · rw [if_pos (show (a : Int) < 128 by omega), if_pos (show (a : Int) < 128 by omega)]
        by_cases hi0 : 0 < i
        · rw [if_pos (show (i : Int) > 0 by omega)]
          by_cases h0 : a = 0
          · rw [if_pos (show (a : Int) = 0 by omega), if_pos (show 0 < i ∧ (a : Int) = 0 from ⟨hi0, by omega⟩)]
          · rw [if_neg (show ¬ (a : Int) = 0 by omega), if_neg (show ¬ (0 < i ∧ (a : Int) = 0) by omega), Int.natCast_add]; rfl
        · rw [if_neg (show ¬ (i : Int) > 0 by omega), if_neg (show ¬ (0 < i ∧ (a : Int) = 0) by omega), Int.natCast_add]; rfl
      · rw [if_neg (show ¬ (a : Int) < 128 by omega), if_neg (show ¬ (a : Int) < 128 by omega), hnx]
        exact ih (i + 1) _ (by omega) (by omega) (step_n n _ i hn hc128)
theorem vget_f (l : List Int) (hb : isBytes l) (hl : l.length < 1000000) : varint_Get.f (2 * l.length + 1) l = some (getG l 0 0) := by
  unfold varint_Get.f
  exact vget_l0 l hb hl l.length 0 0 (by omega) (by omega) (by decide)
theorem rget_f (l : List Int) (hb : isBytes l) (hl : l.length < 1000000) : tallyroomref01_Get.f (2 * l.length + 1) l = some (getG l 0 0) := by
  unfold tallyroomref01_Get.f
  exact rget_l0 l hb hl l.length 0 0 (by omega) (by omega) (by decide)
end Go.Proofs.YtcglhpagimkajaaDoor.Vl
set_option linter.unusedVariables false
set_option linter.unusedSimpArgs false
namespace Go.Proofs.YtcglhpagimkajaaDoor.Vl
open Go.RowKit Go.Proofs.YtcglhpagimkajaaDoor.B0 Go.Proofs.YtcglhpagimkajaaDoor.Pv Go.Proofs.YtcglhpagimkajaaDoorW.PrintWords

theorem and_one (a : Nat) (h : a < 2 ^ 64) : Go.bits .and .u64 (a : Int) 1 = ((a % 2 : Nat) : Int) := by
  have e : (1 : Int) = ((1 : Nat) : Int) := rfl
  rw [e]
  simp only [Go.bits, BitVec.ofInt_natCast, BitVec.toNat_and, BitVec.toNat_ofNat]
  have h1 : a % 2 ^ IntKind.u64.bits = a := Nat.mod_eq_of_lt h
  have h2 : 1 % 2 ^ IntKind.u64.bits = 1 := by kernel_rfl
  rw [h1, h2, Nat.and_one_is_mod, IntKind.wrap_u64]
  omega
theorem xor_zeroI (a : Nat) (h : a < 2 ^ 63) : Go.bits .xor .i64 (a : Int) 0 = (a : Int) := by
  have e : (0 : Int) = ((0 : Nat) : Int) := rfl
  rw [e]
  simp only [Go.bits, BitVec.ofInt_natCast, BitVec.toNat_xor, BitVec.toNat_ofNat]
  have : a % 2 ^ IntKind.i64.bits = a := Nat.mod_eq_of_lt (show a < 2 ^ 64 by omega)
  rw [this]
  simp
  rw [IntKind.wrap_i64]; omega
theorem xor_onesI (a : Nat) (h : a < 2 ^ 63) : Go.bits .xor .i64 (a : Int) (-1) = -(a : Int) - 1 := by
  simp only [Go.bits, BitVec.ofInt_natCast]
  have e2 : (BitVec.ofInt IntKind.i64.bits (-1)) = BitVec.allOnes IntKind.i64.bits := by kernel_rfl
  rw [e2, BitVec.xor_allOnes, BitVec.toNat_not, BitVec.toNat_ofNat]
  have : a % 2 ^ IntKind.i64.bits = a := Nat.mod_eq_of_lt (show a < 2 ^ 64 by omega)
  rw [this]
  have e3 : (2 : Nat) ^ IntKind.i64.bits = 2 ^ 64 := rfl
  rw [e3]
  rw [IntKind.wrap_i64]; omega
def zagN (m : Nat) : Int := if m % 2 = 1 then -((m / 2 : Nat) : Int) - 1 else ((m / 2 : Nat) : Int)
theorem zag_f (m : Nat) (h : m < 2 ^ 64) : varint_Zag.f m = some (zagN m) := by
  unfold varint_Zag.f zagN
  have e1 : wrap64 ((m : Int) / 2) = ((m / 2 : Nat) : Int) := by unfold wrap64; omega
  rw [and_one m h, e1]
  by_cases hm : m % 2 = 1
  · have e2 : wrap64 (-(wrap64 ((m % 2 : Nat) : Int))) = -1 := by rw [hm]; kernel_rfl
    rw [e2, xor_onesI _ (by omega), if_pos hm]
  · have h0 : m % 2 = 0 := by omega
    have e2 : wrap64 (-(wrap64 ((m % 2 : Nat) : Int))) = 0 := by rw [h0]; kernel_rfl
    rw [e2, xor_zeroI _ (by omega), if_neg hm]
theorem zag_zig (n : Int) : zagN (zigN n) = n := by
  unfold zagN zigN
  split <;> split <;> omega
theorem Zag_c (m : Nat) (h : m < 2 ^ 64) (w : World) : Calls Tryd.prog 37 #[.int .u64 m] w fun e w' => e = .returned (.int .i64 (zagN m)) ∧ Below w.heap.size w w' :=
  (varint_Zag.calls m _ w (zag_f m h)).mono fun e w' ⟨he, hd⟩ => ⟨he, hd.below⟩
theorem VGet_c (w : World) (A : Option Addr) (c : Nat) (l : List Int) (hr : ReadsInt w .u8 A l.length l) (hc : l.length ≤ c) (hb : isBytes l) (hl : l.length < 1000000) :
    Calls Tryd.prog 36 #[.slice A l.length c] w fun e w' => e = .returned (.tuple #[.int .u64 (getG l 0 0).1, .int .i64 (getG l 0 0).2.1, .int .i64 (getG l 0 0).2.2]) ∧ Below w.heap.size w w' :=
  (varint_Get.calls (2 * l.length + 1) A c l _ _ _ w (Kd.C_of_reads hr) hc (vget_f l hb hl)).mono fun e w' ⟨he, hd⟩ => ⟨he, hd.below⟩
theorem RGet_c (w : World) (A : Option Addr) (c : Nat) (l : List Int) (hr : ReadsInt w .u8 A l.length l) (hc : l.length ≤ c) (hb : isBytes l) (hl : l.length < 1000000) :
    Calls Tryd.prog 38 #[.slice A l.length c] w fun e w' => e = .returned (.tuple #[.int .u64 (getG l 0 0).1, .int .i64 (getG l 0 0).2.1, .int .i64 (getG l 0 0).2.2]) ∧ Below w.heap.size w w' :=
  (tallyroomref01_Get.calls (2 * l.length + 1) A c l _ _ _ w (Kd.C_of_reads hr) hc (rget_f l hb hl)).mono fun e w' ⟨he, hd⟩ => ⟨he, hd.below⟩
end Go.Proofs.YtcglhpagimkajaaDoor.Vl
set_option linter.unusedVariables false
set_option linter.unusedSimpArgs false
namespace Go.Proofs.YtcglhpagimkajaaDoor.Vl
open Go.RowKit Go.Proofs.YtcglhpagimkajaaDoor.B0 Go.Proofs.YtcglhpagimkajaaDoor.Pv Go.Proofs.YtcglhpagimkajaaDoorW.PrintWords

theorem not_far (n i acc : Nat) (h : acc + n * 2 ^ (7 * i) < 2 ^ 64) (hn : 0 < n) : ¬ (10 ≤ i) := by
  intro h10
  have h1 : 2 ^ 70 ≤ 2 ^ (7 * i) := Nat.pow_le_pow_right (by decide) (by omega)
  have h2 : 2 ^ (7 * i) ≤ n * 2 ^ (7 * i) := Nat.le_mul_of_pos_left _ hn
  generalize n * 2 ^ (7 * i) = X at *
  generalize 2 ^ (7 * i) = Y at *
  omega
theorem not_nine (n i acc : Nat) (h : acc + n * 2 ^ (7 * i) < 2 ^ 64) (h9 : i = 9) : n ≤ 1 := by
  subst h9
  have e : 2 ^ (7 * 9) = 9223372036854775808 := by decide
  rw [e] at h
  omega
theorem putL_step (n i acc : Nat) : acc + n % 128 * 2 ^ (7 * i) + n / 128 * 2 ^ (7 * (i + 1)) = acc + n * 2 ^ (7 * i) := by
  have h1 : 2 ^ (7 * (i + 1)) = 128 * 2 ^ (7 * i) := by rw [Nat.mul_succ, Nat.pow_add, Nat.mul_comm]
  have h2 : n * 2 ^ (7 * i) = n % 128 * 2 ^ (7 * i) + n / 128 * (128 * 2 ^ (7 * i)) := by
    rw [← Nat.mul_assoc, ← Nat.add_mul]
    congr 1; omega
  rw [h1, h2, Nat.add_assoc]
theorem getG_putL (rest : List Int) : ∀ (n i acc : Nat), acc + n * 2 ^ (7 * i) < 2 ^ 64 → (0 < i → 0 < n) → i ≤ 9 → getG (putL n ++ rest) i acc = (((acc + n * 2 ^ (7 * i) : Nat) : Int), (i : Int) + (putL n).length, 0) := by
  intro n
  induction n using Nat.strongRecOn with
  | ind n ih =>
    intro i acc h hi h9
    rw [putL]
    by_cases hn : n < 128
    · have hm : n % 128 = n := Nat.mod_eq_of_lt hn
      have hF : ¬ (10 ≤ i ∨ (i = 9 ∧ 1 < n)) := by
        rintro (h1 | ⟨h1, h2⟩)
        · omega
        · have := not_nine n i acc h h1
          omega
      rw [if_pos hn, List.singleton_append, getG, Int.toNat_natCast, hm, if_neg hF, if_pos (show (n : Int) < 128 by omega), if_neg (show ¬ (0 < i ∧ (n : Int) = 0) from fun ⟨h1, h2⟩ => by have := hi h1; omega)]
      rfl
    · have hn9 : i ≠ 9 := fun h1 => by have := not_nine n i acc h h1; omega
      have e1 : ((n % 128 + 128 : Nat) : Int).toNat % 128 = n % 128 := by rw [Int.toNat_natCast]; omega
      rw [if_neg hn, List.cons_append, getG, e1, if_neg (show ¬ (10 ≤ i ∨ (i = 9 ∧ 1 < n % 128)) by omega), if_neg (show ¬ ((n % 128 + 128 : Nat) : Int) < 128 by omega), ih (n / 128) (by omega) (i + 1) _ (by rw [putL_step]; exact h) (fun _ => by omega) (by omega), putL_step]
      congr 2
      rw [List.length_cons]
      omega
/-- cut short, a number's bytes are none. -/
theorem getG_cut : ∀ (n i acc m : Nat), acc + n * 2 ^ (7 * i) < 2 ^ 64 → i ≤ 9 → m < (putL n).length → getG ((putL n).take m) i acc = (0, 0, 10) := by
  intro n
  induction n using Nat.strongRecOn with
  | ind n ih =>
    intro i acc m h h9 hm
    cases m with
    | zero => rfl
    | succ m =>
      rw [putL] at hm ⊢
      by_cases hn : n < 128
      · rw [if_pos hn] at hm; simp at hm
      · have hn9 : i ≠ 9 := fun h1 => by have := not_nine n i acc h h1; omega
        have e1 : ((n % 128 + 128 : Nat) : Int).toNat % 128 = n % 128 := by rw [Int.toNat_natCast]; omega
        rw [if_neg hn, List.length_cons] at hm
        rw [if_neg hn, List.take_succ_cons, getG, e1, if_neg (show ¬ (10 ≤ i ∨ (i = 9 ∧ 1 < n % 128)) by omega), if_neg (show ¬ ((n % 128 + 128 : Nat) : Int) < 128 by omega)]
        exact ih (n / 128) (by omega) (i + 1) _ m (by rw [putL_step]; exact h) (by omega) (by omega)
theorem getG_bound : ∀ (l : List Int) (i acc : Nat), i ≤ 10 → acc < 2 ^ (7 * i) → 0 ≤ (getG l i acc).1 ∧ (getG l i acc).1 < 18446744073709551616 ∧ 0 ≤ (getG l i acc).2.1 ∧ (getG l i acc).2.1 ≤ (i : Int) + l.length ∧ ((getG l i acc).2.2 = 0 ∨ (getG l i acc).2.2 = 10 ∨ (getG l i acc).2.2 = 11) := by
  intro l
  induction l with
  | nil => intro i acc _ _; rw [getG]; simp
  | cons b bs ih =>
    intro i acc h10 ha
    rw [getG]
    by_cases hF : 10 ≤ i ∨ (i = 9 ∧ 1 < b.toNat % 128)
    · rw [if_pos hF]; simp; omega
    · have hc : b.toNat % 128 < 128 := Nat.mod_lt _ (by decide)
      have h64 := step_64 acc _ i ha hc (by omega) (by omega)
      have hnx := step_n acc _ i ha hc
      rw [if_neg hF]
      by_cases h1 : b < 128
      · rw [if_pos h1]
        by_cases h0 : 0 < i ∧ b = 0
        · rw [if_pos h0]; simp; omega
        · rw [if_neg h0]
          generalize acc + b.toNat % 128 * 2 ^ (7 * i) = X at *
          simp only [List.length_cons]
          refine ⟨by omega, by omega, by omega, by omega, by simp⟩
      · rw [if_neg h1]
        have := ih (i + 1) _ (by omega) hnx
        generalize getG bs (i + 1) (acc + b.toNat % 128 * 2 ^ (7 * i)) = g at *
        simp only [List.length_cons]
        refine ⟨this.1, this.2.1, this.2.2.1, by have := this.2.2.2.1; omega, this.2.2.2.2⟩
end Go.Proofs.YtcglhpagimkajaaDoor.Vl
set_option linter.unusedVariables false
set_option linter.unusedSimpArgs false
namespace Go.Proofs.YtcglhpagimkajaaDoor.Vl
open Go.RowKit Go.Proofs.YtcglhpagimkajaaDoor.B0 Go.Proofs.YtcglhpagimkajaaDoor.Pv Go.Proofs.YtcglhpagimkajaaDoorW.PrintWords

def zeroV : Va := ⟨0, 0, ByteArray.empty⟩
def val2 : List Int → Va × Int × Int
  | [] => (zeroV, 0, 10)
  | b1 :: _ => if 1 < b1 then (zeroV, 0, 11) else (⟨2, b1, ByteArray.empty⟩, 2, 0)
def valG : List Int → Va × Int × Int
  | [] => (zeroV, 0, 10)
  | b :: bs =>
    if b = 2 then val2 bs
    else if b ≠ 1 ∧ b ≠ 3 then (zeroV, 0, 11)
    else if (getG bs 0 0).2.2 ≠ 0 then (zeroV, 0, (getG bs 0 0).2.2)
    else if b = 1 then (⟨1, zagN (getG bs 0 0).1.toNat, ByteArray.empty⟩, (getG bs 0 0).2.1 + 1, 0)
    else if 4096 < (getG bs 0 0).1 then (zeroV, 0, 11)
    else if (bs.length : Int) < (getG bs 0 0).2.1 + (getG bs 0 0).1 then (zeroV, 0, 10)
    else (⟨3, 0, strOfNums ((bs.drop (getG bs 0 0).2.1.toNat).take (getG bs 0 0).1.toNat)⟩, 1 + (getG bs 0 0).2.1 + (getG bs 0 0).1, 0)
theorem strOf_bytes (s : ByteArray) : strOfNums (bytesOf s) = s := by
  have e : (strOfNums (bytesOf s)).data = s.data := by
    apply Array.toList_inj.1
    rw [strOfNums_data, bytesOf, List.map_map]
    conv => rhs; rw [← List.map_id s.data.toList]
    apply List.map_congr_left
    intro b _
    simp
  cases s; cases h : strOfNums (bytesOf ⟨_⟩)
  rw [h] at e
  simpa using e
theorem valG_bytes (x : Va) (hr : rightB x = true) (hx : okV x) (rest : List Int) : valG (bytesV x ++ rest) = (x, ((bytesV x).length : Int), 0) := by
  obtain ⟨k, n, s⟩ := x
  obtain ⟨hx0, hx1⟩ := hx
  simp only at hx0 hx1
  have hk := kinds_of hr
  simp only at hk
  rcases hk with rfl | rfl | rfl
  · have e1 : bytesV ⟨1, n, s⟩ = 1 :: putL (zigN n) := by unfold bytesV; rw [hr]; rfl
    have hs : s = ByteArray.empty := empty_of (by
      have h1 : (s.toList == []) = true := hr
      simpa using h1)
    have h64 := zigN_lt n hx0 hx1
    have e2 := getG_putL rest (zigN n) 0 0 (by simpa using h64) (fun h => absurd h (by decide)) (by decide)
    rw [e1, List.cons_append, valG, if_neg (by decide), if_neg (by decide), e2]
    simp only
    rw [if_neg (by decide), if_pos trivial, hs]
    simp [zag_zig]
  · have e1 : bytesV ⟨2, n, s⟩ = [2, n] := by unfold bytesV; rw [hr]; rfl
    have hn := bool_of hr
    have hs : s = ByteArray.empty := empty_of (by
      have h1 : (s.toList == [] && (n == 0 || n == 1)) = true := hr
      simp only [Bool.and_eq_true] at h1
      simpa using h1.1)
    rw [e1, hs]
    show valG (2 :: n :: rest) = _
    rw [valG, if_pos rfl, val2, if_neg (by omega)]
    rfl
  · have e1 : bytesV ⟨3, n, s⟩ = 3 :: (putL s.size ++ bytesOf s) := by unfold bytesV; rw [hr]; rfl
    have h1 : (n == 0 && decide ((s.size : Int) ≤ 4096)) = true := hr
    simp only [Bool.and_eq_true, beq_iff_eq, decide_eq_true_eq] at h1
    obtain ⟨rfl, hs⟩ := h1
    have e2 := getG_putL (bytesOf s ++ rest) s.size 0 0 (by simp; omega) (fun h => absurd h (by decide)) (by decide)
    have e3 : (((0 + s.size * 2 ^ (7 * 0) : Nat)) : Int) = s.size := by simp
    have e4 : ((0 : Nat) : Int) + ((putL s.size).length : Int) = ((putL s.size).length : Int) := by simp
    rw [e3, e4] at e2
    have hb := bytesOf_length s
    rw [e1, List.cons_append, List.append_assoc, valG, if_neg (by decide), if_neg (by decide), e2]
    simp only
    rw [if_neg (by decide), if_neg (by decide), if_neg (by omega), if_neg (by simp only [List.length_append]; omega), Int.toNat_natCast, Int.toNat_natCast, List.drop_left, List.take_left' hb, strOf_bytes]
    simp only [List.length_cons, List.length_append]
    congr 2
    omega
/-- cut short, a value's bytes are none. -/
theorem valG_cut (x : Va) (hr : rightB x = true) (hx : okV x) (m : Nat) (hm : m < (bytesV x).length) : valG ((bytesV x).take m) = (zeroV, 0, 10) := by
  obtain ⟨k, n, s⟩ := x
  obtain ⟨hx0, hx1⟩ := hx
  simp only at hx0 hx1
  have hk := kinds_of hr
  simp only at hk
  rcases hk with rfl | rfl | rfl
  · have e1 : bytesV ⟨1, n, s⟩ = 1 :: putL (zigN n) := by unfold bytesV; rw [hr]; rfl
    have h64 := zigN_lt n hx0 hx1
    rw [e1] at hm ⊢
    cases m with
    | zero => rfl
    | succ m =>
      rw [List.length_cons] at hm
      have e2 := getG_cut (zigN n) 0 0 m (by simpa using h64) (by decide) (by omega)
      rw [List.take_succ_cons, valG, if_neg (by decide), if_neg (by decide), e2]
      rfl
  · have e1 : bytesV ⟨2, n, s⟩ = [2, n] := by unfold bytesV; rw [hr]; rfl
    rw [e1] at hm ⊢
    match m, hm with
    | 0, _ => rfl
    | 1, _ => rfl
    | m + 2, h => simp at h; omega
  · have e1 : bytesV ⟨3, n, s⟩ = 3 :: (putL s.size ++ bytesOf s) := by unfold bytesV; rw [hr]; rfl
    have h1 : (n == 0 && decide ((s.size : Int) ≤ 4096)) = true := hr
    simp only [Bool.and_eq_true, beq_iff_eq, decide_eq_true_eq] at h1
    obtain ⟨rfl, hs⟩ := h1
    have hb := bytesOf_length s
    rw [e1] at hm ⊢
    cases m with
    | zero => rfl
    | succ m =>
      rw [List.length_cons, List.length_append, hb] at hm
      rw [List.take_succ_cons]
      by_cases hc : m < (putL s.size).length
      · have e2 := getG_cut s.size 0 0 m (by simp; omega) (by decide) hc
        rw [List.take_append_of_le_length (by omega), valG, if_neg (by decide), if_neg (by decide), e2]
        rfl
      · have e4 : List.take m (putL s.size ++ bytesOf s) = putL s.size ++ (bytesOf s).take (m - (putL s.size).length) := by
          rw [List.take_append, List.take_of_length_le (by omega)]
        have e2 := getG_putL ((bytesOf s).take (m - (putL s.size).length)) s.size 0 0 (by simp; omega) (fun h => absurd h (by decide)) (by decide)
        have e3 : (((0 + s.size * 2 ^ (7 * 0) : Nat)) : Int) = s.size := by simp
        have e5 : ((0 : Nat) : Int) + ((putL s.size).length : Int) = ((putL s.size).length : Int) := by simp
        rw [e3, e5] at e2
        rw [e4, valG, if_neg (by decide), if_neg (by decide), e2]
        simp only
        rw [if_neg (by decide), if_neg (by decide), if_neg (by omega), if_pos (by simp only [List.length_append, List.length_take, hb]; omega)]
end Go.Proofs.YtcglhpagimkajaaDoor.Vl
