/- ExemplarOrder: the law's walk. -/
import Derived.Test.YtbedoahkpdpmeaaExS
import Derived.LoopTactic
import Derived.Deep.CutBlock
import Derived.Deep.DeepCutAuto
set_option linter.unusedVariables false
set_option linter.unusedSimpArgs false
namespace Go.Proofs.Ytbedoahkpdpmeaa.exemplarOrder
open Go.RowKit Go.Proofs.Ytbedoahkpdpmeaa.B0 Go.Proofs.Ytbedoahkpdpmeaa.Pe Go.Proofs.YtbedoahkpdpmeaaW.PrintWords Go.Proofs.YtbedoahkpdpmeaaW.PrintLast Go.Proofs.Ytbedoahkpdpmeaa.Ex
attribute [local go_sem high] eqA31 eqA32

abbrev Rf := S32
def toE (x : Rf) : One := ⟨x.f0, x.f1, x.f2, x.f3⟩
theorem ref_better (x y : Rf) : tallyroomref21_Better.f x.f0 x.f1 x.f2 x.f3 y.f0 y.f1 y.f2 y.f3 = some (decide (ordE (toE x) (toE y) < 0)) := by
  have h : ordE (toE x) (toE y) < 0 ↔ lt4 (toE x) (toE y) := ordE_lt _ _
  obtain ⟨x0, x1, x2, x3⟩ := x
  obtain ⟨y0, y1, y2, y3⟩ := y
  unfold tallyroomref21_Better.f
  cases x3 <;> cases y3 <;> simp only [bne_self_eq_false, Bool.false_eq_true, if_false, Bool.true_bne, Bool.not_false, if_true, Bool.false_bne, Bool.not_true]
  all_goals (try split)
  all_goals (try split)
  all_goals (refine congrArg some ?_; rw [Bool.eq_iff_iff]; refine Iff.trans ?_ (h.symm.trans decide_eq_true_iff.symm))
  all_goals (simp only [lt4, toE, fi, Bool.false_eq_true, if_true, if_false, true_and, false_and, false_or, or_false, Int.lt_irrefl, decide_eq_true_eq])
  all_goals (first | omega | simp)
theorem refb_c (x y : Rf) (w : World) : Calls Try.prog 13 #[.agg #[.int .u64 x.f0, .int .u64 x.f1, .int .u64 x.f2, .bool x.f3], .agg #[.int .u64 y.f0, .int .u64 y.f1, .int .u64 y.f2, .bool y.f3]] w fun e w' => e = .returned (.bool (decide (ordE (toE x) (toE y) < 0))) ∧ Below w.heap.size w w' :=
  tallyroomref21_Better.calls _ _ _ _ _ _ _ _ _ w (ref_better x y)
theorem eq_toE {x y : Rf} (h : toE x = toE y) : x = y := by cases x; cases y; simp_all [toE]
theorem box4 {w wa : World} {o0 o1 o2 o3 : Obj} (h : Below ((((w.alloc o0).alloc o1).alloc o2).alloc o3).heap.size ((((w.alloc o0).alloc o1).alloc o2).alloc o3) wa) :
    wa.heap[w.heap.size]? = some o0 ∧ wa.heap[w.heap.size + 1]? = some o1 ∧ wa.heap[w.heap.size + 2]? = some o2 ∧ wa.heap[w.heap.size + 3]? = some o3 := by
  have s0 := size_alloc w o0
  have s1 := size_alloc (w.alloc o0) o1
  have s2 := size_alloc ((w.alloc o0).alloc o1) o2
  have s3 := size_alloc (((w.alloc o0).alloc o1).alloc o2) o3
  refine ⟨?_, ?_, ?_, ?_⟩
  · rw [h.block _ (by omega), allocO _ _ (by omega), allocO _ _ (by omega), allocO _ _ (by omega), allocN]
  · rw [h.block _ (by omega), allocO _ _ (by omega), allocO _ _ (by omega), ← s0, allocN]
  · rw [h.block _ (by omega), allocO _ _ (by omega), show w.heap.size + 2 = ((w.alloc o0).alloc o1).heap.size from by omega, allocN]
  · rw [h.block _ (by omega), show w.heap.size + 3 = (((w.alloc o0).alloc o1).alloc o2).heap.size from by omega, allocN]

theorem box3 (w : World) (o0 o1 o2 : Obj) : Hid ((((w.alloc o0).alloc o1).alloc o2).drew.heap[w.heap.size]? = some o0) ∧ Hid ((((w.alloc o0).alloc o1).alloc o2).drew.heap[w.heap.size + 1]? = some o1) ∧ Hid ((((w.alloc o0).alloc o1).alloc o2).drew.heap[w.heap.size + 2]? = some o2) := by
  have s0 := size_alloc w o0
  have s1 := size_alloc (w.alloc o0) o1
  refine ⟨?_, ?_, ?_⟩
  · show (((w.alloc o0).alloc o1).alloc o2).heap[w.heap.size]? = _
    rw [allocO _ _ (by omega), allocO _ _ (by omega), allocN]
  · show (((w.alloc o0).alloc o1).alloc o2).heap[w.heap.size + 1]? = _
    rw [allocO _ _ (by omega), ← s0, allocN]
  · show (((w.alloc o0).alloc o1).alloc o2).heap[w.heap.size + 2]? = _
    rw [show w.heap.size + 2 = ((w.alloc o0).alloc o1).heap.size from by omega, allocN]

def T5_3 : Bool × List (List Nat × List Nat) := (true, [([], []), ([], []), ([], []), ([], []), ([], []), ([], []), ([3, 0, 0, 3, 4, 5], [0, 3]), ([4, 1, 6, 0, 1, 3, 4, 5, 6], [1, 4]), ([5, 2, 7, 0, 1, 2, 3, 4, 5, 6, 7], [2, 5])])
def B5_3 : List Nat := [0, 0, 0, 0, 0, 0, 57, 123, 255]
theorem tab5_3 : rtab .any (opsOf Try.f5 3) = T5_3 := by kernel_rfl
theorem bits5_3 : waitsOk T5_3.2 B5_3 = true := by kernel_rfl
def T5_4 : Bool × List (List Nat × List Nat) := (true, [([], []), ([], []), ([0, 1], [0, 1]), ([], []), ([], []), ([3, 4, 2], [3, 4]), ([2, 5], [2, 5]), ([6, 5], [6]), ([7], [7]), ([7], [7]), ([8, 9, 7, 7], [7, 8, 9]), ([10, 10, 7], [7, 10]), ([11], [11]), ([11], [11]), ([12, 13, 11, 11], [11, 12, 13]), ([11, 14, 7], [7, 11, 14]), ([7, 15], [7, 15]), ([16, 14], [16]), ([17], [17]), ([17], [17]), ([18, 19, 17], [17, 18, 19]), ([20, 17, 17], [17, 20]), ([21], [21]), ([21], [21]), ([22, 23, 21, 21], [21, 22, 23]), ([24, 21], [21, 24]), ([21, 25, 17], [17, 21, 25]), ([26, 24, 17], [17, 26]), ([27], [27]), ([27], [27]), ([28, 29, 27, 27], [27, 28, 29]), ([30, 27], [27, 30]), ([27, 31, 17], [17, 27, 31]), ([17, 32], [17, 32])])
def B5_4 : List Nat := [0, 0, 3, 0, 0, 31, 63, 127, 255, 255, 1023, 2047, 4095, 4095, 16383, 32767, 65535, 131071, 262143, 262143, 1048575, 2097151, 4194303, 4194303, 16777215, 33554431, 67108863, 134217727, 268435455, 268435455, 1073741823, 2147483647, 4294967295, 8589934591]
theorem tab5_4 : rtab .any (opsOf Try.f5 4) = T5_4 := by kernel_rfl
theorem bits5_4 : waitsOk T5_4.2 B5_4 = true := by kernel_rfl
def T5_12 : Bool × List (List Nat × List Nat) := (true, [([], []), ([0], [0]), ([1, 1], [1]), ([], []), ([3], [3]), ([], []), ([5], [5]), ([], []), ([], []), ([8], [8]), ([9], [9]), ([4, 6, 7, 10], [4, 6, 7, 10]), ([2, 11], [2, 11]), ([12, 2], [12]), ([13], [13]), ([13], [13]), ([14, 15, 13, 13], [13, 14, 15]), ([16, 13], [13, 16]), ([13, 17], [13, 17]), ([18, 16], [18]), ([19], [19]), ([20, 19, 19], [19, 20]), ([21, 19], [19, 21]), ([22, 19], [19, 22]), ([19, 23], [19, 23]), ([24, 21, 0, 1, 2, 3, 4, 5, 6, 7, 8, 9, 10, 11, 12, 13, 14, 15, 16, 17, 18, 19, 20, 21, 22, 23, 24], [24])])
def B5_12 : List Nat := [0, 1, 3, 0, 8, 0, 32, 0, 0, 256, 768, 2040, 4095, 8191, 16383, 16383, 65535, 131071, 262143, 524287, 1048575, 2097151, 4194303, 8388607, 16777215, 33554431]
theorem tab5_12 : rtab .any (opsOf Try.f5 12) = T5_12 := by kernel_rfl
theorem bits5_12 : waitsOk T5_12.2 B5_12 = true := by kernel_rfl
set_option maxRecDepth 100000 in
set_option maxHeartbeats 4000000 in
theorem exemplarOrder_walk (w : World) (a : Rf) (csa : Array Value) (Ka : k32.K w a csa.toList) (Wa : W32 a) (b : Rf) (csb : Array Value) (Kb : k32.K w b csb.toList) (Wb : W32 b) (c : Rf) (csc : Array Value) (Kc : k32.K w c csc.toList) (Wc : W32 c)
    (s : Sp) (css : Array Value) (Ks : k42.K w s css.toList) (Ws : W42 s) :
    Calls Try.prog 5 #[.agg csa, .agg csb, .agg csc, .agg css] w fun e w' => e = .returned (.bool true) ∧ Below w.heap.size w w' := by
  have ea := k32_open Ka
  have eb := k32_open Kb
  have ec := k32_open Kc
  obtain ⟨As, cs, es, hcs, hCs⟩ := k42_open Ks
  obtain rfl : csa = #[.int .u64 a.f0, .int .u64 a.f1, .int .u64 a.f2, .bool a.f3] := by cases csa; simpa using ea
  obtain rfl : csb = #[.int .u64 b.f0, .int .u64 b.f1, .int .u64 b.f2, .bool b.f3] := by cases csb; simpa using eb
  obtain rfl : csc = #[.int .u64 c.f0, .int .u64 c.f1, .int .u64 c.f2, .bool c.f3] := by cases csc; simpa using ec
  obtain rfl : css = #[.int .u64 s.f0, .int .u64 s.f1, .int .u64 s.f2, .string s.f3, .string s.f4, .int .i64 s.f5, .int .i64 s.f6, .int .u64 s.f7, .int .u64 s.f8, .slice As s.f9.length cs] := by cases css; simpa using es
  obtain ⟨f7a, f7b⟩ : 0 ≤ s.f7 ∧ s.f7 < 18446744073709551616 := by
    have h := Ws.2.2.2.2.2.2.2.1
    have h : IntKind.u64.min ≤ s.f7 ∧ s.f7 ≤ IntKind.u64.max := by simpa [Lit.wf] using h
    rw [show IntKind.u64.min = 0 from by decide, show IntKind.u64.max = 18446744073709551615 from by decide] at h
    omega
  have HCs := Lib.hid hCs
  clear Ka Kb Kc Ks Wa Wb Wc Ws ea eb ec es hCs f7a f7b
  go_enter Try.func5, Try.ntmps5
  go_wp2_with fail
  refine (alive21 _).mono ?_
  rintro e wa ⟨rfl, hBa⟩
  have hbox := box4 hBa
  obtain ⟨x0, x1, x2, x3⟩ := hbox
  have a0 : wa.cell? ⟨w.heap.size, 0, none⟩ = some (.int .u64 a.f0) := cellB x0 0
  have a1 : wa.cell? ⟨w.heap.size, 1, none⟩ = some (.int .u64 a.f1) := cellB x0 1
  have a2 : wa.cell? ⟨w.heap.size, 2, none⟩ = some (.int .u64 a.f2) := cellB x0 2
  have a3 : wa.cell? ⟨w.heap.size, 3, none⟩ = some (.bool a.f3) := cellB x0 3
  have b0 : wa.cell? ⟨w.heap.size + 1, 0, none⟩ = some (.int .u64 b.f0) := cellB x1 0
  have b1 : wa.cell? ⟨w.heap.size + 1, 1, none⟩ = some (.int .u64 b.f1) := cellB x1 1
  have b2 : wa.cell? ⟨w.heap.size + 1, 2, none⟩ = some (.int .u64 b.f2) := cellB x1 2
  have b3 : wa.cell? ⟨w.heap.size + 1, 3, none⟩ = some (.bool b.f3) := cellB x1 3
  have c0 : wa.cell? ⟨w.heap.size + 2, 0, none⟩ = some (.int .u64 c.f0) := cellB x2 0
  have c1 : wa.cell? ⟨w.heap.size + 2, 1, none⟩ = some (.int .u64 c.f1) := cellB x2 1
  have c2 : wa.cell? ⟨w.heap.size + 2, 2, none⟩ = some (.int .u64 c.f2) := cellB x2 2
  have c3 : wa.cell? ⟨w.heap.size + 2, 3, none⟩ = some (.bool c.f3) := cellB x2 3
  have HB0 := Lib.hid x0; have HB1 := Lib.hid x1; have HB2 := Lib.hid x2; have HB3 := Lib.hid x3
  have HBa : Hid (Below w.heap.size w wa) := ((((Below.refl _ w).alloc (Nat.le_refl _) _).alloc (by simp) _).alloc (by simp; omega) _).alloc (by simp; omega) _ |>.trans (hBa.mono (by simp; omega))
  clear x0 x1 x2 x3 hBa
  go_upto_region 3 with fail
  go_cut [9, 10, 11] (fun v9 v10 v11 wx => ∃ p q r : Nat, v9 = .pointer (some ⟨p, 0, none⟩) ∧ v10 = .pointer (some ⟨q, 0, none⟩) ∧ v11 = .pointer (some ⟨r, 0, none⟩) ∧ Hid (wx.heap[p]? = some (.cells #[.int .u64 a.f0, .int .u64 a.f1, .int .u64 a.f2, .bool a.f3] 31 (0, 0))) ∧ Hid (wx.heap[q]? = some (.cells #[.int .u64 b.f0, .int .u64 b.f1, .int .u64 b.f2, .bool b.f3] 31 (0, 0))) ∧ Hid (wx.heap[r]? = some (.cells #[.int .u64 c.f0, .int .u64 c.f1, .int .u64 c.f2, .bool c.f3] 31 (0, 0))) ∧ Hid (Below wa.heap.size wa wx))
  case first =>
    have E3 : ∀ w', Below wa.heap.size wa w' → w'.cell? ⟨w.heap.size, 0, none⟩ = some (.int .u64 a.f0) ∧ w'.cell? ⟨w.heap.size, 1, none⟩ = some (.int .u64 a.f1) ∧ w'.cell? ⟨w.heap.size, 2, none⟩ = some (.int .u64 a.f2) ∧ w'.cell? ⟨w.heap.size, 3, none⟩ = some (.bool a.f3) ∧ w'.cell? ⟨w.heap.size + 1, 0, none⟩ = some (.int .u64 b.f0) ∧ w'.cell? ⟨w.heap.size + 1, 1, none⟩ = some (.int .u64 b.f1) ∧ w'.cell? ⟨w.heap.size + 1, 2, none⟩ = some (.int .u64 b.f2) ∧ w'.cell? ⟨w.heap.size + 1, 3, none⟩ = some (.bool b.f3) ∧ w'.cell? ⟨w.heap.size + 2, 0, none⟩ = some (.int .u64 c.f0) ∧ w'.cell? ⟨w.heap.size + 2, 1, none⟩ = some (.int .u64 c.f1) ∧ w'.cell? ⟨w.heap.size + 2, 2, none⟩ = some (.int .u64 c.f2) ∧ w'.cell? ⟨w.heap.size + 2, 3, none⟩ = some (.bool c.f3) := fun w' h => ⟨pw_cell_below h a0, pw_cell_below h a1, pw_cell_below h a2, pw_cell_below h a3, pw_cell_below h b0, pw_cell_below h b1, pw_cell_below h b2, pw_cell_below h b3, pw_cell_below h c0, pw_cell_below h c1, pw_cell_below h c2, pw_cell_below h c3⟩
    have hwd : Below wa.heap.size wa wa.drew := (Below.refl _ _).drew
    refine start_ (n := 9) (S := (fun w' => Below wa.heap.size wa w')) (ds := []) #[false, false, false, false, false, false, false, false, false] (by kernel_rfl) rfl rfl hwd (fun hHeld => ?_); refine with_tabW tab5_3 bits5_3 (fun HT_ HW_ => ?_)
    refine take_ (i := 0) (N := some 16) (v := ?_) (a' := ?_) #[true, false, false, false, false, false, false, false, false] rfl rfl (take_ofW HT_.out HW_.out (by kernel_rfl)) (fun _ _ _ h => h) (Or.inl ⟨by rfl, ?_⟩) hHeld ?_ ?_
    rotate_left
    · rintro w' hS; obtain ⟨s0, s1, s2, s3, t0, t1, t2, t3, r0, r1, r2, r3⟩ := E3 w' hS
      go_simp
      with_reducible rfl
    rotate_left
    · simp only [Act.put, List.setIfInBounds_toArray, List.set_cons_zero, List.set_cons_succ]
      rfl
    refine take_ (i := 1) (N := some 17) (v := ?_) (a' := ?_) #[true, true, false, false, false, false, false, false, false] rfl rfl (take_ofW HT_.out HW_.out (by kernel_rfl)) (fun _ _ _ h => h) (Or.inl ⟨by rfl, ?_⟩) hHeld ?_ ?_
    rotate_left
    · rintro w' hS; obtain ⟨s0, s1, s2, s3, t0, t1, t2, t3, r0, r1, r2, r3⟩ := E3 w' hS
      go_simp
      with_reducible rfl
    rotate_left
    · simp only [Act.put, List.setIfInBounds_toArray, List.set_cons_zero, List.set_cons_succ]
      rfl
    refine take_ (i := 2) (N := some 18) (v := ?_) (a' := ?_) #[true, true, true, false, false, false, false, false, false] rfl rfl (take_ofW HT_.out HW_.out (by kernel_rfl)) (fun _ _ _ h => h) (Or.inl ⟨by rfl, ?_⟩) hHeld ?_ ?_
    rotate_left
    · rintro w' hS; obtain ⟨s0, s1, s2, s3, t0, t1, t2, t3, r0, r1, r2, r3⟩ := E3 w' hS
      go_simp
      with_reducible rfl
    rotate_left
    · simp only [Act.put, List.setIfInBounds_toArray, List.set_cons_zero, List.set_cons_succ]
      rfl
    refine three_ (i := 3) (j := 4) (k := 5) (Ni := some 9) (Nj := some 10) (Nk := some 11) #[true, true, true, true, false, false, false, false, false] #[true, true, true, false, true, false, false, false, false] #[true, true, true, false, false, true, false, false, false] rfl rfl rfl rfl rfl rfl (three_of HT_.out (by kernel_rfl)) (by decide) (by decide) (by decide) (fun K hK => ?_) (fun K hK => ?_) (fun K hK => ?_)
    · rw [if_pos (by rfl)]
      go_simp
      refine hK.out _ _ (by repeat (first | exact Below.refl _ _ | apply below_drew1 | apply below_alloc)) (fun hHeld => ?_)
      clear hK K
      refine two_ (i := 4) (j := 5) (Ni := some 10) (Nj := some 11) #[true, true, true, true, true, false, false, false, false] #[true, true, true, true, false, true, false, false, false] rfl rfl rfl rfl (two_of HT_.out (by kernel_rfl)) (by decide) (by decide) (fun K hK => ?_) (fun K hK => ?_)
      · rw [if_pos (by rfl)]
        go_simp
        refine hK.out _ _ (by repeat (first | exact Below.refl _ _ | apply below_drew1 | apply below_alloc)) (fun hHeld => ?_)
        clear hK K
        refine one_ (i := 5) (N := some 11) #[true, true, true, true, true, true, false, false, false] rfl rfl (one_of HT_.out (by kernel_rfl)) (by decide) (fun K hK => ?_)
        rw [if_pos (by rfl)]
        go_simp
        refine hK.out _ _ (by repeat (first | exact Below.refl _ _ | apply below_drew1 | apply below_alloc)) (fun hHeld => ?_)
        clear hK K
        refine one_ (i := 6) (N := none) #[true, true, true, true, true, true, true, false, false] rfl rfl (one_of HT_.out (by kernel_rfl)) (by decide) (fun K hK => ?_)
        rw [if_pos (by rfl)]
        go_simp
        refine hK.out _ _ (by repeat (first | exact Below.refl _ _ | apply below_drew1 | apply below_alloc)) (fun hHeld => ?_)
        clear hK K
        refine one_ (i := 7) (N := none) #[true, true, true, true, true, true, true, true, false] rfl rfl (one_of HT_.out (by kernel_rfl)) (by decide) (fun K hK => ?_)
        rw [if_pos (by rfl)]
        go_simp
        refine hK.out _ _ (by repeat (first | exact Below.refl _ _ | apply below_drew1 | apply below_alloc)) (fun hHeld => ?_)
        clear hK K
        refine one_ (i := 8) (N := none) #[true, true, true, true, true, true, true, true, true] rfl rfl (one_of HT_.out (by kernel_rfl)) (by decide) (fun K hK => ?_)
        rw [if_pos (by rfl)]
        go_simp
        refine hK.out _ _ (by repeat (first | exact Below.refl _ _ | apply below_drew1 | apply below_alloc)) (fun hHeld => ?_)
        clear hK K
        refine done_ (done_of HT_.out (by kernel_rfl)) ?_
        clear HT_ HW_
        go_wp2_with fail; go_meet; (case rel => exact ⟨_, _, _, rfl, rfl, rfl, by first | exact (box3 _ _ _ _).1 | exact (box3 _ _ _ _).2.1 | exact (box3 _ _ _ _).2.2, by first | exact (box3 _ _ _ _).1 | exact (box3 _ _ _ _).2.1 | exact (box3 _ _ _ _).2.2, by first | exact (box3 _ _ _ _).1 | exact (box3 _ _ _ _).2.1 | exact (box3 _ _ _ _).2.2, Lib.hid (by repeat (first | exact Below.refl _ _ | apply below_drew1 | apply below_alloc))⟩)
      · rw [if_pos (by rfl)]
        go_simp
        refine hK.out _ _ (by repeat (first | exact Below.refl _ _ | apply below_drew1 | apply below_alloc)) (fun hHeld => ?_)
        clear hK K
        refine one_ (i := 4) (N := some 10) #[true, true, true, true, true, true, false, false, false] rfl rfl (one_of HT_.out (by kernel_rfl)) (by decide) (fun K hK => ?_)
        rw [if_pos (by rfl)]
        go_simp
        refine hK.out _ _ (by repeat (first | exact Below.refl _ _ | apply below_drew1 | apply below_alloc)) (fun hHeld => ?_)
        clear hK K
        refine one_ (i := 6) (N := none) #[true, true, true, true, true, true, true, false, false] rfl rfl (one_of HT_.out (by kernel_rfl)) (by decide) (fun K hK => ?_)
        rw [if_pos (by rfl)]
        go_simp
        refine hK.out _ _ (by repeat (first | exact Below.refl _ _ | apply below_drew1 | apply below_alloc)) (fun hHeld => ?_)
        clear hK K
        refine one_ (i := 7) (N := none) #[true, true, true, true, true, true, true, true, false] rfl rfl (one_of HT_.out (by kernel_rfl)) (by decide) (fun K hK => ?_)
        rw [if_pos (by rfl)]
        go_simp
        refine hK.out _ _ (by repeat (first | exact Below.refl _ _ | apply below_drew1 | apply below_alloc)) (fun hHeld => ?_)
        clear hK K
        refine one_ (i := 8) (N := none) #[true, true, true, true, true, true, true, true, true] rfl rfl (one_of HT_.out (by kernel_rfl)) (by decide) (fun K hK => ?_)
        rw [if_pos (by rfl)]
        go_simp
        refine hK.out _ _ (by repeat (first | exact Below.refl _ _ | apply below_drew1 | apply below_alloc)) (fun hHeld => ?_)
        clear hK K
        refine done_ (done_of HT_.out (by kernel_rfl)) ?_
        clear HT_ HW_
        go_wp2_with fail; go_meet; (case rel => exact ⟨_, _, _, rfl, rfl, rfl, by first | exact (box3 _ _ _ _).1 | exact (box3 _ _ _ _).2.1 | exact (box3 _ _ _ _).2.2, by first | exact (box3 _ _ _ _).1 | exact (box3 _ _ _ _).2.1 | exact (box3 _ _ _ _).2.2, by first | exact (box3 _ _ _ _).1 | exact (box3 _ _ _ _).2.1 | exact (box3 _ _ _ _).2.2, Lib.hid (by repeat (first | exact Below.refl _ _ | apply below_drew1 | apply below_alloc))⟩)
    · rw [if_pos (by rfl)]
      go_simp
      refine hK.out _ _ (by repeat (first | exact Below.refl _ _ | apply below_drew1 | apply below_alloc)) (fun hHeld => ?_)
      clear hK K
      refine two_ (i := 3) (j := 5) (Ni := some 9) (Nj := some 11) #[true, true, true, true, true, false, false, false, false] #[true, true, true, false, true, true, false, false, false] rfl rfl rfl rfl (two_of HT_.out (by kernel_rfl)) (by decide) (by decide) (fun K hK => ?_) (fun K hK => ?_)
      · rw [if_pos (by rfl)]
        go_simp
        refine hK.out _ _ (by repeat (first | exact Below.refl _ _ | apply below_drew1 | apply below_alloc)) (fun hHeld => ?_)
        clear hK K
        refine one_ (i := 5) (N := some 11) #[true, true, true, true, true, true, false, false, false] rfl rfl (one_of HT_.out (by kernel_rfl)) (by decide) (fun K hK => ?_)
        rw [if_pos (by rfl)]
        go_simp
        refine hK.out _ _ (by repeat (first | exact Below.refl _ _ | apply below_drew1 | apply below_alloc)) (fun hHeld => ?_)
        clear hK K
        refine one_ (i := 6) (N := none) #[true, true, true, true, true, true, true, false, false] rfl rfl (one_of HT_.out (by kernel_rfl)) (by decide) (fun K hK => ?_)
        rw [if_pos (by rfl)]
        go_simp
        refine hK.out _ _ (by repeat (first | exact Below.refl _ _ | apply below_drew1 | apply below_alloc)) (fun hHeld => ?_)
        clear hK K
        refine one_ (i := 7) (N := none) #[true, true, true, true, true, true, true, true, false] rfl rfl (one_of HT_.out (by kernel_rfl)) (by decide) (fun K hK => ?_)
        rw [if_pos (by rfl)]
        go_simp
        refine hK.out _ _ (by repeat (first | exact Below.refl _ _ | apply below_drew1 | apply below_alloc)) (fun hHeld => ?_)
        clear hK K
        refine one_ (i := 8) (N := none) #[true, true, true, true, true, true, true, true, true] rfl rfl (one_of HT_.out (by kernel_rfl)) (by decide) (fun K hK => ?_)
        rw [if_pos (by rfl)]
        go_simp
        refine hK.out _ _ (by repeat (first | exact Below.refl _ _ | apply below_drew1 | apply below_alloc)) (fun hHeld => ?_)
        clear hK K
        refine done_ (done_of HT_.out (by kernel_rfl)) ?_
        clear HT_ HW_
        go_wp2_with fail; go_meet; (case rel => exact ⟨_, _, _, rfl, rfl, rfl, by first | exact (box3 _ _ _ _).1 | exact (box3 _ _ _ _).2.1 | exact (box3 _ _ _ _).2.2, by first | exact (box3 _ _ _ _).1 | exact (box3 _ _ _ _).2.1 | exact (box3 _ _ _ _).2.2, by first | exact (box3 _ _ _ _).1 | exact (box3 _ _ _ _).2.1 | exact (box3 _ _ _ _).2.2, Lib.hid (by repeat (first | exact Below.refl _ _ | apply below_drew1 | apply below_alloc))⟩)
      · rw [if_pos (by rfl)]
        go_simp
        refine hK.out _ _ (by repeat (first | exact Below.refl _ _ | apply below_drew1 | apply below_alloc)) (fun hHeld => ?_)
        clear hK K
        refine one_ (i := 3) (N := some 9) #[true, true, true, true, true, true, false, false, false] rfl rfl (one_of HT_.out (by kernel_rfl)) (by decide) (fun K hK => ?_)
        rw [if_pos (by rfl)]
        go_simp
        refine hK.out _ _ (by repeat (first | exact Below.refl _ _ | apply below_drew1 | apply below_alloc)) (fun hHeld => ?_)
        clear hK K
        refine one_ (i := 6) (N := none) #[true, true, true, true, true, true, true, false, false] rfl rfl (one_of HT_.out (by kernel_rfl)) (by decide) (fun K hK => ?_)
        rw [if_pos (by rfl)]
        go_simp
        refine hK.out _ _ (by repeat (first | exact Below.refl _ _ | apply below_drew1 | apply below_alloc)) (fun hHeld => ?_)
        clear hK K
        refine one_ (i := 7) (N := none) #[true, true, true, true, true, true, true, true, false] rfl rfl (one_of HT_.out (by kernel_rfl)) (by decide) (fun K hK => ?_)
        rw [if_pos (by rfl)]
        go_simp
        refine hK.out _ _ (by repeat (first | exact Below.refl _ _ | apply below_drew1 | apply below_alloc)) (fun hHeld => ?_)
        clear hK K
        refine one_ (i := 8) (N := none) #[true, true, true, true, true, true, true, true, true] rfl rfl (one_of HT_.out (by kernel_rfl)) (by decide) (fun K hK => ?_)
        rw [if_pos (by rfl)]
        go_simp
        refine hK.out _ _ (by repeat (first | exact Below.refl _ _ | apply below_drew1 | apply below_alloc)) (fun hHeld => ?_)
        clear hK K
        refine done_ (done_of HT_.out (by kernel_rfl)) ?_
        clear HT_ HW_
        go_wp2_with fail; go_meet; (case rel => exact ⟨_, _, _, rfl, rfl, rfl, by first | exact (box3 _ _ _ _).1 | exact (box3 _ _ _ _).2.1 | exact (box3 _ _ _ _).2.2, by first | exact (box3 _ _ _ _).1 | exact (box3 _ _ _ _).2.1 | exact (box3 _ _ _ _).2.2, by first | exact (box3 _ _ _ _).1 | exact (box3 _ _ _ _).2.1 | exact (box3 _ _ _ _).2.2, Lib.hid (by repeat (first | exact Below.refl _ _ | apply below_drew1 | apply below_alloc))⟩)
    · rw [if_pos (by rfl)]
      go_simp
      refine hK.out _ _ (by repeat (first | exact Below.refl _ _ | apply below_drew1 | apply below_alloc)) (fun hHeld => ?_)
      clear hK K
      refine two_ (i := 3) (j := 4) (Ni := some 9) (Nj := some 10) #[true, true, true, true, false, true, false, false, false] #[true, true, true, false, true, true, false, false, false] rfl rfl rfl rfl (two_of HT_.out (by kernel_rfl)) (by decide) (by decide) (fun K hK => ?_) (fun K hK => ?_)
      · rw [if_pos (by rfl)]
        go_simp
        refine hK.out _ _ (by repeat (first | exact Below.refl _ _ | apply below_drew1 | apply below_alloc)) (fun hHeld => ?_)
        clear hK K
        refine one_ (i := 4) (N := some 10) #[true, true, true, true, true, true, false, false, false] rfl rfl (one_of HT_.out (by kernel_rfl)) (by decide) (fun K hK => ?_)
        rw [if_pos (by rfl)]
        go_simp
        refine hK.out _ _ (by repeat (first | exact Below.refl _ _ | apply below_drew1 | apply below_alloc)) (fun hHeld => ?_)
        clear hK K
        refine one_ (i := 6) (N := none) #[true, true, true, true, true, true, true, false, false] rfl rfl (one_of HT_.out (by kernel_rfl)) (by decide) (fun K hK => ?_)
        rw [if_pos (by rfl)]
        go_simp
        refine hK.out _ _ (by repeat (first | exact Below.refl _ _ | apply below_drew1 | apply below_alloc)) (fun hHeld => ?_)
        clear hK K
        refine one_ (i := 7) (N := none) #[true, true, true, true, true, true, true, true, false] rfl rfl (one_of HT_.out (by kernel_rfl)) (by decide) (fun K hK => ?_)
        rw [if_pos (by rfl)]
        go_simp
        refine hK.out _ _ (by repeat (first | exact Below.refl _ _ | apply below_drew1 | apply below_alloc)) (fun hHeld => ?_)
        clear hK K
        refine one_ (i := 8) (N := none) #[true, true, true, true, true, true, true, true, true] rfl rfl (one_of HT_.out (by kernel_rfl)) (by decide) (fun K hK => ?_)
        rw [if_pos (by rfl)]
        go_simp
        refine hK.out _ _ (by repeat (first | exact Below.refl _ _ | apply below_drew1 | apply below_alloc)) (fun hHeld => ?_)
        clear hK K
        refine done_ (done_of HT_.out (by kernel_rfl)) ?_
        clear HT_ HW_
        go_wp2_with fail; go_meet; (case rel => exact ⟨_, _, _, rfl, rfl, rfl, by first | exact (box3 _ _ _ _).1 | exact (box3 _ _ _ _).2.1 | exact (box3 _ _ _ _).2.2, by first | exact (box3 _ _ _ _).1 | exact (box3 _ _ _ _).2.1 | exact (box3 _ _ _ _).2.2, by first | exact (box3 _ _ _ _).1 | exact (box3 _ _ _ _).2.1 | exact (box3 _ _ _ _).2.2, Lib.hid (by repeat (first | exact Below.refl _ _ | apply below_drew1 | apply below_alloc))⟩)
      · rw [if_pos (by rfl)]
        go_simp
        refine hK.out _ _ (by repeat (first | exact Below.refl _ _ | apply below_drew1 | apply below_alloc)) (fun hHeld => ?_)
        clear hK K
        refine one_ (i := 3) (N := some 9) #[true, true, true, true, true, true, false, false, false] rfl rfl (one_of HT_.out (by kernel_rfl)) (by decide) (fun K hK => ?_)
        rw [if_pos (by rfl)]
        go_simp
        refine hK.out _ _ (by repeat (first | exact Below.refl _ _ | apply below_drew1 | apply below_alloc)) (fun hHeld => ?_)
        clear hK K
        refine one_ (i := 6) (N := none) #[true, true, true, true, true, true, true, false, false] rfl rfl (one_of HT_.out (by kernel_rfl)) (by decide) (fun K hK => ?_)
        rw [if_pos (by rfl)]
        go_simp
        refine hK.out _ _ (by repeat (first | exact Below.refl _ _ | apply below_drew1 | apply below_alloc)) (fun hHeld => ?_)
        clear hK K
        refine one_ (i := 7) (N := none) #[true, true, true, true, true, true, true, true, false] rfl rfl (one_of HT_.out (by kernel_rfl)) (by decide) (fun K hK => ?_)
        rw [if_pos (by rfl)]
        go_simp
        refine hK.out _ _ (by repeat (first | exact Below.refl _ _ | apply below_drew1 | apply below_alloc)) (fun hHeld => ?_)
        clear hK K
        refine one_ (i := 8) (N := none) #[true, true, true, true, true, true, true, true, true] rfl rfl (one_of HT_.out (by kernel_rfl)) (by decide) (fun K hK => ?_)
        rw [if_pos (by rfl)]
        go_simp
        refine hK.out _ _ (by repeat (first | exact Below.refl _ _ | apply below_drew1 | apply below_alloc)) (fun hHeld => ?_)
        clear hK K
        refine done_ (done_of HT_.out (by kernel_rfl)) ?_
        clear HT_ HW_
        go_wp2_with fail; go_meet; (case rel => exact ⟨_, _, _, rfl, rfl, rfl, by first | exact (box3 _ _ _ _).1 | exact (box3 _ _ _ _).2.1 | exact (box3 _ _ _ _).2.2, by first | exact (box3 _ _ _ _).1 | exact (box3 _ _ _ _).2.1 | exact (box3 _ _ _ _).2.2, by first | exact (box3 _ _ _ _).1 | exact (box3 _ _ _ _).2.1 | exact (box3 _ _ _ _).2.2, Lib.hid (by repeat (first | exact Below.refl _ _ | apply below_drew1 | apply below_alloc))⟩)
  case rest =>
    obtain ⟨p, q, r, rfl, rfl, rfl, HP, HQ, HR, HBx⟩ := hcut
    obtain ⟨wo, rfl⟩ : ∃ wo : World, wo = wc := ⟨_, rfl⟩
    have HA : Hid (wo.heap[w.heap.size]? = some (.cells #[.int .u64 a.f0, .int .u64 a.f1, .int .u64 a.f2, .bool a.f3] 32 (0, 0))) := (HBx.out.block _ (lt_of_get HB0.out)).trans HB0.out
    have HBB : Hid (wo.heap[w.heap.size + 1]? = some (.cells #[.int .u64 b.f0, .int .u64 b.f1, .int .u64 b.f2, .bool b.f3] 32 (0, 0))) := (HBx.out.block _ (lt_of_get HB1.out)).trans HB1.out
    have HS : Hid (wo.heap[w.heap.size + 3]? = some (.cells #[.int .u64 s.f0, .int .u64 s.f1, .int .u64 s.f2, .string s.f3, .string s.f4, .int .i64 s.f5, .int .i64 s.f6, .int .u64 s.f7, .int .u64 s.f8, .slice As s.f9.length cs] 42 (0, 0))) := (HBx.out.block _ (lt_of_get HB3.out)).trans HB3.out
    have EC : Hid (∀ w', Below wo.heap.size wo w' → w'.cell? ⟨p, 0, none⟩ = some (.int .u64 a.f0) ∧ w'.cell? ⟨p, 1, none⟩ = some (.int .u64 a.f1) ∧ w'.cell? ⟨p, 2, none⟩ = some (.int .u64 a.f2) ∧ w'.cell? ⟨p, 3, none⟩ = some (.bool a.f3) ∧ w'.cell? ⟨q, 0, none⟩ = some (.int .u64 b.f0) ∧ w'.cell? ⟨q, 1, none⟩ = some (.int .u64 b.f1) ∧ w'.cell? ⟨q, 2, none⟩ = some (.int .u64 b.f2) ∧ w'.cell? ⟨q, 3, none⟩ = some (.bool b.f3) ∧ w'.cell? ⟨r, 0, none⟩ = some (.int .u64 c.f0) ∧ w'.cell? ⟨r, 1, none⟩ = some (.int .u64 c.f1) ∧ w'.cell? ⟨r, 2, none⟩ = some (.int .u64 c.f2) ∧ w'.cell? ⟨r, 3, none⟩ = some (.bool c.f3) ∧ w'.cell? ⟨w.heap.size, 0, none⟩ = some (.int .u64 a.f0) ∧ w'.cell? ⟨w.heap.size, 1, none⟩ = some (.int .u64 a.f1) ∧ w'.cell? ⟨w.heap.size, 2, none⟩ = some (.int .u64 a.f2) ∧ w'.cell? ⟨w.heap.size, 3, none⟩ = some (.bool a.f3) ∧ w'.cell? ⟨w.heap.size + 1, 0, none⟩ = some (.int .u64 b.f0) ∧ w'.cell? ⟨w.heap.size + 1, 1, none⟩ = some (.int .u64 b.f1) ∧ w'.cell? ⟨w.heap.size + 1, 2, none⟩ = some (.int .u64 b.f2) ∧ w'.cell? ⟨w.heap.size + 1, 3, none⟩ = some (.bool b.f3) ∧ w'.cell? ⟨w.heap.size + 3, 0, none⟩ = some (.int .u64 s.f0) ∧ w'.cell? ⟨w.heap.size + 3, 1, none⟩ = some (.int .u64 s.f1) ∧ w'.cell? ⟨w.heap.size + 3, 2, none⟩ = some (.int .u64 s.f2) ∧ w'.cell? ⟨w.heap.size + 3, 3, none⟩ = some (.string s.f3) ∧ w'.cell? ⟨w.heap.size + 3, 4, none⟩ = some (.string s.f4) ∧ w'.cell? ⟨w.heap.size + 3, 5, none⟩ = some (.int .i64 s.f5) ∧ w'.cell? ⟨w.heap.size + 3, 6, none⟩ = some (.int .i64 s.f6) ∧ w'.cell? ⟨w.heap.size + 3, 7, none⟩ = some (.int .u64 s.f7) ∧ w'.cell? ⟨w.heap.size + 3, 8, none⟩ = some (.int .u64 s.f8) ∧ w'.cell? ⟨w.heap.size + 3, 9, none⟩ = some (.slice As s.f9.length cs)) := fun w' h => ⟨pw_cell_below h (cellB HP.out 0), pw_cell_below h (cellB HP.out 1), pw_cell_below h (cellB HP.out 2), pw_cell_below h (cellB HP.out 3), pw_cell_below h (cellB HQ.out 0), pw_cell_below h (cellB HQ.out 1), pw_cell_below h (cellB HQ.out 2), pw_cell_below h (cellB HQ.out 3), pw_cell_below h (cellB HR.out 0), pw_cell_below h (cellB HR.out 1), pw_cell_below h (cellB HR.out 2), pw_cell_below h (cellB HR.out 3), pw_cell_below h (cellB HA.out 0), pw_cell_below h (cellB HA.out 1), pw_cell_below h (cellB HA.out 2), pw_cell_below h (cellB HA.out 3), pw_cell_below h (cellB HBB.out 0), pw_cell_below h (cellB HBB.out 1), pw_cell_below h (cellB HBB.out 2), pw_cell_below h (cellB HBB.out 3), pw_cell_below h (cellB HS.out 0), pw_cell_below h (cellB HS.out 1), pw_cell_below h (cellB HS.out 2), pw_cell_below h (cellB HS.out 3), pw_cell_below h (cellB HS.out 4), pw_cell_below h (cellB HS.out 5), pw_cell_below h (cellB HS.out 6), pw_cell_below h (cellB HS.out 7), pw_cell_below h (cellB HS.out 8), pw_cell_below h (cellB HS.out 9)⟩
    have HW : Hid (Below w.heap.size w wo) := HBa.out.trans (HBx.out.mono HBa.out.size)
    clear a0 a1 a2 a3 b0 b1 b2 b3 c0 c1 c2 c3 HB0 HB1 HB2 HB3 HBx HBa HP HQ HR HA HBB HS
    obtain ⟨fb, hfb, hFar⟩ := Far_c s
    have HFB := Lib.hid hfb; have HFar := Lib.hid hFar; clear hfb hFar
    go_upto_region 4 with fail
    go_cut [52] (fun v wx => v = .bool false ∧ Below wo.heap.size wo wx)
    case first =>
      by_cases h1 : ordE (toE a) (toE b) < 0
      · have HXY : Hid (decide (ordE (toE a) (toE b) < 0) = true) := decide_eq_true h1
        have HYX : Hid (decide (ordE (toE b) (toE a) < 0) = false) := decide_eq_false (fun h => lt4_irrefl _ (lt4_trans ((ordE_lt _ _).1 h1) ((ordE_lt _ _).1 h)))
        have hne : (a.f0 == b.f0 && (a.f1 == b.f1 && (a.f2 == b.f2 && (a.f3 == b.f3)))) = false := by
          have : a ≠ b := fun e => by subst e; rw [ordE_self] at h1; omega
          cases a; cases b; simpa using this
        clear h1
        refine start_ (n := 34) (S := (fun w' => Below wo.heap.size wo w')) (ds := []) #[false, false, false, false, false, false, false, false, false, false, false, false, false, false, false, false, false, false, false, false, false, false, false, false, false, false, false, false, false, false, false, false, false, false] (by kernel_rfl) rfl rfl (Below_drewN (Below.refl _ _) 1) (fun hHeld => ?_); refine with_tabW tab5_4 bits5_4 (fun HT_ HW_ => ?_)
        refine take_ (i := 0) (N := some 19) (v := ?_) (a' := ?_) #[true, false, false, false, false, false, false, false, false, false, false, false, false, false, false, false, false, false, false, false, false, false, false, false, false, false, false, false, false, false, false, false, false, false] rfl rfl (take_ofW HT_.out HW_.out (by kernel_rfl)) (fun _ _ _ h => h) (Or.inl ⟨by rfl, ?_⟩) hHeld ?_ ?_
        rotate_left
        · rintro w' hS; obtain ⟨k0, k1, k2, k3, k4, k5, k6, k7, k8, k9, k10, k11, k12, k13, k14, k15, k16, k17, k18, k19, k20, k21, k22, k23, k24, k25, k26, k27, k28, k29⟩ := EC.out w' hS
          go_simp
          with_reducible rfl
        rotate_left
        · simp only [Act.put, List.setIfInBounds_toArray, List.set_cons_zero, List.set_cons_succ]
          rfl
        refine take_ (i := 1) (N := some 20) (v := ?_) (a' := ?_) #[true, true, false, false, false, false, false, false, false, false, false, false, false, false, false, false, false, false, false, false, false, false, false, false, false, false, false, false, false, false, false, false, false, false] rfl rfl (take_ofW HT_.out HW_.out (by kernel_rfl)) (fun _ _ _ h => h) (Or.inl ⟨by rfl, ?_⟩) hHeld ?_ ?_
        rotate_left
        · rintro w' hS; obtain ⟨k0, k1, k2, k3, k4, k5, k6, k7, k8, k9, k10, k11, k12, k13, k14, k15, k16, k17, k18, k19, k20, k21, k22, k23, k24, k25, k26, k27, k28, k29⟩ := EC.out w' hS
          go_simp
          with_reducible rfl
        rotate_left
        · simp only [Act.put, List.setIfInBounds_toArray, List.set_cons_zero, List.set_cons_succ]
          rfl
        refine take_ (i := 3) (N := some 22) (v := ?_) (a' := ?_) #[true, true, false, true, false, false, false, false, false, false, false, false, false, false, false, false, false, false, false, false, false, false, false, false, false, false, false, false, false, false, false, false, false, false] rfl rfl (take_ofW HT_.out HW_.out (by kernel_rfl)) (fun _ _ _ h => h) (Or.inl ⟨by rfl, ?_⟩) hHeld ?_ ?_
        rotate_left
        · rintro w' hS; obtain ⟨k0, k1, k2, k3, k4, k5, k6, k7, k8, k9, k10, k11, k12, k13, k14, k15, k16, k17, k18, k19, k20, k21, k22, k23, k24, k25, k26, k27, k28, k29⟩ := EC.out w' hS
          go_simp
          with_reducible rfl
        rotate_left
        · simp only [Act.put, List.setIfInBounds_toArray, List.set_cons_zero, List.set_cons_succ]
          rfl
        refine take_ (i := 4) (N := some 23) (v := ?_) (a' := ?_) #[true, true, false, true, true, false, false, false, false, false, false, false, false, false, false, false, false, false, false, false, false, false, false, false, false, false, false, false, false, false, false, false, false, false] rfl rfl (take_ofW HT_.out HW_.out (by kernel_rfl)) (fun _ _ _ h => h) (Or.inl ⟨by rfl, ?_⟩) hHeld ?_ ?_
        rotate_left
        · rintro w' hS; obtain ⟨k0, k1, k2, k3, k4, k5, k6, k7, k8, k9, k10, k11, k12, k13, k14, k15, k16, k17, k18, k19, k20, k21, k22, k23, k24, k25, k26, k27, k28, k29⟩ := EC.out w' hS
          go_simp
          with_reducible rfl
        rotate_left
        · simp only [Act.put, List.setIfInBounds_toArray, List.set_cons_zero, List.set_cons_succ]
          rfl
        refine one_ (i := 2) (N := some 21) #[true, true, true, true, true, false, false, false, false, false, false, false, false, false, false, false, false, false, false, false, false, false, false, false, false, false, false, false, false, false, false, false, false, false] rfl rfl (one_of HT_.out (by kernel_rfl)) (by decide) (fun K hK => ?_)
        rw [if_pos (by rfl)]
        go_simp
        go_at_call 12; refine (better_c (toE a) (toE b) _).mono ?_; rintro e w2 ⟨rfl, hb⟩; rw [HXY.out]
        refine hK.out _ _ (hHeld.trans (hb.mono hHeld.size)) (fun hHeld => ?_)
        clear hK K
        refine one_ (i := 5) (N := some 24) #[true, true, true, true, true, true, false, false, false, false, false, false, false, false, false, false, false, false, false, false, false, false, false, false, false, false, false, false, false, false, false, false, false, false] rfl rfl (one_of HT_.out (by kernel_rfl)) (by decide) (fun K hK => ?_)
        rw [if_pos (by rfl)]
        go_simp
        go_at_call 13; refine (refb_c a b _).mono ?_; rintro e w2 ⟨rfl, hb⟩; rw [HXY.out]
        refine hK.out _ _ (hHeld.trans (hb.mono hHeld.size)) (fun hHeld => ?_)
        clear hK K
        refine pure_ (i := 6) (N := some 25) (v := ?_) (a' := ?_) #[true, true, true, true, true, true, true, false, false, false, false, false, false, false, false, false, false, false, false, false, false, false, false, false, false, false, false, false, false, false, false, false, false, false] rfl rfl (any_of HT_.out (by kernel_rfl)) (fun _ _ _ h => h) (Or.inl ⟨by rfl, ?_⟩) ?_ ?_
        rotate_left
        · intro w'
          go_simp
          with_reducible rfl
        rotate_left
        · simp only [Act.put, List.setIfInBounds_toArray, List.set_cons_zero, List.set_cons_succ]
          rfl
        refine pure_ (i := 7) (N := some 26) (v := ?_) (a' := ?_) #[true, true, true, true, true, true, true, true, false, false, false, false, false, false, false, false, false, false, false, false, false, false, false, false, false, false, false, false, false, false, false, false, false, false] rfl rfl (any_of HT_.out (by kernel_rfl)) (fun _ _ _ h => h) (Or.inl ⟨by rfl, ?_⟩) ?_ ?_
        rotate_left
        · intro w'
          go_simp
          with_reducible rfl
        rotate_left
        · simp only [Act.put, List.setIfInBounds_toArray, List.set_cons_zero, List.set_cons_succ]
          rfl
        refine take_ (i := 8) (N := some 27) (v := ?_) (a' := ?_) #[true, true, true, true, true, true, true, true, true, false, false, false, false, false, false, false, false, false, false, false, false, false, false, false, false, false, false, false, false, false, false, false, false, false] rfl rfl (take_ofW HT_.out HW_.out (by kernel_rfl)) (fun _ _ _ h => h) (Or.inl ⟨by rfl, ?_⟩) hHeld ?_ ?_
        rotate_left
        · rintro w' hS; obtain ⟨k0, k1, k2, k3, k4, k5, k6, k7, k8, k9, k10, k11, k12, k13, k14, k15, k16, k17, k18, k19, k20, k21, k22, k23, k24, k25, k26, k27, k28, k29⟩ := EC.out w' hS
          go_simp
          with_reducible rfl
        rotate_left
        · simp only [Act.put, List.setIfInBounds_toArray, List.set_cons_zero, List.set_cons_succ]
          rfl
        refine take_ (i := 9) (N := some 28) (v := ?_) (a' := ?_) #[true, true, true, true, true, true, true, true, true, true, false, false, false, false, false, false, false, false, false, false, false, false, false, false, false, false, false, false, false, false, false, false, false, false] rfl rfl (take_ofW HT_.out HW_.out (by kernel_rfl)) (fun _ _ _ h => h) (Or.inl ⟨by rfl, ?_⟩) hHeld ?_ ?_
        rotate_left
        · rintro w' hS; obtain ⟨k0, k1, k2, k3, k4, k5, k6, k7, k8, k9, k10, k11, k12, k13, k14, k15, k16, k17, k18, k19, k20, k21, k22, k23, k24, k25, k26, k27, k28, k29⟩ := EC.out w' hS
          go_simp
          with_reducible rfl
        rotate_left
        · simp only [Act.put, List.setIfInBounds_toArray, List.set_cons_zero, List.set_cons_succ]
          rfl
        refine one_ (i := 10) (N := some 29) #[true, true, true, true, true, true, true, true, true, true, true, false, false, false, false, false, false, false, false, false, false, false, false, false, false, false, false, false, false, false, false, false, false, false] rfl rfl (one_of HT_.out (by kernel_rfl)) (by decide) (fun K hK => ?_)
        rw [if_pos (by rfl)]
        go_simp
        go_at_call 12; refine (better_c (toE a) (toE b) _).mono ?_; rintro e w2 ⟨rfl, hb⟩; rw [HXY.out]
        refine hK.out _ _ (hHeld.trans (hb.mono hHeld.size)) (fun hHeld => ?_)
        clear hK K
        refine pure_ (i := 11) (N := some 30) (v := ?_) (a' := ?_) #[true, true, true, true, true, true, true, true, true, true, true, true, false, false, false, false, false, false, false, false, false, false, false, false, false, false, false, false, false, false, false, false, false, false] rfl rfl (any_of HT_.out (by kernel_rfl)) (fun _ _ _ h => h) (Or.inl ⟨by rfl, ?_⟩) ?_ ?_
        rotate_left
        · intro w'
          go_simp
          with_reducible rfl
        rotate_left
        · simp only [Act.put, List.setIfInBounds_toArray, List.set_cons_zero, List.set_cons_succ]
          rfl
        refine take_ (i := 12) (N := some 31) (v := ?_) (a' := ?_) #[true, true, true, true, true, true, true, true, true, true, true, true, true, false, false, false, false, false, false, false, false, false, false, false, false, false, false, false, false, false, false, false, false, false] rfl rfl (take_ofW HT_.out HW_.out (by kernel_rfl)) (fun _ _ _ h => h) (Or.inl ⟨by rfl, ?_⟩) hHeld ?_ ?_
        rotate_left
        · rintro w' hS; obtain ⟨k0, k1, k2, k3, k4, k5, k6, k7, k8, k9, k10, k11, k12, k13, k14, k15, k16, k17, k18, k19, k20, k21, k22, k23, k24, k25, k26, k27, k28, k29⟩ := EC.out w' hS
          go_simp
          with_reducible rfl
        rotate_left
        · simp only [Act.put, List.setIfInBounds_toArray, List.set_cons_zero, List.set_cons_succ]
          rfl
        refine take_ (i := 13) (N := some 32) (v := ?_) (a' := ?_) #[true, true, true, true, true, true, true, true, true, true, true, true, true, true, false, false, false, false, false, false, false, false, false, false, false, false, false, false, false, false, false, false, false, false] rfl rfl (take_ofW HT_.out HW_.out (by kernel_rfl)) (fun _ _ _ h => h) (Or.inl ⟨by rfl, ?_⟩) hHeld ?_ ?_
        rotate_left
        · rintro w' hS; obtain ⟨k0, k1, k2, k3, k4, k5, k6, k7, k8, k9, k10, k11, k12, k13, k14, k15, k16, k17, k18, k19, k20, k21, k22, k23, k24, k25, k26, k27, k28, k29⟩ := EC.out w' hS
          go_simp
          with_reducible rfl
        rotate_left
        · simp only [Act.put, List.setIfInBounds_toArray, List.set_cons_zero, List.set_cons_succ]
          rfl
        refine one_ (i := 14) (N := some 33) #[true, true, true, true, true, true, true, true, true, true, true, true, true, true, true, false, false, false, false, false, false, false, false, false, false, false, false, false, false, false, false, false, false, false] rfl rfl (one_of HT_.out (by kernel_rfl)) (by decide) (fun K hK => ?_)
        rw [if_pos (by rfl)]
        go_simp
        go_at_call 12; refine (better_c (toE b) (toE a) _).mono ?_; rintro e w2 ⟨rfl, hb⟩; rw [HYX.out]
        refine hK.out _ _ (hHeld.trans (hb.mono hHeld.size)) (fun hHeld => ?_)
        clear hK K
        refine pure_ (i := 15) (N := some 34) (v := ?_) (a' := ?_) #[true, true, true, true, true, true, true, true, true, true, true, true, true, true, true, true, false, false, false, false, false, false, false, false, false, false, false, false, false, false, false, false, false, false] rfl rfl (any_of HT_.out (by kernel_rfl)) (fun _ _ _ h => h) (Or.inl ⟨by rfl, ?_⟩) ?_ ?_
        rotate_left
        · intro w'
          go_simp
          with_reducible rfl
        rotate_left
        · simp only [Act.put, List.setIfInBounds_toArray, List.set_cons_zero, List.set_cons_succ]
          rfl
        refine pure_ (i := 16) (N := some 35) (v := ?_) (a' := ?_) #[true, true, true, true, true, true, true, true, true, true, true, true, true, true, true, true, true, false, false, false, false, false, false, false, false, false, false, false, false, false, false, false, false, false] rfl rfl (any_of HT_.out (by kernel_rfl)) (fun _ _ _ h => h) (Or.inl ⟨by rfl, ?_⟩) ?_ ?_
        rotate_left
        · intro w'
          go_simp
          with_reducible rfl
        rotate_left
        · simp only [Act.put, List.setIfInBounds_toArray, List.set_cons_zero, List.set_cons_succ]
          rfl
        refine pure_ (i := 17) (N := some 36) (v := ?_) (a' := ?_) #[true, true, true, true, true, true, true, true, true, true, true, true, true, true, true, true, true, true, false, false, false, false, false, false, false, false, false, false, false, false, false, false, false, false] rfl rfl (any_of HT_.out (by kernel_rfl)) (fun _ _ _ h => h) (Or.inl ⟨by rfl, ?_⟩) ?_ ?_
        rotate_left
        · intro w'
          go_simp
          with_reducible rfl
        rotate_left
        · simp only [Act.put, List.setIfInBounds_toArray, List.set_cons_zero, List.set_cons_succ]
          rfl
        refine take_ (i := 18) (N := some 37) (v := ?_) (a' := ?_) #[true, true, true, true, true, true, true, true, true, true, true, true, true, true, true, true, true, true, true, false, false, false, false, false, false, false, false, false, false, false, false, false, false, false] rfl rfl (take_ofW HT_.out HW_.out (by kernel_rfl)) (fun _ _ _ h => h) (Or.inl ⟨by rfl, ?_⟩) hHeld ?_ ?_
        rotate_left
        · rintro w' hS; obtain ⟨k0, k1, k2, k3, k4, k5, k6, k7, k8, k9, k10, k11, k12, k13, k14, k15, k16, k17, k18, k19, k20, k21, k22, k23, k24, k25, k26, k27, k28, k29⟩ := EC.out w' hS
          go_simp
          with_reducible rfl
        rotate_left
        · simp only [Act.put, List.setIfInBounds_toArray, List.set_cons_zero, List.set_cons_succ]
          rfl
        refine take_ (i := 19) (N := some 38) (v := ?_) (a' := ?_) #[true, true, true, true, true, true, true, true, true, true, true, true, true, true, true, true, true, true, true, true, false, false, false, false, false, false, false, false, false, false, false, false, false, false] rfl rfl (take_ofW HT_.out HW_.out (by kernel_rfl)) (fun _ _ _ h => h) (Or.inl ⟨by rfl, ?_⟩) hHeld ?_ ?_
        rotate_left
        · rintro w' hS; obtain ⟨k0, k1, k2, k3, k4, k5, k6, k7, k8, k9, k10, k11, k12, k13, k14, k15, k16, k17, k18, k19, k20, k21, k22, k23, k24, k25, k26, k27, k28, k29⟩ := EC.out w' hS
          go_simp
          with_reducible rfl
        rotate_left
        · simp only [Act.put, List.setIfInBounds_toArray, List.set_cons_zero, List.set_cons_succ]
          rfl
        refine pure_ (i := 20) (N := some 39) (v := ?_) (a' := ?_) #[true, true, true, true, true, true, true, true, true, true, true, true, true, true, true, true, true, true, true, true, true, false, false, false, false, false, false, false, false, false, false, false, false, false] rfl rfl (any_of HT_.out (by kernel_rfl)) (fun _ _ _ h => h) (Or.inl ⟨by rfl, ?_⟩) ?_ ?_
        rotate_left
        · intro w'
          go_simp
          with_reducible rfl
        rotate_left
        · simp only [Act.put, List.setIfInBounds_toArray, List.set_cons_zero, List.set_cons_succ]
          rfl
        refine pure_ (i := 21) (N := some 40) (v := ?_) (a' := ?_) #[true, true, true, true, true, true, true, true, true, true, true, true, true, true, true, true, true, true, true, true, true, true, false, false, false, false, false, false, false, false, false, false, false, false] rfl rfl (any_of HT_.out (by kernel_rfl)) (fun _ _ _ h => h) (Or.inl ⟨by rfl, ?_⟩) ?_ ?_
        rotate_left
        · intro w'
          go_simp
          with_reducible rfl
        rotate_left
        · simp only [Act.put, List.setIfInBounds_toArray, List.set_cons_zero, List.set_cons_succ]
          rfl
        refine take_ (i := 22) (N := some 41) (v := ?_) (a' := ?_) #[true, true, true, true, true, true, true, true, true, true, true, true, true, true, true, true, true, true, true, true, true, true, true, false, false, false, false, false, false, false, false, false, false, false] rfl rfl (take_ofW HT_.out HW_.out (by kernel_rfl)) (fun _ _ _ h => h) (Or.inl ⟨by rfl, ?_⟩) hHeld ?_ ?_
        rotate_left
        · rintro w' hS; obtain ⟨k0, k1, k2, k3, k4, k5, k6, k7, k8, k9, k10, k11, k12, k13, k14, k15, k16, k17, k18, k19, k20, k21, k22, k23, k24, k25, k26, k27, k28, k29⟩ := EC.out w' hS
          go_simp
          with_reducible rfl
        rotate_left
        · simp only [Act.put, List.setIfInBounds_toArray, List.set_cons_zero, List.set_cons_succ]
          rfl
        refine take_ (i := 23) (N := some 42) (v := ?_) (a' := ?_) #[true, true, true, true, true, true, true, true, true, true, true, true, true, true, true, true, true, true, true, true, true, true, true, true, false, false, false, false, false, false, false, false, false, false] rfl rfl (take_ofW HT_.out HW_.out (by kernel_rfl)) (fun _ _ _ h => h) (Or.inl ⟨by rfl, ?_⟩) hHeld ?_ ?_
        rotate_left
        · rintro w' hS; obtain ⟨k0, k1, k2, k3, k4, k5, k6, k7, k8, k9, k10, k11, k12, k13, k14, k15, k16, k17, k18, k19, k20, k21, k22, k23, k24, k25, k26, k27, k28, k29⟩ := EC.out w' hS
          go_simp
          with_reducible rfl
        rotate_left
        · simp only [Act.put, List.setIfInBounds_toArray, List.set_cons_zero, List.set_cons_succ]
          rfl
        refine one_ (i := 24) (N := some 43) #[true, true, true, true, true, true, true, true, true, true, true, true, true, true, true, true, true, true, true, true, true, true, true, true, true, false, false, false, false, false, false, false, false, false] rfl rfl (one_of HT_.out (by kernel_rfl)) (by decide) (fun K hK => ?_)
        rw [if_pos (by rfl)]
        go_simp
        go_at_call 12; refine (better_c (toE a) (toE b) _).mono ?_; rintro e w2 ⟨rfl, hb⟩; rw [HXY.out]
        refine hK.out _ _ (hHeld.trans (hb.mono hHeld.size)) (fun hHeld => ?_)
        clear hK K
        refine pure_ (i := 25) (N := some 44) (v := ?_) (a' := ?_) #[true, true, true, true, true, true, true, true, true, true, true, true, true, true, true, true, true, true, true, true, true, true, true, true, true, true, false, false, false, false, false, false, false, false] rfl rfl (any_of HT_.out (by kernel_rfl)) (fun _ _ _ h => h) (Or.inl ⟨by rfl, ?_⟩) ?_ ?_
        rotate_left
        · intro w'
          go_simp
          with_reducible rfl
        rotate_left
        · simp only [Act.put, List.setIfInBounds_toArray, List.set_cons_zero, List.set_cons_succ]
          rfl
        refine pure_ (i := 26) (N := some 45) (v := ?_) (a' := ?_) #[true, true, true, true, true, true, true, true, true, true, true, true, true, true, true, true, true, true, true, true, true, true, true, true, true, true, true, false, false, false, false, false, false, false] rfl rfl (any_of HT_.out (by kernel_rfl)) (fun _ _ _ h => h) (Or.inl ⟨by rfl, ?_⟩) ?_ ?_
        rotate_left
        · intro w'
          go_simp
          with_reducible rfl
        rotate_left
        · simp only [Act.put, List.setIfInBounds_toArray, List.set_cons_zero, List.set_cons_succ]
          rfl
        refine pure_ (i := 27) (N := some 46) (v := ?_) (a' := ?_) #[true, true, true, true, true, true, true, true, true, true, true, true, true, true, true, true, true, true, true, true, true, true, true, true, true, true, true, true, false, false, false, false, false, false] rfl rfl (any_of HT_.out (by kernel_rfl)) (fun _ _ _ h => h) (Or.inl ⟨by rfl, ?_⟩) ?_ ?_
        rotate_left
        · intro w'
          go_simp
          with_reducible rfl
        rotate_left
        · simp only [Act.put, List.setIfInBounds_toArray, List.set_cons_zero, List.set_cons_succ]
          rfl
        refine pure_ (i := 28) (N := some 47) (v := undef) (a' := ?_) #[true, true, true, true, true, true, true, true, true, true, true, true, true, true, true, true, true, true, true, true, true, true, true, true, true, true, true, true, true, false, false, false, false, false] rfl rfl (any_of HT_.out (by kernel_rfl)) (fun _ _ _ h => h) (Or.inr ⟨by rfl, rfl⟩) ?_ ?_
        rotate_left
        · simp only [Act.put, List.setIfInBounds_toArray, List.set_cons_zero, List.set_cons_succ]
          rfl
        refine pure_ (i := 29) (N := some 48) (v := undef) (a' := ?_) #[true, true, true, true, true, true, true, true, true, true, true, true, true, true, true, true, true, true, true, true, true, true, true, true, true, true, true, true, true, true, false, false, false, false] rfl rfl (any_of HT_.out (by kernel_rfl)) (fun _ _ _ h => h) (Or.inr ⟨by rfl, rfl⟩) ?_ ?_
        rotate_left
        · simp only [Act.put, List.setIfInBounds_toArray, List.set_cons_zero, List.set_cons_succ]
          rfl
        refine pure_ (i := 30) (N := some 49) (v := undef) (a' := ?_) #[true, true, true, true, true, true, true, true, true, true, true, true, true, true, true, true, true, true, true, true, true, true, true, true, true, true, true, true, true, true, true, false, false, false] rfl rfl (any_of HT_.out (by kernel_rfl)) (fun _ _ _ h => h) (Or.inr ⟨by rfl, rfl⟩) ?_ ?_
        rotate_left
        · simp only [Act.put, List.setIfInBounds_toArray, List.set_cons_zero, List.set_cons_succ]
          rfl
        refine pure_ (i := 31) (N := some 50) (v := undef) (a' := ?_) #[true, true, true, true, true, true, true, true, true, true, true, true, true, true, true, true, true, true, true, true, true, true, true, true, true, true, true, true, true, true, true, true, false, false] rfl rfl (any_of HT_.out (by kernel_rfl)) (fun _ _ _ h => h) (Or.inr ⟨by rfl, rfl⟩) ?_ ?_
        rotate_left
        · simp only [Act.put, List.setIfInBounds_toArray, List.set_cons_zero, List.set_cons_succ]
          rfl
        refine pure_ (i := 32) (N := some 51) (v := ?_) (a' := ?_) #[true, true, true, true, true, true, true, true, true, true, true, true, true, true, true, true, true, true, true, true, true, true, true, true, true, true, true, true, true, true, true, true, true, false] rfl rfl (any_of HT_.out (by kernel_rfl)) (fun _ _ _ h => h) (Or.inl ⟨by rfl, ?_⟩) ?_ ?_
        rotate_left
        · intro w'
          go_simp
          with_reducible rfl
        rotate_left
        · simp only [Act.put, List.setIfInBounds_toArray, List.set_cons_zero, List.set_cons_succ]
          rfl
        refine pure_ (i := 33) (N := some 52) (v := ?_) (a' := ?_) #[true, true, true, true, true, true, true, true, true, true, true, true, true, true, true, true, true, true, true, true, true, true, true, true, true, true, true, true, true, true, true, true, true, true] rfl rfl (any_of HT_.out (by kernel_rfl)) (fun _ _ _ h => h) (Or.inl ⟨by rfl, ?_⟩) ?_ ?_
        rotate_left
        · intro w'
          go_simp
          with_reducible rfl
        rotate_left
        · simp only [Act.put, List.setIfInBounds_toArray, List.set_cons_zero, List.set_cons_succ]
          rfl
        refine done_ (done_of HT_.out (by kernel_rfl)) ?_
        clear HT_ HW_
        go_wp2_with fail; go_meet; (case rel => exact ⟨rfl, hHeld⟩)
      · by_cases h2 : ordE (toE b) (toE a) < 0
        · have HXY : Hid (decide (ordE (toE a) (toE b) < 0) = false) := decide_eq_false h1
          have HYX : Hid (decide (ordE (toE b) (toE a) < 0) = true) := decide_eq_true h2
          have hne : (a.f0 == b.f0 && (a.f1 == b.f1 && (a.f2 == b.f2 && (a.f3 == b.f3)))) = false := by
            have : a ≠ b := fun e => by subst e; rw [ordE_self] at h2; omega
            cases a; cases b; simpa using this
          clear h1 h2
          refine start_ (n := 34) (S := (fun w' => Below wo.heap.size wo w')) (ds := []) #[false, false, false, false, false, false, false, false, false, false, false, false, false, false, false, false, false, false, false, false, false, false, false, false, false, false, false, false, false, false, false, false, false, false] (by kernel_rfl) rfl rfl (Below_drewN (Below.refl _ _) 1) (fun hHeld => ?_); refine with_tabW tab5_4 bits5_4 (fun HT_ HW_ => ?_)
          refine take_ (i := 0) (N := some 19) (v := ?_) (a' := ?_) #[true, false, false, false, false, false, false, false, false, false, false, false, false, false, false, false, false, false, false, false, false, false, false, false, false, false, false, false, false, false, false, false, false, false] rfl rfl (take_ofW HT_.out HW_.out (by kernel_rfl)) (fun _ _ _ h => h) (Or.inl ⟨by rfl, ?_⟩) hHeld ?_ ?_
          rotate_left
          · rintro w' hS; obtain ⟨k0, k1, k2, k3, k4, k5, k6, k7, k8, k9, k10, k11, k12, k13, k14, k15, k16, k17, k18, k19, k20, k21, k22, k23, k24, k25, k26, k27, k28, k29⟩ := EC.out w' hS
            go_simp
            with_reducible rfl
          rotate_left
          · simp only [Act.put, List.setIfInBounds_toArray, List.set_cons_zero, List.set_cons_succ]
            rfl
          refine take_ (i := 1) (N := some 20) (v := ?_) (a' := ?_) #[true, true, false, false, false, false, false, false, false, false, false, false, false, false, false, false, false, false, false, false, false, false, false, false, false, false, false, false, false, false, false, false, false, false] rfl rfl (take_ofW HT_.out HW_.out (by kernel_rfl)) (fun _ _ _ h => h) (Or.inl ⟨by rfl, ?_⟩) hHeld ?_ ?_
          rotate_left
          · rintro w' hS; obtain ⟨k0, k1, k2, k3, k4, k5, k6, k7, k8, k9, k10, k11, k12, k13, k14, k15, k16, k17, k18, k19, k20, k21, k22, k23, k24, k25, k26, k27, k28, k29⟩ := EC.out w' hS
            go_simp
            with_reducible rfl
          rotate_left
          · simp only [Act.put, List.setIfInBounds_toArray, List.set_cons_zero, List.set_cons_succ]
            rfl
          refine take_ (i := 3) (N := some 22) (v := ?_) (a' := ?_) #[true, true, false, true, false, false, false, false, false, false, false, false, false, false, false, false, false, false, false, false, false, false, false, false, false, false, false, false, false, false, false, false, false, false] rfl rfl (take_ofW HT_.out HW_.out (by kernel_rfl)) (fun _ _ _ h => h) (Or.inl ⟨by rfl, ?_⟩) hHeld ?_ ?_
          rotate_left
          · rintro w' hS; obtain ⟨k0, k1, k2, k3, k4, k5, k6, k7, k8, k9, k10, k11, k12, k13, k14, k15, k16, k17, k18, k19, k20, k21, k22, k23, k24, k25, k26, k27, k28, k29⟩ := EC.out w' hS
            go_simp
            with_reducible rfl
          rotate_left
          · simp only [Act.put, List.setIfInBounds_toArray, List.set_cons_zero, List.set_cons_succ]
            rfl
          refine take_ (i := 4) (N := some 23) (v := ?_) (a' := ?_) #[true, true, false, true, true, false, false, false, false, false, false, false, false, false, false, false, false, false, false, false, false, false, false, false, false, false, false, false, false, false, false, false, false, false] rfl rfl (take_ofW HT_.out HW_.out (by kernel_rfl)) (fun _ _ _ h => h) (Or.inl ⟨by rfl, ?_⟩) hHeld ?_ ?_
          rotate_left
          · rintro w' hS; obtain ⟨k0, k1, k2, k3, k4, k5, k6, k7, k8, k9, k10, k11, k12, k13, k14, k15, k16, k17, k18, k19, k20, k21, k22, k23, k24, k25, k26, k27, k28, k29⟩ := EC.out w' hS
            go_simp
            with_reducible rfl
          rotate_left
          · simp only [Act.put, List.setIfInBounds_toArray, List.set_cons_zero, List.set_cons_succ]
            rfl
          refine one_ (i := 2) (N := some 21) #[true, true, true, true, true, false, false, false, false, false, false, false, false, false, false, false, false, false, false, false, false, false, false, false, false, false, false, false, false, false, false, false, false, false] rfl rfl (one_of HT_.out (by kernel_rfl)) (by decide) (fun K hK => ?_)
          rw [if_pos (by rfl)]
          go_simp
          go_at_call 12; refine (better_c (toE a) (toE b) _).mono ?_; rintro e w2 ⟨rfl, hb⟩; rw [HXY.out]
          refine hK.out _ _ (hHeld.trans (hb.mono hHeld.size)) (fun hHeld => ?_)
          clear hK K
          refine one_ (i := 5) (N := some 24) #[true, true, true, true, true, true, false, false, false, false, false, false, false, false, false, false, false, false, false, false, false, false, false, false, false, false, false, false, false, false, false, false, false, false] rfl rfl (one_of HT_.out (by kernel_rfl)) (by decide) (fun K hK => ?_)
          rw [if_pos (by rfl)]
          go_simp
          go_at_call 13; refine (refb_c a b _).mono ?_; rintro e w2 ⟨rfl, hb⟩; rw [HXY.out]
          refine hK.out _ _ (hHeld.trans (hb.mono hHeld.size)) (fun hHeld => ?_)
          clear hK K
          refine pure_ (i := 6) (N := some 25) (v := ?_) (a' := ?_) #[true, true, true, true, true, true, true, false, false, false, false, false, false, false, false, false, false, false, false, false, false, false, false, false, false, false, false, false, false, false, false, false, false, false] rfl rfl (any_of HT_.out (by kernel_rfl)) (fun _ _ _ h => h) (Or.inl ⟨by rfl, ?_⟩) ?_ ?_
          rotate_left
          · intro w'
            go_simp
            with_reducible rfl
          rotate_left
          · simp only [Act.put, List.setIfInBounds_toArray, List.set_cons_zero, List.set_cons_succ]
            rfl
          refine pure_ (i := 7) (N := some 26) (v := ?_) (a' := ?_) #[true, true, true, true, true, true, true, true, false, false, false, false, false, false, false, false, false, false, false, false, false, false, false, false, false, false, false, false, false, false, false, false, false, false] rfl rfl (any_of HT_.out (by kernel_rfl)) (fun _ _ _ h => h) (Or.inl ⟨by rfl, ?_⟩) ?_ ?_
          rotate_left
          · intro w'
            go_simp
            with_reducible rfl
          rotate_left
          · simp only [Act.put, List.setIfInBounds_toArray, List.set_cons_zero, List.set_cons_succ]
            rfl
          refine take_ (i := 8) (N := some 27) (v := ?_) (a' := ?_) #[true, true, true, true, true, true, true, true, true, false, false, false, false, false, false, false, false, false, false, false, false, false, false, false, false, false, false, false, false, false, false, false, false, false] rfl rfl (take_ofW HT_.out HW_.out (by kernel_rfl)) (fun _ _ _ h => h) (Or.inl ⟨by rfl, ?_⟩) hHeld ?_ ?_
          rotate_left
          · rintro w' hS; obtain ⟨k0, k1, k2, k3, k4, k5, k6, k7, k8, k9, k10, k11, k12, k13, k14, k15, k16, k17, k18, k19, k20, k21, k22, k23, k24, k25, k26, k27, k28, k29⟩ := EC.out w' hS
            go_simp
            with_reducible rfl
          rotate_left
          · simp only [Act.put, List.setIfInBounds_toArray, List.set_cons_zero, List.set_cons_succ]
            rfl
          refine take_ (i := 9) (N := some 28) (v := ?_) (a' := ?_) #[true, true, true, true, true, true, true, true, true, true, false, false, false, false, false, false, false, false, false, false, false, false, false, false, false, false, false, false, false, false, false, false, false, false] rfl rfl (take_ofW HT_.out HW_.out (by kernel_rfl)) (fun _ _ _ h => h) (Or.inl ⟨by rfl, ?_⟩) hHeld ?_ ?_
          rotate_left
          · rintro w' hS; obtain ⟨k0, k1, k2, k3, k4, k5, k6, k7, k8, k9, k10, k11, k12, k13, k14, k15, k16, k17, k18, k19, k20, k21, k22, k23, k24, k25, k26, k27, k28, k29⟩ := EC.out w' hS
            go_simp
            with_reducible rfl
          rotate_left
          · simp only [Act.put, List.setIfInBounds_toArray, List.set_cons_zero, List.set_cons_succ]
            rfl
          refine one_ (i := 10) (N := some 29) #[true, true, true, true, true, true, true, true, true, true, true, false, false, false, false, false, false, false, false, false, false, false, false, false, false, false, false, false, false, false, false, false, false, false] rfl rfl (one_of HT_.out (by kernel_rfl)) (by decide) (fun K hK => ?_)
          rw [if_pos (by rfl)]
          go_simp
          go_at_call 12; refine (better_c (toE a) (toE b) _).mono ?_; rintro e w2 ⟨rfl, hb⟩; rw [HXY.out]
          refine hK.out _ _ (hHeld.trans (hb.mono hHeld.size)) (fun hHeld => ?_)
          clear hK K
          refine pure_ (i := 11) (N := some 30) (v := ?_) (a' := ?_) #[true, true, true, true, true, true, true, true, true, true, true, true, false, false, false, false, false, false, false, false, false, false, false, false, false, false, false, false, false, false, false, false, false, false] rfl rfl (any_of HT_.out (by kernel_rfl)) (fun _ _ _ h => h) (Or.inl ⟨by rfl, ?_⟩) ?_ ?_
          rotate_left
          · intro w'
            go_simp
            with_reducible rfl
          rotate_left
          · simp only [Act.put, List.setIfInBounds_toArray, List.set_cons_zero, List.set_cons_succ]
            rfl
          refine pure_ (i := 12) (N := some 31) (v := undef) (a' := ?_) #[true, true, true, true, true, true, true, true, true, true, true, true, true, false, false, false, false, false, false, false, false, false, false, false, false, false, false, false, false, false, false, false, false, false] rfl rfl (any_of HT_.out (by kernel_rfl)) (fun _ _ _ h => h) (Or.inr ⟨by rfl, rfl⟩) ?_ ?_
          rotate_left
          · simp only [Act.put, List.setIfInBounds_toArray, List.set_cons_zero, List.set_cons_succ]
            rfl
          refine pure_ (i := 13) (N := some 32) (v := undef) (a' := ?_) #[true, true, true, true, true, true, true, true, true, true, true, true, true, true, false, false, false, false, false, false, false, false, false, false, false, false, false, false, false, false, false, false, false, false] rfl rfl (any_of HT_.out (by kernel_rfl)) (fun _ _ _ h => h) (Or.inr ⟨by rfl, rfl⟩) ?_ ?_
          rotate_left
          · simp only [Act.put, List.setIfInBounds_toArray, List.set_cons_zero, List.set_cons_succ]
            rfl
          refine pure_ (i := 14) (N := some 33) (v := undef) (a' := ?_) #[true, true, true, true, true, true, true, true, true, true, true, true, true, true, true, false, false, false, false, false, false, false, false, false, false, false, false, false, false, false, false, false, false, false] rfl rfl (any_of HT_.out (by kernel_rfl)) (fun _ _ _ h => h) (Or.inr ⟨by rfl, rfl⟩) ?_ ?_
          rotate_left
          · simp only [Act.put, List.setIfInBounds_toArray, List.set_cons_zero, List.set_cons_succ]
            rfl
          refine pure_ (i := 15) (N := some 34) (v := ?_) (a' := ?_) #[true, true, true, true, true, true, true, true, true, true, true, true, true, true, true, true, false, false, false, false, false, false, false, false, false, false, false, false, false, false, false, false, false, false] rfl rfl (any_of HT_.out (by kernel_rfl)) (fun _ _ _ h => h) (Or.inl ⟨by rfl, ?_⟩) ?_ ?_
          rotate_left
          · intro w'
            go_simp
            with_reducible rfl
          rotate_left
          · simp only [Act.put, List.setIfInBounds_toArray, List.set_cons_zero, List.set_cons_succ]
            rfl
          refine pure_ (i := 16) (N := some 35) (v := ?_) (a' := ?_) #[true, true, true, true, true, true, true, true, true, true, true, true, true, true, true, true, true, false, false, false, false, false, false, false, false, false, false, false, false, false, false, false, false, false] rfl rfl (any_of HT_.out (by kernel_rfl)) (fun _ _ _ h => h) (Or.inl ⟨by rfl, ?_⟩) ?_ ?_
          rotate_left
          · intro w'
            go_simp
            with_reducible rfl
          rotate_left
          · simp only [Act.put, List.setIfInBounds_toArray, List.set_cons_zero, List.set_cons_succ]
            rfl
          refine pure_ (i := 17) (N := some 36) (v := ?_) (a' := ?_) #[true, true, true, true, true, true, true, true, true, true, true, true, true, true, true, true, true, true, false, false, false, false, false, false, false, false, false, false, false, false, false, false, false, false] rfl rfl (any_of HT_.out (by kernel_rfl)) (fun _ _ _ h => h) (Or.inl ⟨by rfl, ?_⟩) ?_ ?_
          rotate_left
          · intro w'
            go_simp
            with_reducible rfl
          rotate_left
          · simp only [Act.put, List.setIfInBounds_toArray, List.set_cons_zero, List.set_cons_succ]
            rfl
          refine take_ (i := 18) (N := some 37) (v := ?_) (a' := ?_) #[true, true, true, true, true, true, true, true, true, true, true, true, true, true, true, true, true, true, true, false, false, false, false, false, false, false, false, false, false, false, false, false, false, false] rfl rfl (take_ofW HT_.out HW_.out (by kernel_rfl)) (fun _ _ _ h => h) (Or.inl ⟨by rfl, ?_⟩) hHeld ?_ ?_
          rotate_left
          · rintro w' hS; obtain ⟨k0, k1, k2, k3, k4, k5, k6, k7, k8, k9, k10, k11, k12, k13, k14, k15, k16, k17, k18, k19, k20, k21, k22, k23, k24, k25, k26, k27, k28, k29⟩ := EC.out w' hS
            go_simp
            with_reducible rfl
          rotate_left
          · simp only [Act.put, List.setIfInBounds_toArray, List.set_cons_zero, List.set_cons_succ]
            rfl
          refine take_ (i := 19) (N := some 38) (v := ?_) (a' := ?_) #[true, true, true, true, true, true, true, true, true, true, true, true, true, true, true, true, true, true, true, true, false, false, false, false, false, false, false, false, false, false, false, false, false, false] rfl rfl (take_ofW HT_.out HW_.out (by kernel_rfl)) (fun _ _ _ h => h) (Or.inl ⟨by rfl, ?_⟩) hHeld ?_ ?_
          rotate_left
          · rintro w' hS; obtain ⟨k0, k1, k2, k3, k4, k5, k6, k7, k8, k9, k10, k11, k12, k13, k14, k15, k16, k17, k18, k19, k20, k21, k22, k23, k24, k25, k26, k27, k28, k29⟩ := EC.out w' hS
            go_simp
            with_reducible rfl
          rotate_left
          · simp only [Act.put, List.setIfInBounds_toArray, List.set_cons_zero, List.set_cons_succ]
            rfl
          refine pure_ (i := 20) (N := some 39) (v := ?_) (a' := ?_) #[true, true, true, true, true, true, true, true, true, true, true, true, true, true, true, true, true, true, true, true, true, false, false, false, false, false, false, false, false, false, false, false, false, false] rfl rfl (any_of HT_.out (by kernel_rfl)) (fun _ _ _ h => h) (Or.inl ⟨by rfl, ?_⟩) ?_ ?_
          rotate_left
          · intro w'
            go_simp
            with_reducible rfl
          rotate_left
          · simp only [Act.put, List.setIfInBounds_toArray, List.set_cons_zero, List.set_cons_succ]
            rfl
          refine pure_ (i := 21) (N := some 40) (v := ?_) (a' := ?_) #[true, true, true, true, true, true, true, true, true, true, true, true, true, true, true, true, true, true, true, true, true, true, false, false, false, false, false, false, false, false, false, false, false, false] rfl rfl (any_of HT_.out (by kernel_rfl)) (fun _ _ _ h => h) (Or.inl ⟨by rfl, ?_⟩) ?_ ?_
          rotate_left
          · intro w'
            go_simp
            with_reducible rfl
          rotate_left
          · simp only [Act.put, List.setIfInBounds_toArray, List.set_cons_zero, List.set_cons_succ]
            rfl
          refine take_ (i := 22) (N := some 41) (v := ?_) (a' := ?_) #[true, true, true, true, true, true, true, true, true, true, true, true, true, true, true, true, true, true, true, true, true, true, true, false, false, false, false, false, false, false, false, false, false, false] rfl rfl (take_ofW HT_.out HW_.out (by kernel_rfl)) (fun _ _ _ h => h) (Or.inl ⟨by rfl, ?_⟩) hHeld ?_ ?_
          rotate_left
          · rintro w' hS; obtain ⟨k0, k1, k2, k3, k4, k5, k6, k7, k8, k9, k10, k11, k12, k13, k14, k15, k16, k17, k18, k19, k20, k21, k22, k23, k24, k25, k26, k27, k28, k29⟩ := EC.out w' hS
            go_simp
            with_reducible rfl
          rotate_left
          · simp only [Act.put, List.setIfInBounds_toArray, List.set_cons_zero, List.set_cons_succ]
            rfl
          refine take_ (i := 23) (N := some 42) (v := ?_) (a' := ?_) #[true, true, true, true, true, true, true, true, true, true, true, true, true, true, true, true, true, true, true, true, true, true, true, true, false, false, false, false, false, false, false, false, false, false] rfl rfl (take_ofW HT_.out HW_.out (by kernel_rfl)) (fun _ _ _ h => h) (Or.inl ⟨by rfl, ?_⟩) hHeld ?_ ?_
          rotate_left
          · rintro w' hS; obtain ⟨k0, k1, k2, k3, k4, k5, k6, k7, k8, k9, k10, k11, k12, k13, k14, k15, k16, k17, k18, k19, k20, k21, k22, k23, k24, k25, k26, k27, k28, k29⟩ := EC.out w' hS
            go_simp
            with_reducible rfl
          rotate_left
          · simp only [Act.put, List.setIfInBounds_toArray, List.set_cons_zero, List.set_cons_succ]
            rfl
          refine one_ (i := 24) (N := some 43) #[true, true, true, true, true, true, true, true, true, true, true, true, true, true, true, true, true, true, true, true, true, true, true, true, true, false, false, false, false, false, false, false, false, false] rfl rfl (one_of HT_.out (by kernel_rfl)) (by decide) (fun K hK => ?_)
          rw [if_pos (by rfl)]
          go_simp
          go_at_call 12; refine (better_c (toE a) (toE b) _).mono ?_; rintro e w2 ⟨rfl, hb⟩; rw [HXY.out]
          refine hK.out _ _ (hHeld.trans (hb.mono hHeld.size)) (fun hHeld => ?_)
          clear hK K
          refine pure_ (i := 25) (N := some 44) (v := ?_) (a' := ?_) #[true, true, true, true, true, true, true, true, true, true, true, true, true, true, true, true, true, true, true, true, true, true, true, true, true, true, false, false, false, false, false, false, false, false] rfl rfl (any_of HT_.out (by kernel_rfl)) (fun _ _ _ h => h) (Or.inl ⟨by rfl, ?_⟩) ?_ ?_
          rotate_left
          · intro w'
            go_simp
            with_reducible rfl
          rotate_left
          · simp only [Act.put, List.setIfInBounds_toArray, List.set_cons_zero, List.set_cons_succ]
            rfl
          refine pure_ (i := 26) (N := some 45) (v := ?_) (a' := ?_) #[true, true, true, true, true, true, true, true, true, true, true, true, true, true, true, true, true, true, true, true, true, true, true, true, true, true, true, false, false, false, false, false, false, false] rfl rfl (any_of HT_.out (by kernel_rfl)) (fun _ _ _ h => h) (Or.inl ⟨by rfl, ?_⟩) ?_ ?_
          rotate_left
          · intro w'
            go_simp
            with_reducible rfl
          rotate_left
          · simp only [Act.put, List.setIfInBounds_toArray, List.set_cons_zero, List.set_cons_succ]
            rfl
          refine pure_ (i := 27) (N := some 46) (v := ?_) (a' := ?_) #[true, true, true, true, true, true, true, true, true, true, true, true, true, true, true, true, true, true, true, true, true, true, true, true, true, true, true, true, false, false, false, false, false, false] rfl rfl (any_of HT_.out (by kernel_rfl)) (fun _ _ _ h => h) (Or.inl ⟨by rfl, ?_⟩) ?_ ?_
          rotate_left
          · intro w'
            go_simp
            with_reducible rfl
          rotate_left
          · simp only [Act.put, List.setIfInBounds_toArray, List.set_cons_zero, List.set_cons_succ]
            rfl
          refine take_ (i := 28) (N := some 47) (v := ?_) (a' := ?_) #[true, true, true, true, true, true, true, true, true, true, true, true, true, true, true, true, true, true, true, true, true, true, true, true, true, true, true, true, true, false, false, false, false, false] rfl rfl (take_ofW HT_.out HW_.out (by kernel_rfl)) (fun _ _ _ h => h) (Or.inl ⟨by rfl, ?_⟩) hHeld ?_ ?_
          rotate_left
          · rintro w' hS; obtain ⟨k0, k1, k2, k3, k4, k5, k6, k7, k8, k9, k10, k11, k12, k13, k14, k15, k16, k17, k18, k19, k20, k21, k22, k23, k24, k25, k26, k27, k28, k29⟩ := EC.out w' hS
            go_simp
            with_reducible rfl
          rotate_left
          · simp only [Act.put, List.setIfInBounds_toArray, List.set_cons_zero, List.set_cons_succ]
            rfl
          refine take_ (i := 29) (N := some 48) (v := ?_) (a' := ?_) #[true, true, true, true, true, true, true, true, true, true, true, true, true, true, true, true, true, true, true, true, true, true, true, true, true, true, true, true, true, true, false, false, false, false] rfl rfl (take_ofW HT_.out HW_.out (by kernel_rfl)) (fun _ _ _ h => h) (Or.inl ⟨by rfl, ?_⟩) hHeld ?_ ?_
          rotate_left
          · rintro w' hS; obtain ⟨k0, k1, k2, k3, k4, k5, k6, k7, k8, k9, k10, k11, k12, k13, k14, k15, k16, k17, k18, k19, k20, k21, k22, k23, k24, k25, k26, k27, k28, k29⟩ := EC.out w' hS
            go_simp
            with_reducible rfl
          rotate_left
          · simp only [Act.put, List.setIfInBounds_toArray, List.set_cons_zero, List.set_cons_succ]
            rfl
          refine one_ (i := 30) (N := some 49) #[true, true, true, true, true, true, true, true, true, true, true, true, true, true, true, true, true, true, true, true, true, true, true, true, true, true, true, true, true, true, true, false, false, false] rfl rfl (one_of HT_.out (by kernel_rfl)) (by decide) (fun K hK => ?_)
          rw [if_pos (by rfl)]
          go_simp
          go_at_call 12; refine (better_c (toE b) (toE a) _).mono ?_; rintro e w2 ⟨rfl, hb⟩; rw [HYX.out]
          refine hK.out _ _ (hHeld.trans (hb.mono hHeld.size)) (fun hHeld => ?_)
          clear hK K
          refine pure_ (i := 31) (N := some 50) (v := ?_) (a' := ?_) #[true, true, true, true, true, true, true, true, true, true, true, true, true, true, true, true, true, true, true, true, true, true, true, true, true, true, true, true, true, true, true, true, false, false] rfl rfl (any_of HT_.out (by kernel_rfl)) (fun _ _ _ h => h) (Or.inl ⟨by rfl, ?_⟩) ?_ ?_
          rotate_left
          · intro w'
            go_simp
            with_reducible rfl
          rotate_left
          · simp only [Act.put, List.setIfInBounds_toArray, List.set_cons_zero, List.set_cons_succ]
            rfl
          refine pure_ (i := 32) (N := some 51) (v := ?_) (a' := ?_) #[true, true, true, true, true, true, true, true, true, true, true, true, true, true, true, true, true, true, true, true, true, true, true, true, true, true, true, true, true, true, true, true, true, false] rfl rfl (any_of HT_.out (by kernel_rfl)) (fun _ _ _ h => h) (Or.inl ⟨by rfl, ?_⟩) ?_ ?_
          rotate_left
          · intro w'
            go_simp
            with_reducible rfl
          rotate_left
          · simp only [Act.put, List.setIfInBounds_toArray, List.set_cons_zero, List.set_cons_succ]
            rfl
          refine pure_ (i := 33) (N := some 52) (v := ?_) (a' := ?_) #[true, true, true, true, true, true, true, true, true, true, true, true, true, true, true, true, true, true, true, true, true, true, true, true, true, true, true, true, true, true, true, true, true, true] rfl rfl (any_of HT_.out (by kernel_rfl)) (fun _ _ _ h => h) (Or.inl ⟨by rfl, ?_⟩) ?_ ?_
          rotate_left
          · intro w'
            go_simp
            with_reducible rfl
          rotate_left
          · simp only [Act.put, List.setIfInBounds_toArray, List.set_cons_zero, List.set_cons_succ]
            rfl
          refine done_ (done_of HT_.out (by kernel_rfl)) ?_
          clear HT_ HW_
          go_wp2_with fail; go_meet; (case rel => exact ⟨rfl, hHeld⟩)
        · have HXY : Hid (decide (ordE (toE a) (toE b) < 0) = false) := decide_eq_false h1
          obtain rfl : a = b := by
            by_cases e : toE a = toE b
            · exact eq_toE e
            · rcases lt4_total e with h | h
              · exact absurd ((ordE_lt _ _).2 h) h1
              · exact absurd ((ordE_lt _ _).2 h) h2
          clear h1 h2
          refine start_ (n := 34) (S := (fun w' => Below wo.heap.size wo w')) (ds := []) #[false, false, false, false, false, false, false, false, false, false, false, false, false, false, false, false, false, false, false, false, false, false, false, false, false, false, false, false, false, false, false, false, false, false] (by kernel_rfl) rfl rfl (Below_drewN (Below.refl _ _) 1) (fun hHeld => ?_); refine with_tabW tab5_4 bits5_4 (fun HT_ HW_ => ?_)
          refine take_ (i := 0) (N := some 19) (v := ?_) (a' := ?_) #[true, false, false, false, false, false, false, false, false, false, false, false, false, false, false, false, false, false, false, false, false, false, false, false, false, false, false, false, false, false, false, false, false, false] rfl rfl (take_ofW HT_.out HW_.out (by kernel_rfl)) (fun _ _ _ h => h) (Or.inl ⟨by rfl, ?_⟩) hHeld ?_ ?_
          rotate_left
          · rintro w' hS; obtain ⟨k0, k1, k2, k3, k4, k5, k6, k7, k8, k9, k10, k11, k12, k13, k14, k15, k16, k17, k18, k19, k20, k21, k22, k23, k24, k25, k26, k27, k28, k29⟩ := EC.out w' hS
            go_simp
            with_reducible rfl
          rotate_left
          · simp only [Act.put, List.setIfInBounds_toArray, List.set_cons_zero, List.set_cons_succ]
            rfl
          refine take_ (i := 1) (N := some 20) (v := ?_) (a' := ?_) #[true, true, false, false, false, false, false, false, false, false, false, false, false, false, false, false, false, false, false, false, false, false, false, false, false, false, false, false, false, false, false, false, false, false] rfl rfl (take_ofW HT_.out HW_.out (by kernel_rfl)) (fun _ _ _ h => h) (Or.inl ⟨by rfl, ?_⟩) hHeld ?_ ?_
          rotate_left
          · rintro w' hS; obtain ⟨k0, k1, k2, k3, k4, k5, k6, k7, k8, k9, k10, k11, k12, k13, k14, k15, k16, k17, k18, k19, k20, k21, k22, k23, k24, k25, k26, k27, k28, k29⟩ := EC.out w' hS
            go_simp
            with_reducible rfl
          rotate_left
          · simp only [Act.put, List.setIfInBounds_toArray, List.set_cons_zero, List.set_cons_succ]
            rfl
          refine take_ (i := 3) (N := some 22) (v := ?_) (a' := ?_) #[true, true, false, true, false, false, false, false, false, false, false, false, false, false, false, false, false, false, false, false, false, false, false, false, false, false, false, false, false, false, false, false, false, false] rfl rfl (take_ofW HT_.out HW_.out (by kernel_rfl)) (fun _ _ _ h => h) (Or.inl ⟨by rfl, ?_⟩) hHeld ?_ ?_
          rotate_left
          · rintro w' hS; obtain ⟨k0, k1, k2, k3, k4, k5, k6, k7, k8, k9, k10, k11, k12, k13, k14, k15, k16, k17, k18, k19, k20, k21, k22, k23, k24, k25, k26, k27, k28, k29⟩ := EC.out w' hS
            go_simp
            with_reducible rfl
          rotate_left
          · simp only [Act.put, List.setIfInBounds_toArray, List.set_cons_zero, List.set_cons_succ]
            rfl
          refine take_ (i := 4) (N := some 23) (v := ?_) (a' := ?_) #[true, true, false, true, true, false, false, false, false, false, false, false, false, false, false, false, false, false, false, false, false, false, false, false, false, false, false, false, false, false, false, false, false, false] rfl rfl (take_ofW HT_.out HW_.out (by kernel_rfl)) (fun _ _ _ h => h) (Or.inl ⟨by rfl, ?_⟩) hHeld ?_ ?_
          rotate_left
          · rintro w' hS; obtain ⟨k0, k1, k2, k3, k4, k5, k6, k7, k8, k9, k10, k11, k12, k13, k14, k15, k16, k17, k18, k19, k20, k21, k22, k23, k24, k25, k26, k27, k28, k29⟩ := EC.out w' hS
            go_simp
            with_reducible rfl
          rotate_left
          · simp only [Act.put, List.setIfInBounds_toArray, List.set_cons_zero, List.set_cons_succ]
            rfl
          refine one_ (i := 2) (N := some 21) #[true, true, true, true, true, false, false, false, false, false, false, false, false, false, false, false, false, false, false, false, false, false, false, false, false, false, false, false, false, false, false, false, false, false] rfl rfl (one_of HT_.out (by kernel_rfl)) (by decide) (fun K hK => ?_)
          rw [if_pos (by rfl)]
          go_simp
          go_at_call 12; refine (better_c (toE a) (toE a) _).mono ?_; rintro e w2 ⟨rfl, hb⟩; rw [HXY.out]
          refine hK.out _ _ (hHeld.trans (hb.mono hHeld.size)) (fun hHeld => ?_)
          clear hK K
          refine one_ (i := 5) (N := some 24) #[true, true, true, true, true, true, false, false, false, false, false, false, false, false, false, false, false, false, false, false, false, false, false, false, false, false, false, false, false, false, false, false, false, false] rfl rfl (one_of HT_.out (by kernel_rfl)) (by decide) (fun K hK => ?_)
          rw [if_pos (by rfl)]
          go_simp
          go_at_call 13; refine (refb_c a a _).mono ?_; rintro e w2 ⟨rfl, hb⟩; rw [HXY.out]
          refine hK.out _ _ (hHeld.trans (hb.mono hHeld.size)) (fun hHeld => ?_)
          clear hK K
          refine pure_ (i := 6) (N := some 25) (v := ?_) (a' := ?_) #[true, true, true, true, true, true, true, false, false, false, false, false, false, false, false, false, false, false, false, false, false, false, false, false, false, false, false, false, false, false, false, false, false, false] rfl rfl (any_of HT_.out (by kernel_rfl)) (fun _ _ _ h => h) (Or.inl ⟨by rfl, ?_⟩) ?_ ?_
          rotate_left
          · intro w'
            go_simp
            with_reducible rfl
          rotate_left
          · simp only [Act.put, List.setIfInBounds_toArray, List.set_cons_zero, List.set_cons_succ]
            rfl
          refine pure_ (i := 7) (N := some 26) (v := ?_) (a' := ?_) #[true, true, true, true, true, true, true, true, false, false, false, false, false, false, false, false, false, false, false, false, false, false, false, false, false, false, false, false, false, false, false, false, false, false] rfl rfl (any_of HT_.out (by kernel_rfl)) (fun _ _ _ h => h) (Or.inl ⟨by rfl, ?_⟩) ?_ ?_
          rotate_left
          · intro w'
            go_simp
            with_reducible rfl
          rotate_left
          · simp only [Act.put, List.setIfInBounds_toArray, List.set_cons_zero, List.set_cons_succ]
            rfl
          refine take_ (i := 8) (N := some 27) (v := ?_) (a' := ?_) #[true, true, true, true, true, true, true, true, true, false, false, false, false, false, false, false, false, false, false, false, false, false, false, false, false, false, false, false, false, false, false, false, false, false] rfl rfl (take_ofW HT_.out HW_.out (by kernel_rfl)) (fun _ _ _ h => h) (Or.inl ⟨by rfl, ?_⟩) hHeld ?_ ?_
          rotate_left
          · rintro w' hS; obtain ⟨k0, k1, k2, k3, k4, k5, k6, k7, k8, k9, k10, k11, k12, k13, k14, k15, k16, k17, k18, k19, k20, k21, k22, k23, k24, k25, k26, k27, k28, k29⟩ := EC.out w' hS
            go_simp
            with_reducible rfl
          rotate_left
          · simp only [Act.put, List.setIfInBounds_toArray, List.set_cons_zero, List.set_cons_succ]
            rfl
          refine take_ (i := 9) (N := some 28) (v := ?_) (a' := ?_) #[true, true, true, true, true, true, true, true, true, true, false, false, false, false, false, false, false, false, false, false, false, false, false, false, false, false, false, false, false, false, false, false, false, false] rfl rfl (take_ofW HT_.out HW_.out (by kernel_rfl)) (fun _ _ _ h => h) (Or.inl ⟨by rfl, ?_⟩) hHeld ?_ ?_
          rotate_left
          · rintro w' hS; obtain ⟨k0, k1, k2, k3, k4, k5, k6, k7, k8, k9, k10, k11, k12, k13, k14, k15, k16, k17, k18, k19, k20, k21, k22, k23, k24, k25, k26, k27, k28, k29⟩ := EC.out w' hS
            go_simp
            with_reducible rfl
          rotate_left
          · simp only [Act.put, List.setIfInBounds_toArray, List.set_cons_zero, List.set_cons_succ]
            rfl
          refine one_ (i := 10) (N := some 29) #[true, true, true, true, true, true, true, true, true, true, true, false, false, false, false, false, false, false, false, false, false, false, false, false, false, false, false, false, false, false, false, false, false, false] rfl rfl (one_of HT_.out (by kernel_rfl)) (by decide) (fun K hK => ?_)
          rw [if_pos (by rfl)]
          go_simp
          go_at_call 12; refine (better_c (toE a) (toE a) _).mono ?_; rintro e w2 ⟨rfl, hb⟩; rw [HXY.out]
          refine hK.out _ _ (hHeld.trans (hb.mono hHeld.size)) (fun hHeld => ?_)
          clear hK K
          refine pure_ (i := 11) (N := some 30) (v := ?_) (a' := ?_) #[true, true, true, true, true, true, true, true, true, true, true, true, false, false, false, false, false, false, false, false, false, false, false, false, false, false, false, false, false, false, false, false, false, false] rfl rfl (any_of HT_.out (by kernel_rfl)) (fun _ _ _ h => h) (Or.inl ⟨by rfl, ?_⟩) ?_ ?_
          rotate_left
          · intro w'
            go_simp
            with_reducible rfl
          rotate_left
          · simp only [Act.put, List.setIfInBounds_toArray, List.set_cons_zero, List.set_cons_succ]
            rfl
          refine pure_ (i := 12) (N := some 31) (v := undef) (a' := ?_) #[true, true, true, true, true, true, true, true, true, true, true, true, true, false, false, false, false, false, false, false, false, false, false, false, false, false, false, false, false, false, false, false, false, false] rfl rfl (any_of HT_.out (by kernel_rfl)) (fun _ _ _ h => h) (Or.inr ⟨by rfl, rfl⟩) ?_ ?_
          rotate_left
          · simp only [Act.put, List.setIfInBounds_toArray, List.set_cons_zero, List.set_cons_succ]
            rfl
          refine pure_ (i := 13) (N := some 32) (v := undef) (a' := ?_) #[true, true, true, true, true, true, true, true, true, true, true, true, true, true, false, false, false, false, false, false, false, false, false, false, false, false, false, false, false, false, false, false, false, false] rfl rfl (any_of HT_.out (by kernel_rfl)) (fun _ _ _ h => h) (Or.inr ⟨by rfl, rfl⟩) ?_ ?_
          rotate_left
          · simp only [Act.put, List.setIfInBounds_toArray, List.set_cons_zero, List.set_cons_succ]
            rfl
          refine pure_ (i := 14) (N := some 33) (v := undef) (a' := ?_) #[true, true, true, true, true, true, true, true, true, true, true, true, true, true, true, false, false, false, false, false, false, false, false, false, false, false, false, false, false, false, false, false, false, false] rfl rfl (any_of HT_.out (by kernel_rfl)) (fun _ _ _ h => h) (Or.inr ⟨by rfl, rfl⟩) ?_ ?_
          rotate_left
          · simp only [Act.put, List.setIfInBounds_toArray, List.set_cons_zero, List.set_cons_succ]
            rfl
          refine pure_ (i := 15) (N := some 34) (v := ?_) (a' := ?_) #[true, true, true, true, true, true, true, true, true, true, true, true, true, true, true, true, false, false, false, false, false, false, false, false, false, false, false, false, false, false, false, false, false, false] rfl rfl (any_of HT_.out (by kernel_rfl)) (fun _ _ _ h => h) (Or.inl ⟨by rfl, ?_⟩) ?_ ?_
          rotate_left
          · intro w'
            go_simp
            with_reducible rfl
          rotate_left
          · simp only [Act.put, List.setIfInBounds_toArray, List.set_cons_zero, List.set_cons_succ]
            rfl
          refine pure_ (i := 16) (N := some 35) (v := ?_) (a' := ?_) #[true, true, true, true, true, true, true, true, true, true, true, true, true, true, true, true, true, false, false, false, false, false, false, false, false, false, false, false, false, false, false, false, false, false] rfl rfl (any_of HT_.out (by kernel_rfl)) (fun _ _ _ h => h) (Or.inl ⟨by rfl, ?_⟩) ?_ ?_
          rotate_left
          · intro w'
            go_simp
            with_reducible rfl
          rotate_left
          · simp only [Act.put, List.setIfInBounds_toArray, List.set_cons_zero, List.set_cons_succ]
            rfl
          refine pure_ (i := 17) (N := some 36) (v := ?_) (a' := ?_) #[true, true, true, true, true, true, true, true, true, true, true, true, true, true, true, true, true, true, false, false, false, false, false, false, false, false, false, false, false, false, false, false, false, false] rfl rfl (any_of HT_.out (by kernel_rfl)) (fun _ _ _ h => h) (Or.inl ⟨by rfl, ?_⟩) ?_ ?_
          rotate_left
          · intro w'
            go_simp
            with_reducible rfl
          rotate_left
          · simp only [Act.put, List.setIfInBounds_toArray, List.set_cons_zero, List.set_cons_succ]
            rfl
          refine take_ (i := 18) (N := some 37) (v := ?_) (a' := ?_) #[true, true, true, true, true, true, true, true, true, true, true, true, true, true, true, true, true, true, true, false, false, false, false, false, false, false, false, false, false, false, false, false, false, false] rfl rfl (take_ofW HT_.out HW_.out (by kernel_rfl)) (fun _ _ _ h => h) (Or.inl ⟨by rfl, ?_⟩) hHeld ?_ ?_
          rotate_left
          · rintro w' hS; obtain ⟨k0, k1, k2, k3, k4, k5, k6, k7, k8, k9, k10, k11, k12, k13, k14, k15, k16, k17, k18, k19, k20, k21, k22, k23, k24, k25, k26, k27, k28, k29⟩ := EC.out w' hS
            go_simp
            with_reducible rfl
          rotate_left
          · simp only [Act.put, List.setIfInBounds_toArray, List.set_cons_zero, List.set_cons_succ]
            rfl
          refine take_ (i := 19) (N := some 38) (v := ?_) (a' := ?_) #[true, true, true, true, true, true, true, true, true, true, true, true, true, true, true, true, true, true, true, true, false, false, false, false, false, false, false, false, false, false, false, false, false, false] rfl rfl (take_ofW HT_.out HW_.out (by kernel_rfl)) (fun _ _ _ h => h) (Or.inl ⟨by rfl, ?_⟩) hHeld ?_ ?_
          rotate_left
          · rintro w' hS; obtain ⟨k0, k1, k2, k3, k4, k5, k6, k7, k8, k9, k10, k11, k12, k13, k14, k15, k16, k17, k18, k19, k20, k21, k22, k23, k24, k25, k26, k27, k28, k29⟩ := EC.out w' hS
            go_simp
            with_reducible rfl
          rotate_left
          · simp only [Act.put, List.setIfInBounds_toArray, List.set_cons_zero, List.set_cons_succ]
            rfl
          refine pure_ (i := 20) (N := some 39) (v := ?_) (a' := ?_) #[true, true, true, true, true, true, true, true, true, true, true, true, true, true, true, true, true, true, true, true, true, false, false, false, false, false, false, false, false, false, false, false, false, false] rfl rfl (any_of HT_.out (by kernel_rfl)) (fun _ _ _ h => h) (Or.inl ⟨by rfl, ?_⟩) ?_ ?_
          rotate_left
          · intro w'
            go_simp
            with_reducible rfl
          rotate_left
          · simp only [Act.put, List.setIfInBounds_toArray, List.set_cons_zero, List.set_cons_succ]
            rfl
          refine pure_ (i := 21) (N := some 40) (v := ?_) (a' := ?_) #[true, true, true, true, true, true, true, true, true, true, true, true, true, true, true, true, true, true, true, true, true, true, false, false, false, false, false, false, false, false, false, false, false, false] rfl rfl (any_of HT_.out (by kernel_rfl)) (fun _ _ _ h => h) (Or.inl ⟨by rfl, ?_⟩) ?_ ?_
          rotate_left
          · intro w'
            go_simp
            with_reducible rfl
          rotate_left
          · simp only [Act.put, List.setIfInBounds_toArray, List.set_cons_zero, List.set_cons_succ]
            rfl
          refine pure_ (i := 22) (N := some 41) (v := undef) (a' := ?_) #[true, true, true, true, true, true, true, true, true, true, true, true, true, true, true, true, true, true, true, true, true, true, true, false, false, false, false, false, false, false, false, false, false, false] rfl rfl (any_of HT_.out (by kernel_rfl)) (fun _ _ _ h => h) (Or.inr ⟨by rfl, rfl⟩) ?_ ?_
          rotate_left
          · simp only [Act.put, List.setIfInBounds_toArray, List.set_cons_zero, List.set_cons_succ]
            rfl
          refine pure_ (i := 23) (N := some 42) (v := undef) (a' := ?_) #[true, true, true, true, true, true, true, true, true, true, true, true, true, true, true, true, true, true, true, true, true, true, true, true, false, false, false, false, false, false, false, false, false, false] rfl rfl (any_of HT_.out (by kernel_rfl)) (fun _ _ _ h => h) (Or.inr ⟨by rfl, rfl⟩) ?_ ?_
          rotate_left
          · simp only [Act.put, List.setIfInBounds_toArray, List.set_cons_zero, List.set_cons_succ]
            rfl
          refine pure_ (i := 24) (N := some 43) (v := undef) (a' := ?_) #[true, true, true, true, true, true, true, true, true, true, true, true, true, true, true, true, true, true, true, true, true, true, true, true, true, false, false, false, false, false, false, false, false, false] rfl rfl (any_of HT_.out (by kernel_rfl)) (fun _ _ _ h => h) (Or.inr ⟨by rfl, rfl⟩) ?_ ?_
          rotate_left
          · simp only [Act.put, List.setIfInBounds_toArray, List.set_cons_zero, List.set_cons_succ]
            rfl
          refine pure_ (i := 25) (N := some 44) (v := undef) (a' := ?_) #[true, true, true, true, true, true, true, true, true, true, true, true, true, true, true, true, true, true, true, true, true, true, true, true, true, true, false, false, false, false, false, false, false, false] rfl rfl (any_of HT_.out (by kernel_rfl)) (fun _ _ _ h => h) (Or.inr ⟨by rfl, rfl⟩) ?_ ?_
          rotate_left
          · simp only [Act.put, List.setIfInBounds_toArray, List.set_cons_zero, List.set_cons_succ]
            rfl
          refine pure_ (i := 26) (N := some 45) (v := ?_) (a' := ?_) #[true, true, true, true, true, true, true, true, true, true, true, true, true, true, true, true, true, true, true, true, true, true, true, true, true, true, true, false, false, false, false, false, false, false] rfl rfl (any_of HT_.out (by kernel_rfl)) (fun _ _ _ h => h) (Or.inl ⟨by rfl, ?_⟩) ?_ ?_
          rotate_left
          · intro w'
            go_simp
            with_reducible rfl
          rotate_left
          · simp only [Act.put, List.setIfInBounds_toArray, List.set_cons_zero, List.set_cons_succ]
            rfl
          refine pure_ (i := 27) (N := some 46) (v := ?_) (a' := ?_) #[true, true, true, true, true, true, true, true, true, true, true, true, true, true, true, true, true, true, true, true, true, true, true, true, true, true, true, true, false, false, false, false, false, false] rfl rfl (any_of HT_.out (by kernel_rfl)) (fun _ _ _ h => h) (Or.inl ⟨by rfl, ?_⟩) ?_ ?_
          rotate_left
          · intro w'
            go_simp
            with_reducible rfl
          rotate_left
          · simp only [Act.put, List.setIfInBounds_toArray, List.set_cons_zero, List.set_cons_succ]
            rfl
          refine pure_ (i := 28) (N := some 47) (v := undef) (a' := ?_) #[true, true, true, true, true, true, true, true, true, true, true, true, true, true, true, true, true, true, true, true, true, true, true, true, true, true, true, true, true, false, false, false, false, false] rfl rfl (any_of HT_.out (by kernel_rfl)) (fun _ _ _ h => h) (Or.inr ⟨by rfl, rfl⟩) ?_ ?_
          rotate_left
          · simp only [Act.put, List.setIfInBounds_toArray, List.set_cons_zero, List.set_cons_succ]
            rfl
          refine pure_ (i := 29) (N := some 48) (v := undef) (a' := ?_) #[true, true, true, true, true, true, true, true, true, true, true, true, true, true, true, true, true, true, true, true, true, true, true, true, true, true, true, true, true, true, false, false, false, false] rfl rfl (any_of HT_.out (by kernel_rfl)) (fun _ _ _ h => h) (Or.inr ⟨by rfl, rfl⟩) ?_ ?_
          rotate_left
          · simp only [Act.put, List.setIfInBounds_toArray, List.set_cons_zero, List.set_cons_succ]
            rfl
          refine pure_ (i := 30) (N := some 49) (v := undef) (a' := ?_) #[true, true, true, true, true, true, true, true, true, true, true, true, true, true, true, true, true, true, true, true, true, true, true, true, true, true, true, true, true, true, true, false, false, false] rfl rfl (any_of HT_.out (by kernel_rfl)) (fun _ _ _ h => h) (Or.inr ⟨by rfl, rfl⟩) ?_ ?_
          rotate_left
          · simp only [Act.put, List.setIfInBounds_toArray, List.set_cons_zero, List.set_cons_succ]
            rfl
          refine pure_ (i := 31) (N := some 50) (v := undef) (a' := ?_) #[true, true, true, true, true, true, true, true, true, true, true, true, true, true, true, true, true, true, true, true, true, true, true, true, true, true, true, true, true, true, true, true, false, false] rfl rfl (any_of HT_.out (by kernel_rfl)) (fun _ _ _ h => h) (Or.inr ⟨by rfl, rfl⟩) ?_ ?_
          rotate_left
          · simp only [Act.put, List.setIfInBounds_toArray, List.set_cons_zero, List.set_cons_succ]
            rfl
          refine pure_ (i := 32) (N := some 51) (v := ?_) (a' := ?_) #[true, true, true, true, true, true, true, true, true, true, true, true, true, true, true, true, true, true, true, true, true, true, true, true, true, true, true, true, true, true, true, true, true, false] rfl rfl (any_of HT_.out (by kernel_rfl)) (fun _ _ _ h => h) (Or.inl ⟨by rfl, ?_⟩) ?_ ?_
          rotate_left
          · intro w'
            go_simp
            with_reducible rfl
          rotate_left
          · simp only [Act.put, List.setIfInBounds_toArray, List.set_cons_zero, List.set_cons_succ]
            rfl
          refine pure_ (i := 33) (N := some 52) (v := ?_) (a' := ?_) #[true, true, true, true, true, true, true, true, true, true, true, true, true, true, true, true, true, true, true, true, true, true, true, true, true, true, true, true, true, true, true, true, true, true] rfl rfl (any_of HT_.out (by kernel_rfl)) (fun _ _ _ h => h) (Or.inl ⟨by rfl, ?_⟩) ?_ ?_
          rotate_left
          · intro w'
            go_simp
            with_reducible rfl
          rotate_left
          · simp only [Act.put, List.setIfInBounds_toArray, List.set_cons_zero, List.set_cons_succ]
            rfl
          refine done_ (done_of HT_.out (by kernel_rfl)) ?_
          clear HT_ HW_
          go_wp2_with fail; go_meet; (case rel => exact ⟨rfl, hHeld⟩)
    case rest =>
      obtain ⟨rfl, hBy⟩ := hcut
      have HBy := Lib.hid hBy; clear hBy
      obtain ⟨wp, rfl⟩ : ∃ wp : World, wp = wc := ⟨_, rfl⟩
      go_upto_region 6 with fail
      go_cut [70] (fun v wx => v = .bool fb ∧ Below wo.heap.size wo wx)
      case first =>
        by_cases h1 : ordE (toE a) (toE b) < 0
        · have HXY : Hid (decide (ordE (toE a) (toE b) < 0) = true) := decide_eq_true h1
          by_cases h2 : ordE (toE b) (toE c) < 0
          · have HYZ : Hid (decide (ordE (toE b) (toE c) < 0) = true) := decide_eq_true h2
            have HXZ : Hid (decide (ordE (toE a) (toE c) < 0) = true) := decide_eq_true ((ordE_lt _ _).2 (lt4_trans ((ordE_lt _ _).1 h1) ((ordE_lt _ _).1 h2)))
            clear h1 h2
            obtain ⟨k0, k1, k2, k3, k4, k5, k6, k7, k8, k9, k10, k11, k12, k13, k14, k15, k16, k17, k18, k19, k20, k21, k22, k23, k24, k25, k26, k27, k28, k29⟩ := EC.out _ HBy.out
            go_wp2_with fail
            refine (better_c (toE a) (toE b) _).mono ?_
            rintro e w2 ⟨rfl, hb⟩
            rw [HXY.out]
            have H2 : Hid (Below wo.heap.size wo w2) := HBy.out.trans (hb.mono HBy.out.size)
            clear hb k0 k1 k2 k3 k4 k5 k6 k7 k8 k9 k10 k11 k12 k13 k14 k15 k16 k17 k18 k19 k20 k21 k22 k23 k24 k25 k26 k27 k28 k29
            obtain ⟨k0, k1, k2, k3, k4, k5, k6, k7, k8, k9, k10, k11, k12, k13, k14, k15, k16, k17, k18, k19, k20, k21, k22, k23, k24, k25, k26, k27, k28, k29⟩ := EC.out _ H2.out
            go_wp2_with fail
            refine (better_c (toE b) (toE c) _).mono ?_
            rintro e w3 ⟨rfl, hb⟩
            rw [HYZ.out]
            have H3 : Hid (Below wo.heap.size wo w3) := H2.out.trans (hb.mono H2.out.size)
            clear hb k0 k1 k2 k3 k4 k5 k6 k7 k8 k9 k10 k11 k12 k13 k14 k15 k16 k17 k18 k19 k20 k21 k22 k23 k24 k25 k26 k27 k28 k29
            obtain ⟨k0, k1, k2, k3, k4, k5, k6, k7, k8, k9, k10, k11, k12, k13, k14, k15, k16, k17, k18, k19, k20, k21, k22, k23, k24, k25, k26, k27, k28, k29⟩ := EC.out _ H3.out
            go_wp2_with fail
            refine (better_c (toE a) (toE c) _).mono ?_
            rintro e w4 ⟨rfl, hb⟩
            rw [HXZ.out]
            have H4 : Hid (Below wo.heap.size wo w4) := H3.out.trans (hb.mono H3.out.size)
            clear hb k0 k1 k2 k3 k4 k5 k6 k7 k8 k9 k10 k11 k12 k13 k14 k15 k16 k17 k18 k19 k20 k21 k22 k23 k24 k25 k26 k27 k28 k29
            obtain ⟨k0, k1, k2, k3, k4, k5, k6, k7, k8, k9, k10, k11, k12, k13, k14, k15, k16, k17, k18, k19, k20, k21, k22, k23, k24, k25, k26, k27, k28, k29⟩ := EC.out _ H4.out
            go_wp2_with fail
            refine (HFar.out _ As cs (Kd.C_below HCs.out (HW.out.trans (H4.out.mono HW.out.size))) hcs).mono ?_
            rintro e w5 ⟨rfl, hb⟩
            have H5 : Hid (Below wo.heap.size wo w5) := H4.out.trans (hb.mono H4.out.size)
            clear hb k0 k1 k2 k3 k4 k5 k6 k7 k8 k9 k10 k11 k12 k13 k14 k15 k16 k17 k18 k19 k20 k21 k22 k23 k24 k25 k26 k27 k28 k29
            go_wp2_with fail
            go_meet
            case rel => exact ⟨rfl, H5.out⟩
          · have HYZ : Hid (decide (ordE (toE b) (toE c) < 0) = false) := decide_eq_false h2
            clear h1 h2
            obtain ⟨k0, k1, k2, k3, k4, k5, k6, k7, k8, k9, k10, k11, k12, k13, k14, k15, k16, k17, k18, k19, k20, k21, k22, k23, k24, k25, k26, k27, k28, k29⟩ := EC.out _ HBy.out
            go_wp2_with fail
            refine (better_c (toE a) (toE b) _).mono ?_
            rintro e w2 ⟨rfl, hb⟩
            rw [HXY.out]
            have H2 : Hid (Below wo.heap.size wo w2) := HBy.out.trans (hb.mono HBy.out.size)
            clear hb k0 k1 k2 k3 k4 k5 k6 k7 k8 k9 k10 k11 k12 k13 k14 k15 k16 k17 k18 k19 k20 k21 k22 k23 k24 k25 k26 k27 k28 k29
            obtain ⟨k0, k1, k2, k3, k4, k5, k6, k7, k8, k9, k10, k11, k12, k13, k14, k15, k16, k17, k18, k19, k20, k21, k22, k23, k24, k25, k26, k27, k28, k29⟩ := EC.out _ H2.out
            go_wp2_with fail
            refine (better_c (toE b) (toE c) _).mono ?_
            rintro e w3 ⟨rfl, hb⟩
            rw [HYZ.out]
            have H3 : Hid (Below wo.heap.size wo w3) := H2.out.trans (hb.mono H2.out.size)
            clear hb k0 k1 k2 k3 k4 k5 k6 k7 k8 k9 k10 k11 k12 k13 k14 k15 k16 k17 k18 k19 k20 k21 k22 k23 k24 k25 k26 k27 k28 k29
            obtain ⟨k0, k1, k2, k3, k4, k5, k6, k7, k8, k9, k10, k11, k12, k13, k14, k15, k16, k17, k18, k19, k20, k21, k22, k23, k24, k25, k26, k27, k28, k29⟩ := EC.out _ H3.out
            go_wp2_with fail
            refine (HFar.out _ As cs (Kd.C_below HCs.out (HW.out.trans (H3.out.mono HW.out.size))) hcs).mono ?_
            rintro e w5 ⟨rfl, hb⟩
            have H5 : Hid (Below wo.heap.size wo w5) := H3.out.trans (hb.mono H3.out.size)
            clear hb k0 k1 k2 k3 k4 k5 k6 k7 k8 k9 k10 k11 k12 k13 k14 k15 k16 k17 k18 k19 k20 k21 k22 k23 k24 k25 k26 k27 k28 k29
            go_wp2_with fail
            go_meet
            case rel => exact ⟨rfl, H5.out⟩
        · have HXY : Hid (decide (ordE (toE a) (toE b) < 0) = false) := decide_eq_false h1
          clear h1
          obtain ⟨k0, k1, k2, k3, k4, k5, k6, k7, k8, k9, k10, k11, k12, k13, k14, k15, k16, k17, k18, k19, k20, k21, k22, k23, k24, k25, k26, k27, k28, k29⟩ := EC.out _ HBy.out
          go_wp2_with fail
          refine (better_c (toE a) (toE b) _).mono ?_
          rintro e w2 ⟨rfl, hb⟩
          rw [HXY.out]
          have H2 : Hid (Below wo.heap.size wo w2) := HBy.out.trans (hb.mono HBy.out.size)
          clear hb k0 k1 k2 k3 k4 k5 k6 k7 k8 k9 k10 k11 k12 k13 k14 k15 k16 k17 k18 k19 k20 k21 k22 k23 k24 k25 k26 k27 k28 k29
          obtain ⟨k0, k1, k2, k3, k4, k5, k6, k7, k8, k9, k10, k11, k12, k13, k14, k15, k16, k17, k18, k19, k20, k21, k22, k23, k24, k25, k26, k27, k28, k29⟩ := EC.out _ H2.out
          go_wp2_with fail
          refine (HFar.out _ As cs (Kd.C_below HCs.out (HW.out.trans (H2.out.mono HW.out.size))) hcs).mono ?_
          rintro e w5 ⟨rfl, hb⟩
          have H5 : Hid (Below wo.heap.size wo w5) := H2.out.trans (hb.mono H2.out.size)
          clear hb k0 k1 k2 k3 k4 k5 k6 k7 k8 k9 k10 k11 k12 k13 k14 k15 k16 k17 k18 k19 k20 k21 k22 k23 k24 k25 k26 k27 k28 k29
          go_wp2_with fail
          go_meet
          case rel => exact ⟨rfl, H5.out⟩
      case rest =>
        obtain ⟨rfl, hBz⟩ := hcut
        have HBz := Lib.hid hBz; clear hBz
        obtain ⟨wq, rfl⟩ : ∃ wq : World, wq = wc := ⟨_, rfl⟩
        cases fb with
        | true =>
          obtain ⟨k0, k1, k2, k3, k4, k5, k6, k7, k8, k9, k10, k11, k12, k13, k14, k15, k16, k17, k18, k19, k20, k21, k22, k23, k24, k25, k26, k27, k28, k29⟩ := EC.out _ HBz.out
          go_wp2_with fail
          refine (HFar.out _ As cs (Kd.C_below HCs.out (HW.out.trans (HBz.out.mono HW.out.size))) hcs).mono ?_
          rintro e w5 ⟨rfl, hb⟩
          have H5 : Hid (Below wo.heap.size wo w5) := HBz.out.trans (hb.mono HBz.out.size)
          clear hb k0 k1 k2 k3 k4 k5 k6 k7 k8 k9 k10 k11 k12 k13 k14 k15 k16 k17 k18 k19 k20 k21 k22 k23 k24 k25 k26 k27 k28 k29
          go_wp2_with fail
          go_ret
          exact ⟨rfl, HW.out.trans (H5.out.mono HW.out.size)⟩
        | false =>
          have hl := HFB.out rfl
          by_cases ht : s.f8 < s.f7
          · have HT : Hid (tookS s = 0) := if_pos ht
            obtain ⟨k0, k1, k2, k3, k4, k5, k6, k7, k8, k9, k10, k11, k12, k13, k14, k15, k16, k17, k18, k19, k20, k21, k22, k23, k24, k25, k26, k27, k28, k29⟩ := EC.out _ HBz.out
            go_wp2_with fail
            clear k0 k1 k2 k3 k4 k5 k6 k7 k8 k9 k10 k11 k12 k13 k14 k15 k16 k17 k18 k19 k20 k21 k22 k23 k24 k25 k26 k27 k28 k29
            refine start_ (n := 26) (S := (fun w' => Below wo.heap.size wo w')) (ds := []) #[false, false, false, false, false, false, false, false, false, false, false, false, false, false, false, false, false, false, false, false, false, false, false, false, false, false] (by kernel_rfl) rfl rfl (Below_drewN HBz.out 1) (fun hHeld => ?_); refine with_tabW tab5_12 bits5_12 (fun HT_ HW_ => ?_)
            refine take_ (i := 0) (N := some 83) (v := ?_) (a' := ?_) #[true, false, false, false, false, false, false, false, false, false, false, false, false, false, false, false, false, false, false, false, false, false, false, false, false, false] rfl rfl (take_ofW HT_.out HW_.out (by kernel_rfl)) (fun _ _ _ h => h) (Or.inl ⟨by rfl, ?_⟩) hHeld ?_ ?_
            rotate_left
            · rintro w' hS; obtain ⟨k0, k1, k2, k3, k4, k5, k6, k7, k8, k9, k10, k11, k12, k13, k14, k15, k16, k17, k18, k19, k20, k21, k22, k23, k24, k25, k26, k27, k28, k29⟩ := EC.out w' hS
              go_simp
              with_reducible rfl
            rotate_left
            · simp only [Act.put, List.setIfInBounds_toArray, List.set_cons_zero, List.set_cons_succ]
              rfl
            refine pure_ (i := 3) (N := some 86) (v := ?_) (a' := ?_) #[true, false, false, true, false, false, false, false, false, false, false, false, false, false, false, false, false, false, false, false, false, false, false, false, false, false] rfl rfl (any_of HT_.out (by kernel_rfl)) (fun _ _ _ h => h) (Or.inl ⟨by rfl, ?_⟩) ?_ ?_
            rotate_left
            · intro w'
              go_simp
              with_reducible rfl
            rotate_left
            · simp only [Act.put, List.setIfInBounds_toArray, List.set_cons_zero, List.set_cons_succ]
              rfl
            refine take_ (i := 4) (N := some 87) (v := ?_) (a' := ?_) #[true, false, false, true, true, false, false, false, false, false, false, false, false, false, false, false, false, false, false, false, false, false, false, false, false, false] rfl rfl (take_ofW HT_.out HW_.out (by kernel_rfl)) (fun _ _ _ h => h) (Or.inl ⟨by rfl, ?_⟩) hHeld ?_ ?_
            rotate_left
            · rintro w' hS; obtain ⟨k0, k1, k2, k3, k4, k5, k6, k7, k8, k9, k10, k11, k12, k13, k14, k15, k16, k17, k18, k19, k20, k21, k22, k23, k24, k25, k26, k27, k28, k29⟩ := EC.out w' hS
              go_simp
              with_reducible rfl
            rotate_left
            · simp only [Act.put, List.setIfInBounds_toArray, List.set_cons_zero, List.set_cons_succ]
              rfl
            refine pure_ (i := 5) (N := some 88) (v := ?_) (a' := ?_) #[true, false, false, true, true, true, false, false, false, false, false, false, false, false, false, false, false, false, false, false, false, false, false, false, false, false] rfl rfl (any_of HT_.out (by kernel_rfl)) (fun _ _ _ h => h) (Or.inl ⟨by rfl, ?_⟩) ?_ ?_
            rotate_left
            · intro w'
              go_simp
              with_reducible rfl
            rotate_left
            · simp only [Act.put, List.setIfInBounds_toArray, List.set_cons_zero, List.set_cons_succ]
              rfl
            refine take_ (i := 6) (N := some 89) (v := ?_) (a' := ?_) #[true, false, false, true, true, true, true, false, false, false, false, false, false, false, false, false, false, false, false, false, false, false, false, false, false, false] rfl rfl (take_ofW HT_.out HW_.out (by kernel_rfl)) (fun _ _ _ h => h) (Or.inl ⟨by rfl, ?_⟩) hHeld ?_ ?_
            rotate_left
            · rintro w' hS; obtain ⟨k0, k1, k2, k3, k4, k5, k6, k7, k8, k9, k10, k11, k12, k13, k14, k15, k16, k17, k18, k19, k20, k21, k22, k23, k24, k25, k26, k27, k28, k29⟩ := EC.out w' hS
              go_simp
              with_reducible rfl
            rotate_left
            · simp only [Act.put, List.setIfInBounds_toArray, List.set_cons_zero, List.set_cons_succ]
              rfl
            refine pure_ (i := 7) (N := some 90) (v := ?_) (a' := ?_) #[true, false, false, true, true, true, true, true, false, false, false, false, false, false, false, false, false, false, false, false, false, false, false, false, false, false] rfl rfl (any_of HT_.out (by kernel_rfl)) (fun _ _ _ h => h) (Or.inl ⟨by rfl, ?_⟩) ?_ ?_
            rotate_left
            · intro w'
              go_simp
              with_reducible rfl
            rotate_left
            · simp only [Act.put, List.setIfInBounds_toArray, List.set_cons_zero, List.set_cons_succ]
              rfl
            refine pure_ (i := 8) (N := some 91) (v := ?_) (a' := ?_) #[true, false, false, true, true, true, true, true, true, false, false, false, false, false, false, false, false, false, false, false, false, false, false, false, false, false] rfl rfl (any_of HT_.out (by kernel_rfl)) (fun _ _ _ h => h) (Or.inl ⟨by rfl, ?_⟩) ?_ ?_
            rotate_left
            · intro w'
              go_simp
              with_reducible rfl
            rotate_left
            · simp only [Act.put, List.setIfInBounds_toArray, List.set_cons_zero, List.set_cons_succ]
              rfl
            refine take_ (i := 9) (N := some 92) (v := ?_) (a' := ?_) #[true, false, false, true, true, true, true, true, true, true, false, false, false, false, false, false, false, false, false, false, false, false, false, false, false, false] rfl rfl (take_ofW HT_.out HW_.out (by kernel_rfl)) (fun _ _ _ h => h) (Or.inl ⟨by rfl, ?_⟩) hHeld ?_ ?_
            rotate_left
            · rintro w' hS; obtain ⟨k0, k1, k2, k3, k4, k5, k6, k7, k8, k9, k10, k11, k12, k13, k14, k15, k16, k17, k18, k19, k20, k21, k22, k23, k24, k25, k26, k27, k28, k29⟩ := EC.out w' hS
              go_simp
              with_reducible rfl
            rotate_left
            · simp only [Act.put, List.setIfInBounds_toArray, List.set_cons_zero, List.set_cons_succ]
              rfl
            refine pure_ (i := 10) (N := some 93) (v := ?_) (a' := ?_) #[true, false, false, true, true, true, true, true, true, true, true, false, false, false, false, false, false, false, false, false, false, false, false, false, false, false] rfl rfl (any_of HT_.out (by kernel_rfl)) (fun _ _ _ h => h) (Or.inl ⟨by rfl, ?_⟩) ?_ ?_
            rotate_left
            · intro w'
              go_simp
              with_reducible rfl
            rotate_left
            · simp only [Act.put, List.setIfInBounds_toArray, List.set_cons_zero, List.set_cons_succ]
              rfl
            refine pure_ (i := 11) (N := some 94) (v := ?_) (a' := ?_) #[true, false, false, true, true, true, true, true, true, true, true, true, false, false, false, false, false, false, false, false, false, false, false, false, false, false] rfl rfl (any_of HT_.out (by kernel_rfl)) (fun _ _ _ h => h) (Or.inl ⟨by rfl, ?_⟩) ?_ ?_
            rotate_left
            · intro w'
              go_simp
              with_reducible rfl
            rotate_left
            · simp only [Act.put, List.setIfInBounds_toArray, List.set_cons_zero, List.set_cons_succ]
              rfl
            refine one_ (i := 1) (N := some 84) #[true, true, false, true, true, true, true, true, true, true, true, true, false, false, false, false, false, false, false, false, false, false, false, false, false, false] rfl rfl (one_of HT_.out (by kernel_rfl)) (by decide) (fun K hK => ?_)
            rw [if_pos (by rfl)]
            go_simp
            go_at_call 16; refine (Of_c s hl _ As cs (Kd.C_below HCs.out (HW.out.trans (hHeld.mono HW.out.size))) hcs).mono ?_; rintro e w3 ⟨R, A', c', rfl, hc', hC', hb⟩; have HC' := Lib.hid hC'; clear hC'
            refine hK.out _ _ (hHeld.trans (hb.mono hHeld.size)) (fun hHeld => ?_)
            clear hK K
            refine one_ (i := 2) (N := some 85) #[true, true, true, true, true, true, true, true, true, true, true, true, false, false, false, false, false, false, false, false, false, false, false, false, false, false] rfl rfl (one_of HT_.out (by kernel_rfl)) (by decide) (fun K hK => ?_)
            rw [if_pos (by rfl)]
            go_simp
            go_at_call 15; refine (ExOf_c s R _ A' c' HC'.out hc').mono ?_; rintro e w4 ⟨rfl, hb⟩; rw [HT.out]
            refine hK.out _ _ (hHeld.trans (hb.mono hHeld.size)) (fun hHeld => ?_)
            clear hK K
            refine pure_ (i := 12) (N := some 95) (v := ?_) (a' := ?_) #[true, true, true, true, true, true, true, true, true, true, true, true, true, false, false, false, false, false, false, false, false, false, false, false, false, false] rfl rfl (any_of HT_.out (by kernel_rfl)) (fun _ _ _ h => h) (Or.inl ⟨by rfl, ?_⟩) ?_ ?_
            rotate_left
            · intro w'
              go_simp
              with_reducible rfl
            rotate_left
            · simp only [Act.put, List.setIfInBounds_toArray, List.set_cons_zero, List.set_cons_succ]
              rfl
            refine pure_ (i := 13) (N := some 96) (v := ?_) (a' := ?_) #[true, true, true, true, true, true, true, true, true, true, true, true, true, true, false, false, false, false, false, false, false, false, false, false, false, false] rfl rfl (any_of HT_.out (by kernel_rfl)) (fun _ _ _ h => h) (Or.inl ⟨by rfl, ?_⟩) ?_ ?_
            rotate_left
            · intro w'
              go_simp
              with_reducible rfl
            rotate_left
            · simp only [Act.put, List.setIfInBounds_toArray, List.set_cons_zero, List.set_cons_succ]
              rfl
            refine pure_ (i := 14) (N := some 97) (v := ?_) (a' := ?_) #[true, true, true, true, true, true, true, true, true, true, true, true, true, true, true, false, false, false, false, false, false, false, false, false, false, false] rfl rfl (any_of HT_.out (by kernel_rfl)) (fun _ _ _ h => h) (Or.inl ⟨by rfl, ?_⟩) ?_ ?_
            rotate_left
            · intro w'
              go_simp
              with_reducible rfl
            rotate_left
            · simp only [Act.put, List.setIfInBounds_toArray, List.set_cons_zero, List.set_cons_succ]
              rfl
            refine take_ (i := 15) (N := some 98) (v := ?_) (a' := ?_) #[true, true, true, true, true, true, true, true, true, true, true, true, true, true, true, true, false, false, false, false, false, false, false, false, false, false] rfl rfl (take_ofW HT_.out HW_.out (by kernel_rfl)) (fun _ _ _ h => h) (Or.inl ⟨by rfl, ?_⟩) hHeld ?_ ?_
            rotate_left
            · rintro w' hS; obtain ⟨k0, k1, k2, k3, k4, k5, k6, k7, k8, k9, k10, k11, k12, k13, k14, k15, k16, k17, k18, k19, k20, k21, k22, k23, k24, k25, k26, k27, k28, k29⟩ := EC.out w' hS
              go_simp
              with_reducible rfl
            rotate_left
            · simp only [Act.put, List.setIfInBounds_toArray, List.set_cons_zero, List.set_cons_succ]
              rfl
            refine one_ (i := 16) (N := some 99) #[true, true, true, true, true, true, true, true, true, true, true, true, true, true, true, true, true, false, false, false, false, false, false, false, false, false] rfl rfl (one_of HT_.out (by kernel_rfl)) (by decide) (fun K hK => ?_)
            rw [if_pos (by rfl)]
            go_simp
            go_at_call 8; refine (Put_nil (toE a) _).mono ?_; rintro e w5 ⟨rfl, hb⟩
            refine hK.out _ _ (hHeld.trans (hb.mono hHeld.size)) (fun hHeld => ?_)
            clear hK K
            refine pure_ (i := 17) (N := some 100) (v := ?_) (a' := ?_) #[true, true, true, true, true, true, true, true, true, true, true, true, true, true, true, true, true, true, false, false, false, false, false, false, false, false] rfl rfl (any_of HT_.out (by kernel_rfl)) (fun _ _ _ h => h) (Or.inl ⟨by rfl, ?_⟩) ?_ ?_
            rotate_left
            · intro w'
              go_simp
              with_reducible rfl
            rotate_left
            · simp only [Act.put, List.setIfInBounds_toArray, List.set_cons_zero, List.set_cons_succ]
              rfl
            refine pure_ (i := 18) (N := some 101) (v := ?_) (a' := ?_) #[true, true, true, true, true, true, true, true, true, true, true, true, true, true, true, true, true, true, true, false, false, false, false, false, false, false] rfl rfl (any_of HT_.out (by kernel_rfl)) (fun _ _ _ h => h) (Or.inl ⟨by rfl, ?_⟩) ?_ ?_
            rotate_left
            · intro w'
              go_simp
              with_reducible rfl
            rotate_left
            · simp only [Act.put, List.setIfInBounds_toArray, List.set_cons_zero, List.set_cons_succ]
              rfl
            refine pure_ (i := 19) (N := some 102) (v := ?_) (a' := ?_) #[true, true, true, true, true, true, true, true, true, true, true, true, true, true, true, true, true, true, true, true, false, false, false, false, false, false] rfl rfl (any_of HT_.out (by kernel_rfl)) (fun _ _ _ h => h) (Or.inl ⟨by rfl, ?_⟩) ?_ ?_
            rotate_left
            · intro w'
              go_simp
              with_reducible rfl
            rotate_left
            · simp only [Act.put, List.setIfInBounds_toArray, List.set_cons_zero, List.set_cons_succ]
              rfl
            refine pure_ (i := 20) (N := some 103) (v := ?_) (a' := ?_) #[true, true, true, true, true, true, true, true, true, true, true, true, true, true, true, true, true, true, true, true, true, false, false, false, false, false] rfl rfl (any_of HT_.out (by kernel_rfl)) (fun _ _ _ h => h) (Or.inl ⟨by rfl, ?_⟩) ?_ ?_
            rotate_left
            · intro w'
              go_simp
              with_reducible rfl
            rotate_left
            · simp only [Act.put, List.setIfInBounds_toArray, List.set_cons_zero, List.set_cons_succ]
              rfl
            refine one_ (i := 21) (N := some 104) #[true, true, true, true, true, true, true, true, true, true, true, true, true, true, true, true, true, true, true, true, true, true, false, false, false, false] rfl rfl (one_of HT_.out (by kernel_rfl)) (by decide) (fun K hK => ?_)
            rw [if_pos (by rfl)]
            go_simp
            go_at_call 10; refine (Best_nil _).mono ?_; rintro e w6 ⟨rfl, rfl⟩
            refine hK.out _ _ hHeld (fun hHeld => ?_)
            clear hK K
            refine pure_ (i := 22) (N := some 105) (v := ?_) (a' := ?_) #[true, true, true, true, true, true, true, true, true, true, true, true, true, true, true, true, true, true, true, true, true, true, true, false, false, false] rfl rfl (any_of HT_.out (by kernel_rfl)) (fun _ _ _ h => h) (Or.inl ⟨by rfl, ?_⟩) ?_ ?_
            rotate_left
            · intro w'
              go_simp
              with_reducible rfl
            rotate_left
            · simp only [Act.put, List.setIfInBounds_toArray, List.set_cons_zero, List.set_cons_succ]
              rfl
            refine pure_ (i := 23) (N := some 106) (v := ?_) (a' := ?_) #[true, true, true, true, true, true, true, true, true, true, true, true, true, true, true, true, true, true, true, true, true, true, true, true, false, false] rfl rfl (any_of HT_.out (by kernel_rfl)) (fun _ _ _ h => h) (Or.inl ⟨by rfl, ?_⟩) ?_ ?_
            rotate_left
            · intro w'
              go_simp
              with_reducible rfl
            rotate_left
            · simp only [Act.put, List.setIfInBounds_toArray, List.set_cons_zero, List.set_cons_succ]
              rfl
            refine pure_ (i := 24) (N := some 107) (v := ?_) (a' := ?_) #[true, true, true, true, true, true, true, true, true, true, true, true, true, true, true, true, true, true, true, true, true, true, true, true, true, false] rfl rfl (any_of HT_.out (by kernel_rfl)) (fun _ _ _ h => h) (Or.inl ⟨by rfl, ?_⟩) ?_ ?_
            rotate_left
            · intro w'
              go_simp
              with_reducible rfl
            rotate_left
            · simp only [Act.put, List.setIfInBounds_toArray, List.set_cons_zero, List.set_cons_succ]
              rfl
            refine pure_ (i := 25) (N := some 8) (v := ?_) (a' := ?_) #[true, true, true, true, true, true, true, true, true, true, true, true, true, true, true, true, true, true, true, true, true, true, true, true, true, true] rfl rfl (any_of HT_.out (by kernel_rfl)) (fun _ _ _ h => h) (Or.inl ⟨by rfl, ?_⟩) ?_ ?_
            rotate_left
            · intro w'
              go_simp
              with_reducible rfl
            rotate_left
            · simp only [Act.put, List.setIfInBounds_toArray, List.set_cons_zero, List.set_cons_succ]
              rfl
            refine done_ (done_of HT_.out (by kernel_rfl)) ?_
            clear HT_ HW_
            go_wp2_with fail; go_ret; exact ⟨by first | rfl | simp, HW.out.trans (hHeld.mono HW.out.size)⟩
          · have HT : Hid (tookS s = IntKind.u64.wrap (s.f8 - s.f7)) := if_neg ht
            obtain ⟨k0, k1, k2, k3, k4, k5, k6, k7, k8, k9, k10, k11, k12, k13, k14, k15, k16, k17, k18, k19, k20, k21, k22, k23, k24, k25, k26, k27, k28, k29⟩ := EC.out _ HBz.out
            go_wp2_with fail
            clear k0 k1 k2 k3 k4 k5 k6 k7 k8 k9 k10 k11 k12 k13 k14 k15 k16 k17 k18 k19 k20 k21 k22 k23 k24 k25 k26 k27 k28 k29
            refine start_ (n := 26) (S := (fun w' => Below wo.heap.size wo w')) (ds := []) #[false, false, false, false, false, false, false, false, false, false, false, false, false, false, false, false, false, false, false, false, false, false, false, false, false, false] (by kernel_rfl) rfl rfl (Below_drewN HBz.out 1) (fun hHeld => ?_); refine with_tabW tab5_12 bits5_12 (fun HT_ HW_ => ?_)
            refine take_ (i := 0) (N := some 83) (v := ?_) (a' := ?_) #[true, false, false, false, false, false, false, false, false, false, false, false, false, false, false, false, false, false, false, false, false, false, false, false, false, false] rfl rfl (take_ofW HT_.out HW_.out (by kernel_rfl)) (fun _ _ _ h => h) (Or.inl ⟨by rfl, ?_⟩) hHeld ?_ ?_
            rotate_left
            · rintro w' hS; obtain ⟨k0, k1, k2, k3, k4, k5, k6, k7, k8, k9, k10, k11, k12, k13, k14, k15, k16, k17, k18, k19, k20, k21, k22, k23, k24, k25, k26, k27, k28, k29⟩ := EC.out w' hS
              go_simp
              with_reducible rfl
            rotate_left
            · simp only [Act.put, List.setIfInBounds_toArray, List.set_cons_zero, List.set_cons_succ]
              rfl
            refine pure_ (i := 3) (N := some 86) (v := ?_) (a' := ?_) #[true, false, false, true, false, false, false, false, false, false, false, false, false, false, false, false, false, false, false, false, false, false, false, false, false, false] rfl rfl (any_of HT_.out (by kernel_rfl)) (fun _ _ _ h => h) (Or.inl ⟨by rfl, ?_⟩) ?_ ?_
            rotate_left
            · intro w'
              go_simp
              with_reducible rfl
            rotate_left
            · simp only [Act.put, List.setIfInBounds_toArray, List.set_cons_zero, List.set_cons_succ]
              rfl
            refine take_ (i := 4) (N := some 87) (v := ?_) (a' := ?_) #[true, false, false, true, true, false, false, false, false, false, false, false, false, false, false, false, false, false, false, false, false, false, false, false, false, false] rfl rfl (take_ofW HT_.out HW_.out (by kernel_rfl)) (fun _ _ _ h => h) (Or.inl ⟨by rfl, ?_⟩) hHeld ?_ ?_
            rotate_left
            · rintro w' hS; obtain ⟨k0, k1, k2, k3, k4, k5, k6, k7, k8, k9, k10, k11, k12, k13, k14, k15, k16, k17, k18, k19, k20, k21, k22, k23, k24, k25, k26, k27, k28, k29⟩ := EC.out w' hS
              go_simp
              with_reducible rfl
            rotate_left
            · simp only [Act.put, List.setIfInBounds_toArray, List.set_cons_zero, List.set_cons_succ]
              rfl
            refine pure_ (i := 5) (N := some 88) (v := ?_) (a' := ?_) #[true, false, false, true, true, true, false, false, false, false, false, false, false, false, false, false, false, false, false, false, false, false, false, false, false, false] rfl rfl (any_of HT_.out (by kernel_rfl)) (fun _ _ _ h => h) (Or.inl ⟨by rfl, ?_⟩) ?_ ?_
            rotate_left
            · intro w'
              go_simp
              with_reducible rfl
            rotate_left
            · simp only [Act.put, List.setIfInBounds_toArray, List.set_cons_zero, List.set_cons_succ]
              rfl
            refine take_ (i := 6) (N := some 89) (v := ?_) (a' := ?_) #[true, false, false, true, true, true, true, false, false, false, false, false, false, false, false, false, false, false, false, false, false, false, false, false, false, false] rfl rfl (take_ofW HT_.out HW_.out (by kernel_rfl)) (fun _ _ _ h => h) (Or.inl ⟨by rfl, ?_⟩) hHeld ?_ ?_
            rotate_left
            · rintro w' hS; obtain ⟨k0, k1, k2, k3, k4, k5, k6, k7, k8, k9, k10, k11, k12, k13, k14, k15, k16, k17, k18, k19, k20, k21, k22, k23, k24, k25, k26, k27, k28, k29⟩ := EC.out w' hS
              go_simp
              with_reducible rfl
            rotate_left
            · simp only [Act.put, List.setIfInBounds_toArray, List.set_cons_zero, List.set_cons_succ]
              rfl
            refine pure_ (i := 7) (N := some 90) (v := ?_) (a' := ?_) #[true, false, false, true, true, true, true, true, false, false, false, false, false, false, false, false, false, false, false, false, false, false, false, false, false, false] rfl rfl (any_of HT_.out (by kernel_rfl)) (fun _ _ _ h => h) (Or.inl ⟨by rfl, ?_⟩) ?_ ?_
            rotate_left
            · intro w'
              go_simp
              with_reducible rfl
            rotate_left
            · simp only [Act.put, List.setIfInBounds_toArray, List.set_cons_zero, List.set_cons_succ]
              rfl
            refine pure_ (i := 8) (N := some 91) (v := ?_) (a' := ?_) #[true, false, false, true, true, true, true, true, true, false, false, false, false, false, false, false, false, false, false, false, false, false, false, false, false, false] rfl rfl (any_of HT_.out (by kernel_rfl)) (fun _ _ _ h => h) (Or.inl ⟨by rfl, ?_⟩) ?_ ?_
            rotate_left
            · intro w'
              go_simp
              with_reducible rfl
            rotate_left
            · simp only [Act.put, List.setIfInBounds_toArray, List.set_cons_zero, List.set_cons_succ]
              rfl
            refine take_ (i := 9) (N := some 92) (v := ?_) (a' := ?_) #[true, false, false, true, true, true, true, true, true, true, false, false, false, false, false, false, false, false, false, false, false, false, false, false, false, false] rfl rfl (take_ofW HT_.out HW_.out (by kernel_rfl)) (fun _ _ _ h => h) (Or.inl ⟨by rfl, ?_⟩) hHeld ?_ ?_
            rotate_left
            · rintro w' hS; obtain ⟨k0, k1, k2, k3, k4, k5, k6, k7, k8, k9, k10, k11, k12, k13, k14, k15, k16, k17, k18, k19, k20, k21, k22, k23, k24, k25, k26, k27, k28, k29⟩ := EC.out w' hS
              go_simp
              with_reducible rfl
            rotate_left
            · simp only [Act.put, List.setIfInBounds_toArray, List.set_cons_zero, List.set_cons_succ]
              rfl
            refine pure_ (i := 10) (N := some 93) (v := ?_) (a' := ?_) #[true, false, false, true, true, true, true, true, true, true, true, false, false, false, false, false, false, false, false, false, false, false, false, false, false, false] rfl rfl (any_of HT_.out (by kernel_rfl)) (fun _ _ _ h => h) (Or.inl ⟨by rfl, ?_⟩) ?_ ?_
            rotate_left
            · intro w'
              go_simp
              with_reducible rfl
            rotate_left
            · simp only [Act.put, List.setIfInBounds_toArray, List.set_cons_zero, List.set_cons_succ]
              rfl
            refine pure_ (i := 11) (N := some 94) (v := ?_) (a' := ?_) #[true, false, false, true, true, true, true, true, true, true, true, true, false, false, false, false, false, false, false, false, false, false, false, false, false, false] rfl rfl (any_of HT_.out (by kernel_rfl)) (fun _ _ _ h => h) (Or.inl ⟨by rfl, ?_⟩) ?_ ?_
            rotate_left
            · intro w'
              go_simp
              with_reducible rfl
            rotate_left
            · simp only [Act.put, List.setIfInBounds_toArray, List.set_cons_zero, List.set_cons_succ]
              rfl
            refine one_ (i := 1) (N := some 84) #[true, true, false, true, true, true, true, true, true, true, true, true, false, false, false, false, false, false, false, false, false, false, false, false, false, false] rfl rfl (one_of HT_.out (by kernel_rfl)) (by decide) (fun K hK => ?_)
            rw [if_pos (by rfl)]
            go_simp
            go_at_call 16; refine (Of_c s hl _ As cs (Kd.C_below HCs.out (HW.out.trans (hHeld.mono HW.out.size))) hcs).mono ?_; rintro e w3 ⟨R, A', c', rfl, hc', hC', hb⟩; have HC' := Lib.hid hC'; clear hC'
            refine hK.out _ _ (hHeld.trans (hb.mono hHeld.size)) (fun hHeld => ?_)
            clear hK K
            refine one_ (i := 2) (N := some 85) #[true, true, true, true, true, true, true, true, true, true, true, true, false, false, false, false, false, false, false, false, false, false, false, false, false, false] rfl rfl (one_of HT_.out (by kernel_rfl)) (by decide) (fun K hK => ?_)
            rw [if_pos (by rfl)]
            go_simp
            go_at_call 15; refine (ExOf_c s R _ A' c' HC'.out hc').mono ?_; rintro e w4 ⟨rfl, hb⟩; rw [HT.out]
            refine hK.out _ _ (hHeld.trans (hb.mono hHeld.size)) (fun hHeld => ?_)
            clear hK K
            refine pure_ (i := 12) (N := some 95) (v := ?_) (a' := ?_) #[true, true, true, true, true, true, true, true, true, true, true, true, true, false, false, false, false, false, false, false, false, false, false, false, false, false] rfl rfl (any_of HT_.out (by kernel_rfl)) (fun _ _ _ h => h) (Or.inl ⟨by rfl, ?_⟩) ?_ ?_
            rotate_left
            · intro w'
              go_simp
              with_reducible rfl
            rotate_left
            · simp only [Act.put, List.setIfInBounds_toArray, List.set_cons_zero, List.set_cons_succ]
              rfl
            refine pure_ (i := 13) (N := some 96) (v := ?_) (a' := ?_) #[true, true, true, true, true, true, true, true, true, true, true, true, true, true, false, false, false, false, false, false, false, false, false, false, false, false] rfl rfl (any_of HT_.out (by kernel_rfl)) (fun _ _ _ h => h) (Or.inl ⟨by rfl, ?_⟩) ?_ ?_
            rotate_left
            · intro w'
              go_simp
              with_reducible rfl
            rotate_left
            · simp only [Act.put, List.setIfInBounds_toArray, List.set_cons_zero, List.set_cons_succ]
              rfl
            refine pure_ (i := 14) (N := some 97) (v := ?_) (a' := ?_) #[true, true, true, true, true, true, true, true, true, true, true, true, true, true, true, false, false, false, false, false, false, false, false, false, false, false] rfl rfl (any_of HT_.out (by kernel_rfl)) (fun _ _ _ h => h) (Or.inl ⟨by rfl, ?_⟩) ?_ ?_
            rotate_left
            · intro w'
              go_simp
              with_reducible rfl
            rotate_left
            · simp only [Act.put, List.setIfInBounds_toArray, List.set_cons_zero, List.set_cons_succ]
              rfl
            refine take_ (i := 15) (N := some 98) (v := ?_) (a' := ?_) #[true, true, true, true, true, true, true, true, true, true, true, true, true, true, true, true, false, false, false, false, false, false, false, false, false, false] rfl rfl (take_ofW HT_.out HW_.out (by kernel_rfl)) (fun _ _ _ h => h) (Or.inl ⟨by rfl, ?_⟩) hHeld ?_ ?_
            rotate_left
            · rintro w' hS; obtain ⟨k0, k1, k2, k3, k4, k5, k6, k7, k8, k9, k10, k11, k12, k13, k14, k15, k16, k17, k18, k19, k20, k21, k22, k23, k24, k25, k26, k27, k28, k29⟩ := EC.out w' hS
              go_simp
              with_reducible rfl
            rotate_left
            · simp only [Act.put, List.setIfInBounds_toArray, List.set_cons_zero, List.set_cons_succ]
              rfl
            refine one_ (i := 16) (N := some 99) #[true, true, true, true, true, true, true, true, true, true, true, true, true, true, true, true, true, false, false, false, false, false, false, false, false, false] rfl rfl (one_of HT_.out (by kernel_rfl)) (by decide) (fun K hK => ?_)
            rw [if_pos (by rfl)]
            go_simp
            go_at_call 8; refine (Put_nil (toE a) _).mono ?_; rintro e w5 ⟨rfl, hb⟩
            refine hK.out _ _ (hHeld.trans (hb.mono hHeld.size)) (fun hHeld => ?_)
            clear hK K
            refine pure_ (i := 17) (N := some 100) (v := ?_) (a' := ?_) #[true, true, true, true, true, true, true, true, true, true, true, true, true, true, true, true, true, true, false, false, false, false, false, false, false, false] rfl rfl (any_of HT_.out (by kernel_rfl)) (fun _ _ _ h => h) (Or.inl ⟨by rfl, ?_⟩) ?_ ?_
            rotate_left
            · intro w'
              go_simp
              with_reducible rfl
            rotate_left
            · simp only [Act.put, List.setIfInBounds_toArray, List.set_cons_zero, List.set_cons_succ]
              rfl
            refine pure_ (i := 18) (N := some 101) (v := ?_) (a' := ?_) #[true, true, true, true, true, true, true, true, true, true, true, true, true, true, true, true, true, true, true, false, false, false, false, false, false, false] rfl rfl (any_of HT_.out (by kernel_rfl)) (fun _ _ _ h => h) (Or.inl ⟨by rfl, ?_⟩) ?_ ?_
            rotate_left
            · intro w'
              go_simp
              with_reducible rfl
            rotate_left
            · simp only [Act.put, List.setIfInBounds_toArray, List.set_cons_zero, List.set_cons_succ]
              rfl
            refine pure_ (i := 19) (N := some 102) (v := ?_) (a' := ?_) #[true, true, true, true, true, true, true, true, true, true, true, true, true, true, true, true, true, true, true, true, false, false, false, false, false, false] rfl rfl (any_of HT_.out (by kernel_rfl)) (fun _ _ _ h => h) (Or.inl ⟨by rfl, ?_⟩) ?_ ?_
            rotate_left
            · intro w'
              go_simp
              with_reducible rfl
            rotate_left
            · simp only [Act.put, List.setIfInBounds_toArray, List.set_cons_zero, List.set_cons_succ]
              rfl
            refine pure_ (i := 20) (N := some 103) (v := ?_) (a' := ?_) #[true, true, true, true, true, true, true, true, true, true, true, true, true, true, true, true, true, true, true, true, true, false, false, false, false, false] rfl rfl (any_of HT_.out (by kernel_rfl)) (fun _ _ _ h => h) (Or.inl ⟨by rfl, ?_⟩) ?_ ?_
            rotate_left
            · intro w'
              go_simp
              with_reducible rfl
            rotate_left
            · simp only [Act.put, List.setIfInBounds_toArray, List.set_cons_zero, List.set_cons_succ]
              rfl
            refine one_ (i := 21) (N := some 104) #[true, true, true, true, true, true, true, true, true, true, true, true, true, true, true, true, true, true, true, true, true, true, false, false, false, false] rfl rfl (one_of HT_.out (by kernel_rfl)) (by decide) (fun K hK => ?_)
            rw [if_pos (by rfl)]
            go_simp
            go_at_call 10; refine (Best_nil _).mono ?_; rintro e w6 ⟨rfl, rfl⟩
            refine hK.out _ _ hHeld (fun hHeld => ?_)
            clear hK K
            refine pure_ (i := 22) (N := some 105) (v := ?_) (a' := ?_) #[true, true, true, true, true, true, true, true, true, true, true, true, true, true, true, true, true, true, true, true, true, true, true, false, false, false] rfl rfl (any_of HT_.out (by kernel_rfl)) (fun _ _ _ h => h) (Or.inl ⟨by rfl, ?_⟩) ?_ ?_
            rotate_left
            · intro w'
              go_simp
              with_reducible rfl
            rotate_left
            · simp only [Act.put, List.setIfInBounds_toArray, List.set_cons_zero, List.set_cons_succ]
              rfl
            refine pure_ (i := 23) (N := some 106) (v := ?_) (a' := ?_) #[true, true, true, true, true, true, true, true, true, true, true, true, true, true, true, true, true, true, true, true, true, true, true, true, false, false] rfl rfl (any_of HT_.out (by kernel_rfl)) (fun _ _ _ h => h) (Or.inl ⟨by rfl, ?_⟩) ?_ ?_
            rotate_left
            · intro w'
              go_simp
              with_reducible rfl
            rotate_left
            · simp only [Act.put, List.setIfInBounds_toArray, List.set_cons_zero, List.set_cons_succ]
              rfl
            refine pure_ (i := 24) (N := some 107) (v := ?_) (a' := ?_) #[true, true, true, true, true, true, true, true, true, true, true, true, true, true, true, true, true, true, true, true, true, true, true, true, true, false] rfl rfl (any_of HT_.out (by kernel_rfl)) (fun _ _ _ h => h) (Or.inl ⟨by rfl, ?_⟩) ?_ ?_
            rotate_left
            · intro w'
              go_simp
              with_reducible rfl
            rotate_left
            · simp only [Act.put, List.setIfInBounds_toArray, List.set_cons_zero, List.set_cons_succ]
              rfl
            refine pure_ (i := 25) (N := some 8) (v := ?_) (a' := ?_) #[true, true, true, true, true, true, true, true, true, true, true, true, true, true, true, true, true, true, true, true, true, true, true, true, true, true] rfl rfl (any_of HT_.out (by kernel_rfl)) (fun _ _ _ h => h) (Or.inl ⟨by rfl, ?_⟩) ?_ ?_
            rotate_left
            · intro w'
              go_simp
              with_reducible rfl
            rotate_left
            · simp only [Act.put, List.setIfInBounds_toArray, List.set_cons_zero, List.set_cons_succ]
              rfl
            refine done_ (done_of HT_.out (by kernel_rfl)) ?_
            clear HT_ HW_
            go_wp2_with fail; go_ret; exact ⟨by first | rfl | simp, HW.out.trans (hHeld.mono HW.out.size)⟩
end Go.Proofs.Ytbedoahkpdpmeaa.exemplarOrder
