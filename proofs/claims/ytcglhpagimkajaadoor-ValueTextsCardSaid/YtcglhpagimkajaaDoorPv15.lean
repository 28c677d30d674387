/- The contract of tallyroomref04_Digits, as the kit's print wrote it (taken over by the session's program pick.py). -/
import Derived.Test.YtcglhpagimkajaaDoorPv14
namespace Go.Proofs.YtcglhpagimkajaaDoor.Pv
open Go.RowKit Go.Proofs.YtcglhpagimkajaaDoorW.PrintWords Go.Proofs.YtcglhpagimkajaaDoorW.PrintLast Go.Proofs.YtcglhpagimkajaaDoorW.PrintMore
attribute [local go_sem] max2_int min2_int max_two min_two max_three min_three max_four min_four
set_option linter.unusedVariables false
set_option linter.unusedSimpArgs false

/-! ### tallyroomref04_Digits: function 25 -/
mutual
def tallyroomref04_Digits.j0 : Nat → ByteArray → Int → Option (ByteArray)
  | 0, _, _ => none
  | k + 1, x3, x4 => tallyroomref04_Digits.l0 k x3 x4 (⟨#[]⟩ : ByteArray)
def tallyroomref04_Digits.l0 : Nat → ByteArray → Int → ByteArray → Option (ByteArray)
  | 0, _, _, _ => none
  | k + 1, x3, x4, x5 => (some (([(IntKind.u64.wrap (48 + (Int.tmod x4 10))) % 256] : List Int) : List Int)).bind fun y123 => (if (strOfNums y123).size + x5.size ≤ 9223372036854775807 then (if (IntKind.u64.wrap (Int.tdiv x4 10)) = 0 then (if x3.size + ((strOfNums y123) ++ x5).size ≤ 9223372036854775807 then (some (x3 ++ ((strOfNums y123) ++ x5))) else (none)) else (tallyroomref04_Digits.l0 k x3 (IntKind.u64.wrap (Int.tdiv x4 10)) ((strOfNums y123) ++ x5))) else (none))
end
def tallyroomref04_Digits.f (k : Nat) (a0 : Int) : Option (ByteArray) := if a0 < 0 then (tallyroomref04_Digits.j0 k (⟨#[45]⟩ : ByteArray) (IntKind.u64.wrap ((IntKind.u64.wrap (wrap64 (-(wrap64 (a0 + 1))))) + 1))) else (tallyroomref04_Digits.j0 k (⟨#[]⟩ : ByteArray) (IntKind.u64.wrap (a0)))
theorem tallyroomref04_Digits.mono_l : ∀ k, (∀ y0 y1, LeO (tallyroomref04_Digits.j0 k y0 y1) (tallyroomref04_Digits.j0 (k + 1) y0 y1)) ∧ (∀ y0 y1 y2, LeO (tallyroomref04_Digits.l0 k y0 y1 y2) (tallyroomref04_Digits.l0 (k + 1) y0 y1 y2))
  | 0 => ⟨fun _ _ r h => by simp [tallyroomref04_Digits.j0] at h, fun _ _ _ r h => by simp [tallyroomref04_Digits.l0] at h⟩
  | k + 1 => by
    obtain ⟨ih0, ih1⟩ := tallyroomref04_Digits.mono_l k
    refine ⟨?_, ?_⟩
    · intro y0 y1
      unfold tallyroomref04_Digits.j0
      repeat' first
      | (with_reducible exact ih0 _ _)
      | (with_reducible exact ih1 _ _ _)
      | (with_reducible exact LeO.refl _)
      | (with_reducible exact LeO.none _)
      | (with_reducible refine LeO.ite ?_ ?_)
      | (with_reducible refine LeO.bind ?_ (fun _ => ?_))
      | exact ih0 _ _
      | exact ih1 _ _ _
      | exact LeO.none _
      | refine LeO.ite ?_ ?_
      | refine LeO.bind ?_ (fun _ => ?_)
    · intro y0 y1 y2
      unfold tallyroomref04_Digits.l0
      repeat' first
      | (with_reducible exact ih0 _ _)
      | (with_reducible exact ih1 _ _ _)
      | (with_reducible exact LeO.refl _)
      | (with_reducible exact LeO.none _)
      | (with_reducible refine LeO.ite ?_ ?_)
      | (with_reducible refine LeO.bind ?_ (fun _ => ?_))
      | exact ih0 _ _
      | exact ih1 _ _ _
      | exact LeO.none _
      | refine LeO.ite ?_ ?_
      | refine LeO.bind ?_ (fun _ => ?_)
theorem tallyroomref04_Digits.mono : ∀ a0 k, LeO (tallyroomref04_Digits.f k a0) (tallyroomref04_Digits.f (k + 1) a0) := by
  intro a0 k
  obtain ⟨ih0, ih1⟩ := tallyroomref04_Digits.mono_l k
  unfold tallyroomref04_Digits.f
  repeat' first
      | (with_reducible exact ih0 _ _)
      | (with_reducible exact ih1 _ _ _)
      | (with_reducible exact LeO.refl _)
      | (with_reducible exact LeO.none _)
      | (with_reducible refine LeO.ite ?_ ?_)
      | (with_reducible refine LeO.bind ?_ (fun _ => ?_))
      | exact ih0 _ _
      | exact ih1 _ _ _
      | exact LeO.none _
      | refine LeO.ite ?_ ?_
      | refine LeO.bind ?_ (fun _ => ?_)
set_option maxHeartbeats 8000000 in
set_option maxRecDepth 100000 in
theorem tallyroomref04_Digits.calls (k : Nat) (a0 : Int) (r : ByteArray) (w : World) (h : tallyroomref04_Digits.f k a0 = some r) :
    Calls Tryd.prog 25 #[.int .i64 a0] w fun e w' => e = .returned (.string r) ∧ Below w.heap.size w w' := by
  have HB := Aside0.mk (Below.refl w.heap.size w)
  have H : (if a0 < 0 then (tallyroomref04_Digits.j0 k (⟨#[45]⟩ : ByteArray) (IntKind.u64.wrap ((IntKind.u64.wrap (wrap64 (-(wrap64 (a0 + 1))))) + 1))) else (tallyroomref04_Digits.j0 k (⟨#[]⟩ : ByteArray) (IntKind.u64.wrap (a0)))) = some r := h
  clear h
  have HC2 := Aside0.mk H
  clear H
  go_enter Tryd.func25, Tryd.ntmps25
  go_upto_if 9 with (fail)
  go_cut [3, 4] (fun v3 v4 wc => ∃ (kq : Nat) (x3_1 : ByteArray) (x4_1 : Int), v3 = .string x3_1 ∧ v4 = .int .u64 x4_1 ∧ Aside0 (tallyroomref04_Digits.j0 kq x3_1 x4_1 = some r) ∧ Aside0 (kq ≤ k) ∧ Aside0 (Below w.heap.size w wc))
  case first =>
    have H := HC2.out
    clear HC2
    by_cases c3 : a0 < 0
    · rw [if_pos c3] at H
      have c3b0 : decide (a0 < 0) = true := decide_eq_true c3
      clear c3
      (first | rw [c3b0] | (simp only [i64_w, i32_w]; rw [c3b0]) | skip)
      have H' := Aside0.mk H
      clear H
      go_wp2
      go_meet
      case rel => exact ⟨_, ((⟨#[45]⟩ : ByteArray)), (IntKind.u64.wrap ((IntKind.u64.wrap (wrap64 (-(wrap64 (a0 + 1))))) + 1)), (by first | rfl | (simp; done) | (simp [*]; done)), (by first | rfl | (simp; done) | (simp [*]; done)), H', ⟨by first | omega | exact Nat.le_refl _⟩, ⟨by repeat (first | (with_reducible first | exact HB.out | apply below_alloc | apply pw_below_drewN | apply below_drew1) | exact HB.out)⟩⟩
    · rw [if_neg c3] at H
      have c3b0 : decide (a0 < 0) = false := decide_eq_false c3
      clear c3
      (first | rw [c3b0] | (simp only [i64_w, i32_w]; rw [c3b0]) | skip)
      have H' := Aside0.mk H
      clear H
      go_wp2
      go_meet
      case rel => exact ⟨_, ((⟨#[]⟩ : ByteArray)), (IntKind.u64.wrap (a0)), (by first | rfl | (simp; done) | (simp [*]; done)), (by first | rfl | (simp; done) | (simp [*]; done)), H', ⟨by first | omega | exact Nat.le_refl _⟩, ⟨by repeat (first | (with_reducible first | exact HB.out | apply below_alloc | apply pw_below_drewN | apply below_drew1) | exact HB.out)⟩⟩
  case rest =>
    clear HC2
    try clear c2
    try clear p2
    try clear c3
    try clear c3b0
    obtain ⟨kq, x3_1, x4_1, rfl, rfl, HA, HJ1, HB⟩ := hcut
    cases kq with
    | zero => exact absurd HA.out (by simp [tallyroomref04_Digits.j0])
    | succ kj1 =>
      have H := HA.out
      clear HA
      simp only [tallyroomref04_Digits.j0] at H
      have H' := Aside0.mk H
      clear H
      go_wp2
      go_loopg [4, 5] kj1 (fun kq v4 v5 w' => ∃ (x4_2 : Int) (x5_2 : ByteArray), v4 = .int .u64 x4_2 ∧ v5 = .string x5_2 ∧ Aside0 (tallyroomref04_Digits.l0 kq x3_1 x4_2 x5_2 = some r) ∧ Aside0 (kq ≤ kj1) ∧ Aside0 (Below w.heap.size w w'))
      case atStart => exact ⟨(x4_1), ((⟨#[]⟩ : ByteArray)), (by first | rfl | (simp; done) | (simp [*]; done)), (by first | rfl | (simp; done) | (simp [*]; done)), H', ⟨Nat.le_refl _⟩, ⟨by repeat (first | (with_reducible first | exact HB.out | apply below_alloc | apply pw_below_drewN | apply below_drew1) | exact HB.out)⟩⟩
      case round =>
        clear H'
        try clear c2
        try clear p2
        try clear c3
        try clear c3b0
        try clear p2
        obtain ⟨x4_2, x5_2, rfl, rfl, HA, HK2, HB⟩ := hrel
        cases gk with
        | zero => exact absurd HA.out (by simp [tallyroomref04_Digits.l0])
        | succ k2 =>
          have H := HA.out
          clear HA
          simp only [tallyroomref04_Digits.l0] at H
          obtain ⟨y123, hy123⟩ : ∃ y_ : List Int, y_ = (([(IntKind.u64.wrap (48 + (Int.tmod x4_2 10))) % 256] : List Int)) := ⟨_, rfl⟩
          replace H : (if (strOfNums y123).size + x5_2.size ≤ 9223372036854775807 then (if (IntKind.u64.wrap (Int.tdiv x4_2 10)) = 0 then (if x3_1.size + ((strOfNums y123) ++ x5_2).size ≤ 9223372036854775807 then (some (x3_1 ++ ((strOfNums y123) ++ x5_2))) else (none)) else (tallyroomref04_Digits.l0 k2 x3_1 (IntKind.u64.wrap (Int.tdiv x4_2 10)) ((strOfNums y123) ++ x5_2))) else (none)) = some r := by first | (rw [hy123]; with_reducible exact H) | (have H2_ := (Option.bind_some _ _).symm.trans H; rw [hy123]; with_reducible exact H2_) | (have H2_ := (Option.bind_some _ _).symm.trans H; with_reducible exact H2_) | with_reducible exact H | (rw [hy123]; exact H) | exact H
          have Ny123 := Aside0.mk hy123
          clear hy123
          by_cases c4 : (strOfNums y123).size + x5_2.size ≤ 9223372036854775807
          · rw [if_pos c4] at H
            have c4b0 := eq_true c4
            have c4b1 : decide ((strOfNums y123).size + x5_2.size ≤ 9223372036854775807) = true := decide_eq_true c4
            try have c4b2 : (9223372036854775807 < (strOfNums y123).size + x5_2.size) = False := eq_false (Nat.not_lt.2 c4)
            by_cases c5 : (IntKind.u64.wrap (Int.tdiv x4_2 10)) = 0
            · rw [if_pos c5] at H
              have c5b0 : ((IntKind.u64.wrap (Int.tdiv x4_2 10)) == 0) = true := beq_iff_eq.mpr c5
              have c5b1 : ((IntKind.u64.wrap (Int.tdiv x4_2 10)) != 0) = false := bne_eq_false_iff_eq.mpr c5
              clear c5
              by_cases c6 : x3_1.size + ((strOfNums y123) ++ x5_2).size ≤ 9223372036854775807
              · rw [if_pos c6] at H
                have c6b0 := eq_true c6
                have c6b1 : decide (x3_1.size + ((strOfNums y123) ++ x5_2).size ≤ 9223372036854775807) = true := decide_eq_true c6
                try have c6b2 : (9223372036854775807 < x3_1.size + ((strOfNums y123) ++ x5_2).size) = False := eq_false (Nat.not_lt.2 c6)
                obtain rfl := Option.some.inj H
                go_wp2_with (first | ((with_reducible refine gate_dst (N := 19) rfl ?_); refine Kd.R_lit (Kd.int .u8) _ 5 ?hg (N := 19) ?hd (xs := ([(IntKind.u64.wrap (48 + (Int.tmod x4_2 10))) % 256] : List Int)) (inner := [.int .u8 ((IntKind.u64.wrap (48 + (Int.tmod x4_2 10))) % 256)]) (ok := fun _ => True) (okp := fun _ => True) ?hr ?hp (fun _ hk => hk) trivial (Below.refl _ _) (Nat.le_refl _) (by simp) ?_; (case hd => rfl); (case hg => rfl); (case hr => first | (go_simp; done) | (go_simp; rfl)); (case hp => exact (Reps.one (show Kd.M (Kd.int .u8) _ _ _ ((IntKind.u64.wrap (48 + (Int.tmod x4_2 10))) % 256) [.int .u8 ((IntKind.u64.wrap (48 + (Int.tmod x4_2 10))) % 256)] from rfl) (Reps.none _ _))); intro v124 w7 ho8 hb hg_ hnew_; clear hg_ hnew_; (first | rw [← Ny123.out] at ho8 | (simp only [Int.reduceToNat] at ho8; rw [← Ny123.out] at ho8)); have n0_ := Aside0.mk (Kd.R_lower ho8 (below_size (by repeat (first | (with_reducible first | exact HB.out | apply below_alloc | apply pw_below_drewN | apply below_drew1) | exact HB.out)))); have n1_ := Aside0.mk (below_step (by repeat (first | (with_reducible first | exact HB.out | apply below_alloc | apply pw_below_drewN | apply below_drew1) | exact HB.out)) hb); clear HB; have HO125 := n0_; have HB := n1_; clear n0_ n1_; clear hb ho8; have hcv9 := own_string (P := Tryd.prog) Tryd.underlying40 Tryd.underlying5 Tryd.underlying9 (Kd.own_of_R HO125.out)))
                go_ret
                exact ⟨by first | rfl | (simp [errW_none, errW_some] <;> rfl) | (simp [*, errW_none, errW_some] <;> rfl), by repeat (first | (with_reducible first | exact HB.out | apply below_alloc | apply pw_below_drewN | apply below_drew1) | exact HB.out)⟩
              · rw [if_neg c6] at H
                exact absurd H (by simp)
            · rw [if_neg c5] at H
              have c5b0 : ((IntKind.u64.wrap (Int.tdiv x4_2 10)) == 0) = false := beq_eq_false_iff_ne.mpr c5
              have c5b1 : ((IntKind.u64.wrap (Int.tdiv x4_2 10)) != 0) = true := bne_iff_ne.mpr c5
              have H' := Aside0.mk H
              clear H
              go_wp2_with (first | ((with_reducible refine gate_dst (N := 19) rfl ?_); refine Kd.R_lit (Kd.int .u8) _ 5 ?hg (N := 19) ?hd (xs := ([(IntKind.u64.wrap (48 + (Int.tmod x4_2 10))) % 256] : List Int)) (inner := [.int .u8 ((IntKind.u64.wrap (48 + (Int.tmod x4_2 10))) % 256)]) (ok := fun _ => True) (okp := fun _ => True) ?hr ?hp (fun _ hk => hk) trivial (Below.refl _ _) (Nat.le_refl _) (by simp) ?_; (case hd => rfl); (case hg => rfl); (case hr => first | (go_simp; done) | (go_simp; rfl)); (case hp => exact (Reps.one (show Kd.M (Kd.int .u8) _ _ _ ((IntKind.u64.wrap (48 + (Int.tmod x4_2 10))) % 256) [.int .u8 ((IntKind.u64.wrap (48 + (Int.tmod x4_2 10))) % 256)] from rfl) (Reps.none _ _))); intro v124 w10 ho11 hb hg_ hnew_; clear hg_ hnew_; (first | rw [← Ny123.out] at ho11 | (simp only [Int.reduceToNat] at ho11; rw [← Ny123.out] at ho11)); have n0_ := Aside0.mk (Kd.R_lower ho11 (below_size (by repeat (first | (with_reducible first | exact HB.out | apply below_alloc | apply pw_below_drewN | apply below_drew1) | exact HB.out)))); have n1_ := Aside0.mk (below_step (by repeat (first | (with_reducible first | exact HB.out | apply below_alloc | apply pw_below_drewN | apply below_drew1) | exact HB.out)) hb); clear HB; have HO125 := n0_; have HB := n1_; clear n0_ n1_; clear hb ho11; have hcv12 := own_string (P := Tryd.prog) Tryd.underlying40 Tryd.underlying5 Tryd.underlying9 (Kd.own_of_R HO125.out)))
              go_roundg k2
              case measure => have := HJ1.out; have := HK2.out; omega
              case rel => exact ⟨(IntKind.u64.wrap (Int.tdiv x4_2 10)), ((strOfNums y123) ++ x5_2), (by first | rfl | (simp; done) | (simp [*]; done)), (by first | rfl | (simp; done) | (simp [*]; done)), H', ⟨by have := HJ1.out; have := HK2.out; omega⟩, ⟨by repeat (first | (with_reducible first | exact HB.out | apply below_alloc | apply pw_below_drewN | apply below_drew1) | exact HB.out)⟩⟩
          · rw [if_neg c4] at H
            exact absurd H (by simp)



end Go.Proofs.YtcglhpagimkajaaDoor.Pv
