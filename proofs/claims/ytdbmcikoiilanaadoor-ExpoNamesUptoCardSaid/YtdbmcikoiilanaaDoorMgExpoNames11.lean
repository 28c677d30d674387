/- expo: right, as a Call. The contract of tallyroomref03_Key, as the kit's print wrote it (taken over by the session's program pick.py). The contract of tallyroomref36_Right, as the kit's print wrote it (taken over by the session's program pick.py). expo: the document's Key and Right are keyL and rightL. expo: the document's Right is rightL. The contract of tallyroomlaw36_Of, as the kit's print wrote it (taken over by the session's program pick.py). expo: the law's Of, as a list's map. strings.Builder, once more: what WriteByte and WriteString leave alone besides (all blocks that are no bytes, but the builder's own). expo: quote, Print, as Calls. expo: Print, as a Call. expo: the reader's until, next, quoted, as Calls. expo: the reader's quoted, as a Call. -/
import Derived.Test.YtdbmcikoiilanaaDoorMgExpoNames9
import Derived.Test.YtdbmcikoiilanaaDoorMgExpoNames10
import Derived.Test.YtdbmcikoiilanaaDoorMgExpoNames7
import Derived.Test.YtdbmcikoiilanaaDoorMgExpoNames2
set_option linter.unusedVariables false
set_option linter.unusedSimpArgs false
namespace Go.Proofs.YtdbmcikoiilanaaDoor.Xp
open Go.RowKit Go.Proofs.YtdbmcikoiilanaaDoor.B0 Go.Proofs.YtdbmcikoiilanaaDoorW.PrintWords Go.Proofs.YtdbmcikoiilanaaDoor.Bld Go.Proofs.YtdbmcikoiilanaaDoor.Pp

abbrev SLab := S71
abbrev SLin := S43
def lbM (y : SLab) : Lb := ⟨y.f0.data.toList, y.f1.data.toList⟩
def lnM (x : SLin) : Ln := ⟨x.f0.data.toList, x.f1.map lbM, x.f2.toNat⟩

set_option maxHeartbeats 4000000 in
set_option maxRecDepth 100000 in
theorem rightF_c (k t : ByteArray) (hk : k.size ≤ 200000000) (w : World) :
    Calls Tryd.prog 33 #[.agg #[.string k, .string t]] w fun e w' => e = .returned (.bool (!keyL k.data.toList)) ∧ Below w.heap.size w w' := by
  obtain ⟨w1, hw1⟩ : ∃ w1, Hid (w.alloc (.cells #[.string k, .string t] 71) = w1) := ⟨_, Lib.hid rfl⟩
  have HB : Hid (Below w.heap.size w w1) := by rw [← hw1.out]; exact (Below.refl _ _).alloc (Nat.le_refl _) _
  have HK := Lib.hid (Key_c k hk w1)
  go_enter Tryd.func33, Tryd.ntmps33
  go_wp2_with fail
  rw [hw1.out]
  refine HK.out.mono ?_
  rintro e w2 ⟨rfl, hb⟩
  have HB2 := Lib.hid (HB.out.trans (hb.mono HB.out.size)); clear hb
  go_wp2_with fail
  go_ret
  exact ⟨rfl, HB2.out⟩

set_option maxHeartbeats 4000000 in
set_option maxRecDepth 100000 in
theorem IndexFunc_c (A : Option Addr) (c : Nat) (xs : List SLab) (w : World) (hC : Kd.C k71 w A xs.length xs) (hs : ∀ y ∈ xs, y.f0.size ≤ 200000000) (hl : xs.length ≤ 200000000) :
    Calls Tryd.prog 41 #[.slice A xs.length c, .func (.func 33) #[] #[]] w fun e w' =>
      ∃ r : Int, e = .returned (.int .i64 r) ∧ ((r = -1 ∧ (xs.all fun y => keyL y.f0.data.toList) = true) ∨ (0 ≤ r ∧ (xs.all fun y => keyL y.f0.data.toList) = false)) ∧ Below w.heap.size w w' := by
  obtain ⟨n, hn⟩ : ∃ n, xs.length = n := ⟨_, rfl⟩
  rw [hn] at hC ⊢
  have HN := Lib.hid hn
  rw [hn] at hl
  clear hn
  have HC := Lib.hid hC; clear hC
  have HS := Lib.hid hs; clear hs
  have hw0 : IntKind.i64.wrap 0 = 0 := by decide
  go_enter Tryd.func41, Tryd.ntmps41
  go_wp2_with fail
  go_loopw [8] (fun iv wr => ∃ k : Nat, iv = .int .i64 k ∧ k ≤ n ∧ Hid (Below w.heap.size w wr ∧ ((xs.take k).all fun y => keyL y.f0.data.toList) = true)) (fun iv _ => n - (intOf iv).toNat)
  case atStart => exact ⟨0, rfl, Nat.zero_le _, Below.refl _ _, rfl⟩
  case round =>
    obtain ⟨k, rfl, hk, HW⟩ := hrel
    by_cases hlt : k < n
    · have hki : (k : Int) < (n : Int) := by omega
      have hkl : k < xs.length := by rw [HN.out]; exact hlt
      obtain ⟨ad, rfl, d0, d1⟩ := at_T71 (Kd.C_below HC.out HW.out.1) k (by omega) (by omega)
      rw [show ((k : Int)).toNat = k from by omega] at d0 d1
      obtain ⟨y, hy⟩ : ∃ y, Hid (rd_T71 xs k = y ∧ xs[k] = y) := ⟨_, rfl, by unfold rd_T71; rw [show ((k : Int)).toNat = k from by omega, List.getD_eq_getElem?_getD, List.getElem?_eq_getElem hkl]; rfl⟩
      rw [hy.out.1] at d0 d1
      have HY : Hid (y.f0.size ≤ 200000000 ∧ ((xs.take (k + 1)).all fun y => keyL y.f0.data.toList) = keyL y.f0.data.toList) := by
        refine ⟨by rw [← hy.out.2]; exact HS.out _ (List.getElem_mem _), ?_⟩
        rw [List.take_succ_eq_append_getElem hkl, List.all_append, HW.out.2, hy.out.2]; simp
      have HF := Lib.hid (rightF_c y.f0 y.f1 HY.out.1 wr)
      go_wp2_with fail
      refine HF.out.mono ?_
      rintro e w2 ⟨rfl, hb⟩
      have HB2 := Lib.hid (HW.out.1.trans (hb.mono HW.out.1.size)); clear hb HF
      rcases Bool.eq_false_or_eq_true (keyL y.f0.data.toList) with hq | hq
      · rw [hq]
        have HQ : Hid (((xs.take (k + 1)).all fun y => keyL y.f0.data.toList) = true) := by show _ = _; rw [HY.out.2, hq]
        clear hq d0 d1
        go_wp2_with fail
        go_roundw
        case rel => exact ⟨k + 1, by go_num, by omega, HB2.out, HQ.out⟩
        case measure => simp [intOf]; omega
      · rw [hq]
        have HQ : Hid ((xs.all fun y => keyL y.f0.data.toList) = false) := by
          show _ = _
          have h1 := HY.out.2; rw [hq] at h1
          rw [List.all_eq_false] at h1 ⊢
          obtain ⟨z, hz, h2⟩ := h1
          exact ⟨z, List.mem_of_mem_take hz, h2⟩
        clear hq d0 d1
        go_wp2_with fail
        go_ret
        exact ⟨k, rfl, .inr ⟨by omega, HQ.out⟩, HB2.out⟩
    · obtain rfl : k = n := by omega
      have HQ : Hid ((xs.all fun y => keyL y.f0.data.toList) = true) := by
        show _ = _
        have h1 := HW.out.2; rwa [List.take_of_length_le (by rw [HN.out]; omega)] at h1
      go_wp2_with fail
      go_ret
      exact ⟨-1, rfl, .inl ⟨rfl, HQ.out⟩, HW.out.1⟩

set_option maxHeartbeats 4000000 in
set_option maxRecDepth 100000 in
theorem Contains_c (A : Option Addr) (c : Nat) (xs : List SLab) (w : World) (hC : Kd.C k71 w A xs.length xs) (hs : ∀ y ∈ xs, y.f0.size ≤ 200000000) (hl : xs.length ≤ 200000000) :
    Calls Tryd.prog 32 #[.slice A xs.length c, .func (.func 33) #[] #[]] w fun e w' =>
      e = .returned (.bool (!xs.all fun y => keyL y.f0.data.toList)) ∧ Below w.heap.size w w' := by
  have HI := Lib.hid (IndexFunc_c A c xs w hC hs hl); clear hC hs
  obtain ⟨n, hn⟩ : ∃ n, xs.length = n := ⟨_, rfl⟩
  obtain ⟨q, hq⟩ : ∃ q, (xs.all fun y => keyL y.f0.data.toList) = q := ⟨_, rfl⟩
  rw [hn, hq] at HI
  rw [hn, hq]
  clear hn hl hq
  go_enter Tryd.func32, Tryd.ntmps32
  go_wp2_with fail
  refine HI.out.mono ?_
  rintro e w2 ⟨r, rfl, h, hb⟩
  have HB := Lib.hid hb; clear hb
  rcases h with ⟨rfl, rfl⟩ | ⟨h0, rfl⟩
  · go_wp2_with fail
    go_ret
    exact ⟨rfl, HB.out⟩
  · have hq : decide ((0 : Int) ≤ r) = true := decide_eq_true h0
    go_wp2_with fail
    go_ret
    exact ⟨rfl, HB.out⟩

theorem right_model (x : SLin) : rightL (lnM x) = (keyL x.f0.data.toList && x.f1.all fun y => keyL y.f0.data.toList) := by
  simp [rightL, lnM, lbM, List.all_map, Function.comp_def]
set_option maxHeartbeats 4000000 in
set_option maxRecDepth 100000 in
theorem right_c (x : SLin) (A : Option Addr) (c : Nat) (w : World) (hC : Kd.C k71 w A x.f1.length x.f1) (hs : ∀ y ∈ x.f1, y.f0.size ≤ 200000000) (hl : x.f1.length ≤ 200000000) (h0 : x.f0.size ≤ 200000000) :
    Calls Tryd.prog 19 #[.agg #[.string x.f0, .slice A x.f1.length c, .int .u64 x.f2]] w fun e w' => e = .returned (.bool (rightL (lnM x))) ∧ Below w.heap.size w w' := by
  rw [right_model]
  obtain ⟨k, xs, v⟩ := x
  dsimp only at hC hs hl h0 ⊢
  obtain ⟨n, hn⟩ : ∃ n, xs.length = n := ⟨_, rfl⟩
  obtain ⟨w1, hw1⟩ : ∃ w1, Hid (w.alloc (.cells #[.string k, .slice A n c, .int .u64 v] 43) = w1) := ⟨_, Lib.hid rfl⟩
  have hb1 : Below w.heap.size w w1 := by rw [← hw1.out]; exact (Below.refl _ _).alloc (Nat.le_refl _) _
  have hx1 : w1.heap[w.heap.size]? = some (.cells #[.string k, .slice A n c, .int .u64 v] 43) := by rw [← hw1.out]; exact allocN _ _
  have HK := Lib.hid (Key_c k h0 w1)
  have HCT : Hid (∀ w2, Below w1.heap.size w1 w2 → Calls Tryd.prog 32 #[.slice A n c, .func (.func 33) #[] #[]] w2 fun e w' =>
      e = .returned (.bool (!xs.all fun y => keyL y.f0.data.toList)) ∧ Below w2.heap.size w2 w') := fun w2 hb => by
    have := Contains_c A c xs w2 (Kd.C_below (Kd.C_below hC hb1) hb) hs hl
    rw [hn] at this; exact this
  have HB := Lib.hid hb1
  have HX : Hid (∀ w2, Below w1.heap.size w1 w2 → w2.cell? ⟨w.heap.size, 1, none⟩ = some (.slice A n c)) := fun w2 h => pw_cell_below h (by rw [cellB hx1]; rfl)
  obtain ⟨q1, hq1⟩ : ∃ q, keyL k.data.toList = q := ⟨_, rfl⟩
  obtain ⟨q2, hq2⟩ : ∃ q, (xs.all fun y => keyL y.f0.data.toList) = q := ⟨_, rfl⟩
  rw [hq1] at HK
  rw [hq2] at HCT
  rw [hn, hq1, hq2]
  clear hC hs hl h0 hb1 hx1 hn hq1 hq2
  go_enter Tryd.func19, Tryd.ntmps19
  go_wp2_with fail
  rw [hw1.out]
  refine HK.out.mono ?_
  rintro e w2 ⟨rfl, hb⟩
  have HB2 := Lib.hid hb; clear hb
  have hx2 := HX.out w2 HB2.out
  cases q1
  · have HB3 := Lib.hid (HB.out.trans (HB2.out.mono HB.out.size))
    go_wp2_with fail
    go_ret
    exact ⟨rfl, HB3.out⟩
  · go_wp2_with fail
    refine (HCT.out w2 HB2.out).mono ?_
    rintro e w3 ⟨rfl, hb⟩
    have HB3 := Lib.hid (HB.out.trans ((HB2.out.trans (hb.mono HB2.out.size)).mono HB.out.size)); clear hb
    go_wp2_with fail
    go_ret
    exact ⟨by cases q2 <;> rfl, HB3.out⟩
end Go.Proofs.YtdbmcikoiilanaaDoor.Xp
namespace Go.Proofs.YtdbmcikoiilanaaDoor.Pp
open Go.RowKit Go.Proofs.YtdbmcikoiilanaaDoorW.PrintWords Go.Proofs.YtdbmcikoiilanaaDoorW.PrintLast Go.Proofs.YtdbmcikoiilanaaDoorW.PrintMore
attribute [local go_sem] max2_int min2_int max_two min_two max_three min_three max_four min_four
set_option linter.unusedVariables false
set_option linter.unusedSimpArgs false

attribute [local go_sem high] eqA71
/-! ### tallyroomref03_Key: function 18 -/
def tallyroomref03_Key.l0 : Nat → ByteArray → Int → Option (Bool)
  | 0, _, _ => none
  | k + 1, x0, x3 => if x3 < (x0.size : Int) then (if 0 ≤ x3 then (if (bt x0 x3) ≥ 97 then (if (bt x0 x3) ≤ 122 then (tallyroomref03_Key.l0 k x0 (wrap64 (x3 + 1))) else (if (bt x0 x3) ≥ 65 then (if (bt x0 x3) ≤ 90 then (tallyroomref03_Key.l0 k x0 (wrap64 (x3 + 1))) else (if ((bt x0 x3) = 95) then (tallyroomref03_Key.l0 k x0 (wrap64 (x3 + 1))) else (if x3 = 0 then (some false) else (if (bt x0 x3) ≥ 48 then (if (bt x0 x3) ≤ 57 then (tallyroomref03_Key.l0 k x0 (wrap64 (x3 + 1))) else (if ((bt x0 x3) = 46) then (tallyroomref03_Key.l0 k x0 (wrap64 (x3 + 1))) else (some false))) else (if ((bt x0 x3) = 46) then (tallyroomref03_Key.l0 k x0 (wrap64 (x3 + 1))) else (some false)))))) else (if ((bt x0 x3) = 95) then (tallyroomref03_Key.l0 k x0 (wrap64 (x3 + 1))) else (if x3 = 0 then (some false) else (if (bt x0 x3) ≥ 48 then (if (bt x0 x3) ≤ 57 then (tallyroomref03_Key.l0 k x0 (wrap64 (x3 + 1))) else (if ((bt x0 x3) = 46) then (tallyroomref03_Key.l0 k x0 (wrap64 (x3 + 1))) else (some false))) else (if ((bt x0 x3) = 46) then (tallyroomref03_Key.l0 k x0 (wrap64 (x3 + 1))) else (some false))))))) else (if (bt x0 x3) ≥ 65 then (if (bt x0 x3) ≤ 90 then (tallyroomref03_Key.l0 k x0 (wrap64 (x3 + 1))) else (if ((bt x0 x3) = 95) then (tallyroomref03_Key.l0 k x0 (wrap64 (x3 + 1))) else (if x3 = 0 then (some false) else (if (bt x0 x3) ≥ 48 then (if (bt x0 x3) ≤ 57 then (tallyroomref03_Key.l0 k x0 (wrap64 (x3 + 1))) else (if ((bt x0 x3) = 46) then (tallyroomref03_Key.l0 k x0 (wrap64 (x3 + 1))) else (some false))) else (if ((bt x0 x3) = 46) then (tallyroomref03_Key.l0 k x0 (wrap64 (x3 + 1))) else (some false)))))) else (if ((bt x0 x3) = 95) then (tallyroomref03_Key.l0 k x0 (wrap64 (x3 + 1))) else (if x3 = 0 then (some false) else (if (bt x0 x3) ≥ 48 then (if (bt x0 x3) ≤ 57 then (tallyroomref03_Key.l0 k x0 (wrap64 (x3 + 1))) else (if ((bt x0 x3) = 46) then (tallyroomref03_Key.l0 k x0 (wrap64 (x3 + 1))) else (some false))) else (if ((bt x0 x3) = 46) then (tallyroomref03_Key.l0 k x0 (wrap64 (x3 + 1))) else (some false))))))) else (none)) else (if (x0.size : Int) ≥ 1 then (some (decide ((x0.size : Int) ≤ 64))) else (some false))
def tallyroomref03_Key.f (k : Nat) (a0 : ByteArray) : Option (Bool) := tallyroomref03_Key.l0 k a0 0
theorem tallyroomref03_Key.mono_l : ∀ k, (∀ y0 y1, LeO (tallyroomref03_Key.l0 k y0 y1) (tallyroomref03_Key.l0 (k + 1) y0 y1))
  | 0 => fun _ _ r h => by simp [tallyroomref03_Key.l0] at h
  | k + 1 => by
    have ih0 := tallyroomref03_Key.mono_l k
    · intro y0 y1
      unfold tallyroomref03_Key.l0
      repeat' first
      | (with_reducible exact ih0 _ _)
      | (with_reducible exact LeO.refl _)
      | (with_reducible exact LeO.none _)
      | (with_reducible refine LeO.ite ?_ ?_)
      | (with_reducible refine LeO.bind ?_ (fun _ => ?_))
      | exact ih0 _ _
      | exact LeO.none _
      | refine LeO.ite ?_ ?_
      | refine LeO.bind ?_ (fun _ => ?_)
theorem tallyroomref03_Key.mono : ∀ a0 k, LeO (tallyroomref03_Key.f k a0) (tallyroomref03_Key.f (k + 1) a0) := by
  intro a0 k
  have ih0 := tallyroomref03_Key.mono_l k
  unfold tallyroomref03_Key.f
  repeat' first
      | (with_reducible exact ih0 _ _)
      | (with_reducible exact LeO.refl _)
      | (with_reducible exact LeO.none _)
      | (with_reducible refine LeO.ite ?_ ?_)
      | (with_reducible refine LeO.bind ?_ (fun _ => ?_))
      | exact ih0 _ _
      | exact LeO.none _
      | refine LeO.ite ?_ ?_
      | refine LeO.bind ?_ (fun _ => ?_)
set_option maxHeartbeats 8000000 in
set_option maxRecDepth 100000 in
theorem tallyroomref03_Key.calls (k : Nat) (a0 : ByteArray) (r : Bool) (w : World) (h : tallyroomref03_Key.f k a0 = some r) :
    Calls Tryd.prog 18 #[.string a0] w fun e w' => e = .returned (.bool r) ∧ Drawn0 w w' := by
  have H : (tallyroomref03_Key.l0 k a0 0) = some r := h
  clear h
  have H' := Aside0.mk H
  clear H
  go_enter Tryd.func18, Tryd.ntmps18
  go_wp2
  go_loopg [3] k (fun kq v3 w' => ∃ (x3_1 : Int), v3 = .int .i64 x3_1 ∧ Aside0 (tallyroomref03_Key.l0 kq a0 x3_1 = some r) ∧ Aside0 (kq ≤ k) ∧ Drawn0 w w')
  case atStart => exact ⟨(0), (by first | rfl | (simp; done) | (simp [*]; done)), H', ⟨Nat.le_refl _⟩, by repeat (first | exact Drawn0.refl _ | apply Drawn0.step)⟩
  case round =>
    clear H'
    try clear c1
    obtain ⟨x3_1, rfl, HA, HK1, ⟨m1, rfl⟩⟩ := hrel
    cases gk with
    | zero => exact absurd HA.out (by simp [tallyroomref03_Key.l0])
    | succ k1 =>
      have H := HA.out
      clear HA
      simp only [tallyroomref03_Key.l0] at H
      by_cases c2 : x3_1 < (a0.size : Int)
      · rw [if_pos c2] at H
        have c2b0 : decide (x3_1 < (a0.size : Int)) = true := decide_eq_true c2
        clear c2
        by_cases c3 : 0 ≤ x3_1
        · rw [if_pos c3] at H
          have c3b0 : decide (0 ≤ x3_1) = true := decide_eq_true c3
          clear c3
          by_cases c5 : (bt a0 x3_1) ≥ 97
          · rw [if_pos c5] at H
            have c5b0 : decide (97 ≤ (bt a0 x3_1)) = true := decide_eq_true c5
            clear c5
            by_cases c6 : (bt a0 x3_1) ≤ 122
            · rw [if_pos c6] at H
              have c6b0 : decide ((bt a0 x3_1) ≤ 122) = true := decide_eq_true c6
              clear c6
              have H' := Aside0.mk H
              clear H
              have p4 : 0 ≤ (x3_1 : Int) := of_decide_eq_true (by first | (with_reducible assumption) | assumption)
              have q4 : x3_1 < (a0.size : Int) := of_decide_eq_true (by first | (with_reducible assumption) | assumption)
              have hx4 := bt_at a0 x3_1
              replace p4 := eq_true p4
              replace q4 := eq_true q4
              go_wp2
              go_roundg k1
              case measure => have := HK1.out; omega
              case rel => exact ⟨(wrap64 (x3_1 + 1)), (by first | rfl | (simp; done) | (simp [*]; done)), H', ⟨by have := HK1.out; omega⟩, by repeat (first | exact Drawn0.refl _ | apply Drawn0.step)⟩
            · rw [if_neg c6] at H
              have c6b0 : decide ((bt a0 x3_1) ≤ 122) = false := decide_eq_false c6
              clear c6
              by_cases c7 : (bt a0 x3_1) ≥ 65
              · rw [if_pos c7] at H
                have c7b0 : decide (65 ≤ (bt a0 x3_1)) = true := decide_eq_true c7
                clear c7
                by_cases c8 : (bt a0 x3_1) ≤ 90
                · rw [if_pos c8] at H
                  have c8b0 : decide ((bt a0 x3_1) ≤ 90) = true := decide_eq_true c8
                  clear c8
                  have H' := Aside0.mk H
                  clear H
                  have p4 : 0 ≤ (x3_1 : Int) := of_decide_eq_true (by first | (with_reducible assumption) | assumption)
                  have q4 : x3_1 < (a0.size : Int) := of_decide_eq_true (by first | (with_reducible assumption) | assumption)
                  have hx4 := bt_at a0 x3_1
                  replace p4 := eq_true p4
                  replace q4 := eq_true q4
                  go_wp2
                  go_roundg k1
                  case measure => have := HK1.out; omega
                  case rel => exact ⟨(wrap64 (x3_1 + 1)), (by first | rfl | (simp; done) | (simp [*]; done)), H', ⟨by have := HK1.out; omega⟩, by repeat (first | exact Drawn0.refl _ | apply Drawn0.step)⟩
                · rw [if_neg c8] at H
                  have c8b0 : decide ((bt a0 x3_1) ≤ 90) = false := decide_eq_false c8
                  clear c8
                  by_cases c9 : ((bt a0 x3_1) = 95)
                  · rw [if_pos c9] at H
                    have c9b0 : ((bt a0 x3_1) == 95) = true := beq_iff_eq.mpr c9
                    have c9b1 : ((bt a0 x3_1) != 95) = false := bne_eq_false_iff_eq.mpr c9
                    clear c9
                    have H' := Aside0.mk H
                    clear H
                    have p4 : 0 ≤ (x3_1 : Int) := of_decide_eq_true (by first | (with_reducible assumption) | assumption)
                    have q4 : x3_1 < (a0.size : Int) := of_decide_eq_true (by first | (with_reducible assumption) | assumption)
                    have hx4 := bt_at a0 x3_1
                    replace p4 := eq_true p4
                    replace q4 := eq_true q4
                    go_wp2
                    go_roundg k1
                    case measure => have := HK1.out; omega
                    case rel => exact ⟨(wrap64 (x3_1 + 1)), (by first | rfl | (simp; done) | (simp [*]; done)), H', ⟨by have := HK1.out; omega⟩, by repeat (first | exact Drawn0.refl _ | apply Drawn0.step)⟩
                  · rw [if_neg c9] at H
                    have c9b0 : ((bt a0 x3_1) == 95) = false := beq_eq_false_iff_ne.mpr c9
                    have c9b1 : ((bt a0 x3_1) != 95) = true := bne_iff_ne.mpr c9
                    by_cases c10 : x3_1 = 0
                    · rw [if_pos c10] at H
                      have c10b0 : (x3_1 == 0) = true := beq_iff_eq.mpr c10
                      have c10b1 : (x3_1 != 0) = false := bne_eq_false_iff_eq.mpr c10
                      clear c10
                      obtain rfl := Option.some.inj H
                      have p4 : 0 ≤ (x3_1 : Int) := of_decide_eq_true (by first | (with_reducible assumption) | assumption)
                      have q4 : x3_1 < (a0.size : Int) := of_decide_eq_true (by first | (with_reducible assumption) | assumption)
                      have hx4 := bt_at a0 x3_1
                      replace p4 := eq_true p4
                      replace q4 := eq_true q4
                      go_wp2
                      go_ret
                      exact ⟨by first | rfl | (simp; done) | (simp [*]; done), by repeat (first | exact Drawn0.refl _ | apply Drawn0.step)⟩
                    · rw [if_neg c10] at H
                      have c10b0 : (x3_1 == 0) = false := beq_eq_false_iff_ne.mpr c10
                      have c10b1 : (x3_1 != 0) = true := bne_iff_ne.mpr c10
                      by_cases c11 : (bt a0 x3_1) ≥ 48
                      · rw [if_pos c11] at H
                        have c11b0 : decide (48 ≤ (bt a0 x3_1)) = true := decide_eq_true c11
                        clear c11
                        by_cases c12 : (bt a0 x3_1) ≤ 57
                        · rw [if_pos c12] at H
                          have c12b0 : decide ((bt a0 x3_1) ≤ 57) = true := decide_eq_true c12
                          clear c12
                          have H' := Aside0.mk H
                          clear H
                          have p4 : 0 ≤ (x3_1 : Int) := of_decide_eq_true (by first | (with_reducible assumption) | assumption)
                          have q4 : x3_1 < (a0.size : Int) := of_decide_eq_true (by first | (with_reducible assumption) | assumption)
                          have hx4 := bt_at a0 x3_1
                          replace p4 := eq_true p4
                          replace q4 := eq_true q4
                          go_wp2
                          go_roundg k1
                          case measure => have := HK1.out; omega
                          case rel => exact ⟨(wrap64 (x3_1 + 1)), (by first | rfl | (simp; done) | (simp [*]; done)), H', ⟨by have := HK1.out; omega⟩, by repeat (first | exact Drawn0.refl _ | apply Drawn0.step)⟩
                        · rw [if_neg c12] at H
                          have c12b0 : decide ((bt a0 x3_1) ≤ 57) = false := decide_eq_false c12
                          clear c12
                          by_cases c13 : ((bt a0 x3_1) = 46)
                          · rw [if_pos c13] at H
                            have c13b0 : ((bt a0 x3_1) == 46) = true := beq_iff_eq.mpr c13
                            have c13b1 : ((bt a0 x3_1) != 46) = false := bne_eq_false_iff_eq.mpr c13
                            clear c13
                            have H' := Aside0.mk H
                            clear H
                            have p4 : 0 ≤ (x3_1 : Int) := of_decide_eq_true (by first | (with_reducible assumption) | assumption)
                            have q4 : x3_1 < (a0.size : Int) := of_decide_eq_true (by first | (with_reducible assumption) | assumption)
                            have hx4 := bt_at a0 x3_1
                            replace p4 := eq_true p4
                            replace q4 := eq_true q4
                            go_wp2
                            go_roundg k1
                            case measure => have := HK1.out; omega
                            case rel => exact ⟨(wrap64 (x3_1 + 1)), (by first | rfl | (simp; done) | (simp [*]; done)), H', ⟨by have := HK1.out; omega⟩, by repeat (first | exact Drawn0.refl _ | apply Drawn0.step)⟩
                          · rw [if_neg c13] at H
                            have c13b0 : ((bt a0 x3_1) == 46) = false := beq_eq_false_iff_ne.mpr c13
                            have c13b1 : ((bt a0 x3_1) != 46) = true := bne_iff_ne.mpr c13
                            obtain rfl := Option.some.inj H
                            have p4 : 0 ≤ (x3_1 : Int) := of_decide_eq_true (by first | (with_reducible assumption) | assumption)
                            have q4 : x3_1 < (a0.size : Int) := of_decide_eq_true (by first | (with_reducible assumption) | assumption)
                            have hx4 := bt_at a0 x3_1
                            replace p4 := eq_true p4
                            replace q4 := eq_true q4
                            go_wp2
                            go_ret
                            exact ⟨by first | rfl | (simp; done) | (simp [*]; done), by repeat (first | exact Drawn0.refl _ | apply Drawn0.step)⟩
                      · rw [if_neg c11] at H
                        have c11b0 : decide (48 ≤ (bt a0 x3_1)) = false := decide_eq_false c11
                        clear c11
                        by_cases c14 : ((bt a0 x3_1) = 46)
                        · rw [if_pos c14] at H
                          have c14b0 : ((bt a0 x3_1) == 46) = true := beq_iff_eq.mpr c14
                          have c14b1 : ((bt a0 x3_1) != 46) = false := bne_eq_false_iff_eq.mpr c14
                          clear c14
                          have H' := Aside0.mk H
                          clear H
                          have p4 : 0 ≤ (x3_1 : Int) := of_decide_eq_true (by first | (with_reducible assumption) | assumption)
                          have q4 : x3_1 < (a0.size : Int) := of_decide_eq_true (by first | (with_reducible assumption) | assumption)
                          have hx4 := bt_at a0 x3_1
                          replace p4 := eq_true p4
                          replace q4 := eq_true q4
                          go_wp2
                          go_roundg k1
                          case measure => have := HK1.out; omega
                          case rel => exact ⟨(wrap64 (x3_1 + 1)), (by first | rfl | (simp; done) | (simp [*]; done)), H', ⟨by have := HK1.out; omega⟩, by repeat (first | exact Drawn0.refl _ | apply Drawn0.step)⟩
                        · rw [if_neg c14] at H
                          have c14b0 : ((bt a0 x3_1) == 46) = false := beq_eq_false_iff_ne.mpr c14
                          have c14b1 : ((bt a0 x3_1) != 46) = true := bne_iff_ne.mpr c14
                          obtain rfl := Option.some.inj H
                          have p4 : 0 ≤ (x3_1 : Int) := of_decide_eq_true (by first | (with_reducible assumption) | assumption)
                          have q4 : x3_1 < (a0.size : Int) := of_decide_eq_true (by first | (with_reducible assumption) | assumption)
                          have hx4 := bt_at a0 x3_1
                          replace p4 := eq_true p4
                          replace q4 := eq_true q4
                          go_wp2
                          go_ret
                          exact ⟨by first | rfl | (simp; done) | (simp [*]; done), by repeat (first | exact Drawn0.refl _ | apply Drawn0.step)⟩
              · rw [if_neg c7] at H
                have c7b0 : decide (65 ≤ (bt a0 x3_1)) = false := decide_eq_false c7
                clear c7
                by_cases c15 : ((bt a0 x3_1) = 95)
                · rw [if_pos c15] at H
                  have c15b0 : ((bt a0 x3_1) == 95) = true := beq_iff_eq.mpr c15
                  have c15b1 : ((bt a0 x3_1) != 95) = false := bne_eq_false_iff_eq.mpr c15
                  clear c15
                  have H' := Aside0.mk H
                  clear H
                  have p4 : 0 ≤ (x3_1 : Int) := of_decide_eq_true (by first | (with_reducible assumption) | assumption)
                  have q4 : x3_1 < (a0.size : Int) := of_decide_eq_true (by first | (with_reducible assumption) | assumption)
                  have hx4 := bt_at a0 x3_1
                  replace p4 := eq_true p4
                  replace q4 := eq_true q4
                  go_wp2
                  go_roundg k1
                  case measure => have := HK1.out; omega
                  case rel => exact ⟨(wrap64 (x3_1 + 1)), (by first | rfl | (simp; done) | (simp [*]; done)), H', ⟨by have := HK1.out; omega⟩, by repeat (first | exact Drawn0.refl _ | apply Drawn0.step)⟩
                · rw [if_neg c15] at H
                  have c15b0 : ((bt a0 x3_1) == 95) = false := beq_eq_false_iff_ne.mpr c15
                  have c15b1 : ((bt a0 x3_1) != 95) = true := bne_iff_ne.mpr c15
                  by_cases c16 : x3_1 = 0
                  · rw [if_pos c16] at H
                    have c16b0 : (x3_1 == 0) = true := beq_iff_eq.mpr c16
                    have c16b1 : (x3_1 != 0) = false := bne_eq_false_iff_eq.mpr c16
                    clear c16
                    obtain rfl := Option.some.inj H
                    have p4 : 0 ≤ (x3_1 : Int) := of_decide_eq_true (by first | (with_reducible assumption) | assumption)
                    have q4 : x3_1 < (a0.size : Int) := of_decide_eq_true (by first | (with_reducible assumption) | assumption)
                    have hx4 := bt_at a0 x3_1
                    replace p4 := eq_true p4
                    replace q4 := eq_true q4
                    go_wp2
                    go_ret
                    exact ⟨by first | rfl | (simp; done) | (simp [*]; done), by repeat (first | exact Drawn0.refl _ | apply Drawn0.step)⟩
                  · rw [if_neg c16] at H
                    have c16b0 : (x3_1 == 0) = false := beq_eq_false_iff_ne.mpr c16
                    have c16b1 : (x3_1 != 0) = true := bne_iff_ne.mpr c16
                    by_cases c17 : (bt a0 x3_1) ≥ 48
                    · rw [if_pos c17] at H
                      have c17b0 : decide (48 ≤ (bt a0 x3_1)) = true := decide_eq_true c17
                      clear c17
                      by_cases c18 : (bt a0 x3_1) ≤ 57
                      · rw [if_pos c18] at H
                        have c18b0 : decide ((bt a0 x3_1) ≤ 57) = true := decide_eq_true c18
                        clear c18
                        have H' := Aside0.mk H
                        clear H
                        have p4 : 0 ≤ (x3_1 : Int) := of_decide_eq_true (by first | (with_reducible assumption) | assumption)
                        have q4 : x3_1 < (a0.size : Int) := of_decide_eq_true (by first | (with_reducible assumption) | assumption)
                        have hx4 := bt_at a0 x3_1
                        replace p4 := eq_true p4
                        replace q4 := eq_true q4
                        go_wp2
                        go_roundg k1
                        case measure => have := HK1.out; omega
                        case rel => exact ⟨(wrap64 (x3_1 + 1)), (by first | rfl | (simp; done) | (simp [*]; done)), H', ⟨by have := HK1.out; omega⟩, by repeat (first | exact Drawn0.refl _ | apply Drawn0.step)⟩
                      · rw [if_neg c18] at H
                        have c18b0 : decide ((bt a0 x3_1) ≤ 57) = false := decide_eq_false c18
                        clear c18
                        by_cases c19 : ((bt a0 x3_1) = 46)
                        · rw [if_pos c19] at H
                          have c19b0 : ((bt a0 x3_1) == 46) = true := beq_iff_eq.mpr c19
                          have c19b1 : ((bt a0 x3_1) != 46) = false := bne_eq_false_iff_eq.mpr c19
                          clear c19
                          have H' := Aside0.mk H
                          clear H
                          have p4 : 0 ≤ (x3_1 : Int) := of_decide_eq_true (by first | (with_reducible assumption) | assumption)
                          have q4 : x3_1 < (a0.size : Int) := of_decide_eq_true (by first | (with_reducible assumption) | assumption)
                          have hx4 := bt_at a0 x3_1
                          replace p4 := eq_true p4
                          replace q4 := eq_true q4
                          go_wp2
                          go_roundg k1
                          case measure => have := HK1.out; omega
                          case rel => exact ⟨(wrap64 (x3_1 + 1)), (by first | rfl | (simp; done) | (simp [*]; done)), H', ⟨by have := HK1.out; omega⟩, by repeat (first | exact Drawn0.refl _ | apply Drawn0.step)⟩
                        · rw [if_neg c19] at H
                          have c19b0 : ((bt a0 x3_1) == 46) = false := beq_eq_false_iff_ne.mpr c19
                          have c19b1 : ((bt a0 x3_1) != 46) = true := bne_iff_ne.mpr c19
                          obtain rfl := Option.some.inj H
                          have p4 : 0 ≤ (x3_1 : Int) := of_decide_eq_true (by first | (with_reducible assumption) | assumption)
                          have q4 : x3_1 < (a0.size : Int) := of_decide_eq_true (by first | (with_reducible assumption) | assumption)
                          have hx4 := bt_at a0 x3_1
                          replace p4 := eq_true p4
                          replace q4 := eq_true q4
                          go_wp2
                          go_ret
                          exact ⟨by first | rfl | (simp; done) | (simp [*]; done), by repeat (first | exact Drawn0.refl _ | apply Drawn0.step)⟩
                    · rw [if_neg c17] at H
                      have c17b0 : decide (48 ≤ (bt a0 x3_1)) = false := decide_eq_false c17
                      clear c17
                      by_cases c20 : ((bt a0 x3_1) = 46)
                      · rw [if_pos c20] at H
                        have c20b0 : ((bt a0 x3_1) == 46) = true := beq_iff_eq.mpr c20
                        have c20b1 : ((bt a0 x3_1) != 46) = false := bne_eq_false_iff_eq.mpr c20
                        clear c20
                        have H' := Aside0.mk H
                        clear H
                        have p4 : 0 ≤ (x3_1 : Int) := of_decide_eq_true (by first | (with_reducible assumption) | assumption)
                        have q4 : x3_1 < (a0.size : Int) := of_decide_eq_true (by first | (with_reducible assumption) | assumption)
                        have hx4 := bt_at a0 x3_1
                        replace p4 := eq_true p4
                        replace q4 := eq_true q4
                        go_wp2
                        go_roundg k1
                        case measure => have := HK1.out; omega
                        case rel => exact ⟨(wrap64 (x3_1 + 1)), (by first | rfl | (simp; done) | (simp [*]; done)), H', ⟨by have := HK1.out; omega⟩, by repeat (first | exact Drawn0.refl _ | apply Drawn0.step)⟩
                      · rw [if_neg c20] at H
                        have c20b0 : ((bt a0 x3_1) == 46) = false := beq_eq_false_iff_ne.mpr c20
                        have c20b1 : ((bt a0 x3_1) != 46) = true := bne_iff_ne.mpr c20
                        obtain rfl := Option.some.inj H
                        have p4 : 0 ≤ (x3_1 : Int) := of_decide_eq_true (by first | (with_reducible assumption) | assumption)
                        have q4 : x3_1 < (a0.size : Int) := of_decide_eq_true (by first | (with_reducible assumption) | assumption)
                        have hx4 := bt_at a0 x3_1
                        replace p4 := eq_true p4
                        replace q4 := eq_true q4
                        go_wp2
                        go_ret
                        exact ⟨by first | rfl | (simp; done) | (simp [*]; done), by repeat (first | exact Drawn0.refl _ | apply Drawn0.step)⟩
          · rw [if_neg c5] at H
            have c5b0 : decide (97 ≤ (bt a0 x3_1)) = false := decide_eq_false c5
            clear c5
            by_cases c21 : (bt a0 x3_1) ≥ 65
            · rw [if_pos c21] at H
              have c21b0 : decide (65 ≤ (bt a0 x3_1)) = true := decide_eq_true c21
              clear c21
              by_cases c22 : (bt a0 x3_1) ≤ 90
              · rw [if_pos c22] at H
                have c22b0 : decide ((bt a0 x3_1) ≤ 90) = true := decide_eq_true c22
                clear c22
                have H' := Aside0.mk H
                clear H
                have p4 : 0 ≤ (x3_1 : Int) := of_decide_eq_true (by first | (with_reducible assumption) | assumption)
                have q4 : x3_1 < (a0.size : Int) := of_decide_eq_true (by first | (with_reducible assumption) | assumption)
                have hx4 := bt_at a0 x3_1
                replace p4 := eq_true p4
                replace q4 := eq_true q4
                go_wp2
                go_roundg k1
                case measure => have := HK1.out; omega
                case rel => exact ⟨(wrap64 (x3_1 + 1)), (by first | rfl | (simp; done) | (simp [*]; done)), H', ⟨by have := HK1.out; omega⟩, by repeat (first | exact Drawn0.refl _ | apply Drawn0.step)⟩
              · rw [if_neg c22] at H
                have c22b0 : decide ((bt a0 x3_1) ≤ 90) = false := decide_eq_false c22
                clear c22
                by_cases c23 : ((bt a0 x3_1) = 95)
                · rw [if_pos c23] at H
                  have c23b0 : ((bt a0 x3_1) == 95) = true := beq_iff_eq.mpr c23
                  have c23b1 : ((bt a0 x3_1) != 95) = false := bne_eq_false_iff_eq.mpr c23
                  clear c23
                  have H' := Aside0.mk H
                  clear H
                  have p4 : 0 ≤ (x3_1 : Int) := of_decide_eq_true (by first | (with_reducible assumption) | assumption)
                  have q4 : x3_1 < (a0.size : Int) := of_decide_eq_true (by first | (with_reducible assumption) | assumption)
                  have hx4 := bt_at a0 x3_1
                  replace p4 := eq_true p4
                  replace q4 := eq_true q4
                  go_wp2
                  go_roundg k1
                  case measure => have := HK1.out; omega
                  case rel => exact ⟨(wrap64 (x3_1 + 1)), (by first | rfl | (simp; done) | (simp [*]; done)), H', ⟨by have := HK1.out; omega⟩, by repeat (first | exact Drawn0.refl _ | apply Drawn0.step)⟩
                · rw [if_neg c23] at H
                  have c23b0 : ((bt a0 x3_1) == 95) = false := beq_eq_false_iff_ne.mpr c23
                  have c23b1 : ((bt a0 x3_1) != 95) = true := bne_iff_ne.mpr c23
                  by_cases c24 : x3_1 = 0
                  · rw [if_pos c24] at H
                    have c24b0 : (x3_1 == 0) = true := beq_iff_eq.mpr c24
                    have c24b1 : (x3_1 != 0) = false := bne_eq_false_iff_eq.mpr c24
                    clear c24
                    obtain rfl := Option.some.inj H
                    have p4 : 0 ≤ (x3_1 : Int) := of_decide_eq_true (by first | (with_reducible assumption) | assumption)
                    have q4 : x3_1 < (a0.size : Int) := of_decide_eq_true (by first | (with_reducible assumption) | assumption)
                    have hx4 := bt_at a0 x3_1
                    replace p4 := eq_true p4
                    replace q4 := eq_true q4
                    go_wp2
                    go_ret
                    exact ⟨by first | rfl | (simp; done) | (simp [*]; done), by repeat (first | exact Drawn0.refl _ | apply Drawn0.step)⟩
                  · rw [if_neg c24] at H
                    have c24b0 : (x3_1 == 0) = false := beq_eq_false_iff_ne.mpr c24
                    have c24b1 : (x3_1 != 0) = true := bne_iff_ne.mpr c24
                    by_cases c25 : (bt a0 x3_1) ≥ 48
                    · rw [if_pos c25] at H
                      have c25b0 : decide (48 ≤ (bt a0 x3_1)) = true := decide_eq_true c25
                      clear c25
                      by_cases c26 : (bt a0 x3_1) ≤ 57
                      · rw [if_pos c26] at H
                        have c26b0 : decide ((bt a0 x3_1) ≤ 57) = true := decide_eq_true c26
                        clear c26
                        have H' := Aside0.mk H
                        clear H
                        have p4 : 0 ≤ (x3_1 : Int) := of_decide_eq_true (by first | (with_reducible assumption) | assumption)
                        have q4 : x3_1 < (a0.size : Int) := of_decide_eq_true (by first | (with_reducible assumption) | assumption)
                        have hx4 := bt_at a0 x3_1
                        replace p4 := eq_true p4
                        replace q4 := eq_true q4
                        go_wp2
                        go_roundg k1
                        case measure => have := HK1.out; omega
                        case rel => exact ⟨(wrap64 (x3_1 + 1)), (by first | rfl | (simp; done) | (simp [*]; done)), H', ⟨by have := HK1.out; omega⟩, by repeat (first | exact Drawn0.refl _ | apply Drawn0.step)⟩
                      · rw [if_neg c26] at H
                        have c26b0 : decide ((bt a0 x3_1) ≤ 57) = false := decide_eq_false c26
                        clear c26
                        by_cases c27 : ((bt a0 x3_1) = 46)
                        · rw [if_pos c27] at H
                          have c27b0 : ((bt a0 x3_1) == 46) = true := beq_iff_eq.mpr c27
                          have c27b1 : ((bt a0 x3_1) != 46) = false := bne_eq_false_iff_eq.mpr c27
                          clear c27
                          have H' := Aside0.mk H
                          clear H
                          have p4 : 0 ≤ (x3_1 : Int) := of_decide_eq_true (by first | (with_reducible assumption) | assumption)
                          have q4 : x3_1 < (a0.size : Int) := of_decide_eq_true (by first | (with_reducible assumption) | assumption)
                          have hx4 := bt_at a0 x3_1
                          replace p4 := eq_true p4
                          replace q4 := eq_true q4
                          go_wp2
                          go_roundg k1
                          case measure => have := HK1.out; omega
                          case rel => exact ⟨(wrap64 (x3_1 + 1)), (by first | rfl | (simp; done) | (simp [*]; done)), H', ⟨by have := HK1.out; omega⟩, by repeat (first | exact Drawn0.refl _ | apply Drawn0.step)⟩
                        · rw [if_neg c27] at H
                          have c27b0 : ((bt a0 x3_1) == 46) = false := beq_eq_false_iff_ne.mpr c27
                          have c27b1 : ((bt a0 x3_1) != 46) = true := bne_iff_ne.mpr c27
                          obtain rfl := Option.some.inj H
                          have p4 : 0 ≤ (x3_1 : Int) := of_decide_eq_true (by first | (with_reducible assumption) | assumption)
                          have q4 : x3_1 < (a0.size : Int) := of_decide_eq_true (by first | (with_reducible assumption) | assumption)
                          have hx4 := bt_at a0 x3_1
                          replace p4 := eq_true p4
                          replace q4 := eq_true q4
                          go_wp2
                          go_ret
                          exact ⟨by first | rfl | (simp; done) | (simp [*]; done), by repeat (first | exact Drawn0.refl _ | apply Drawn0.step)⟩
                    · rw [if_neg c25] at H
                      have c25b0 : decide (48 ≤ (bt a0 x3_1)) = false := decide_eq_false c25
                      clear c25
                      by_cases c28 : ((bt a0 x3_1) = 46)
                      · rw [if_pos c28] at H
                        have c28b0 : ((bt a0 x3_1) == 46) = true := beq_iff_eq.mpr c28
                        have c28b1 : ((bt a0 x3_1) != 46) = false := bne_eq_false_iff_eq.mpr c28
                        clear c28
                        have H' := Aside0.mk H
                        clear H
                        have p4 : 0 ≤ (x3_1 : Int) := of_decide_eq_true (by first | (with_reducible assumption) | assumption)
                        have q4 : x3_1 < (a0.size : Int) := of_decide_eq_true (by first | (with_reducible assumption) | assumption)
                        have hx4 := bt_at a0 x3_1
                        replace p4 := eq_true p4
                        replace q4 := eq_true q4
                        go_wp2
                        go_roundg k1
                        case measure => have := HK1.out; omega
                        case rel => exact ⟨(wrap64 (x3_1 + 1)), (by first | rfl | (simp; done) | (simp [*]; done)), H', ⟨by have := HK1.out; omega⟩, by repeat (first | exact Drawn0.refl _ | apply Drawn0.step)⟩
                      · rw [if_neg c28] at H
                        have c28b0 : ((bt a0 x3_1) == 46) = false := beq_eq_false_iff_ne.mpr c28
                        have c28b1 : ((bt a0 x3_1) != 46) = true := bne_iff_ne.mpr c28
                        obtain rfl := Option.some.inj H
                        have p4 : 0 ≤ (x3_1 : Int) := of_decide_eq_true (by first | (with_reducible assumption) | assumption)
                        have q4 : x3_1 < (a0.size : Int) := of_decide_eq_true (by first | (with_reducible assumption) | assumption)
                        have hx4 := bt_at a0 x3_1
                        replace p4 := eq_true p4
                        replace q4 := eq_true q4
                        go_wp2
                        go_ret
                        exact ⟨by first | rfl | (simp; done) | (simp [*]; done), by repeat (first | exact Drawn0.refl _ | apply Drawn0.step)⟩
            · rw [if_neg c21] at H
              have c21b0 : decide (65 ≤ (bt a0 x3_1)) = false := decide_eq_false c21
              clear c21
              by_cases c29 : ((bt a0 x3_1) = 95)
              · rw [if_pos c29] at H
                have c29b0 : ((bt a0 x3_1) == 95) = true := beq_iff_eq.mpr c29
                have c29b1 : ((bt a0 x3_1) != 95) = false := bne_eq_false_iff_eq.mpr c29
                clear c29
                have H' := Aside0.mk H
                clear H
                have p4 : 0 ≤ (x3_1 : Int) := of_decide_eq_true (by first | (with_reducible assumption) | assumption)
                have q4 : x3_1 < (a0.size : Int) := of_decide_eq_true (by first | (with_reducible assumption) | assumption)
                have hx4 := bt_at a0 x3_1
                replace p4 := eq_true p4
                replace q4 := eq_true q4
                go_wp2
                go_roundg k1
                case measure => have := HK1.out; omega
                case rel => exact ⟨(wrap64 (x3_1 + 1)), (by first | rfl | (simp; done) | (simp [*]; done)), H', ⟨by have := HK1.out; omega⟩, by repeat (first | exact Drawn0.refl _ | apply Drawn0.step)⟩
              · rw [if_neg c29] at H
                have c29b0 : ((bt a0 x3_1) == 95) = false := beq_eq_false_iff_ne.mpr c29
                have c29b1 : ((bt a0 x3_1) != 95) = true := bne_iff_ne.mpr c29
                by_cases c30 : x3_1 = 0
                · rw [if_pos c30] at H
                  have c30b0 : (x3_1 == 0) = true := beq_iff_eq.mpr c30
                  have c30b1 : (x3_1 != 0) = false := bne_eq_false_iff_eq.mpr c30
                  clear c30
                  obtain rfl := Option.some.inj H
                  have p4 : 0 ≤ (x3_1 : Int) := of_decide_eq_true (by first | (with_reducible assumption) | assumption)
                  have q4 : x3_1 < (a0.size : Int) := of_decide_eq_true (by first | (with_reducible assumption) | assumption)
                  have hx4 := bt_at a0 x3_1
                  replace p4 := eq_true p4
                  replace q4 := eq_true q4
                  go_wp2
                  go_ret
                  exact ⟨by first | rfl | (simp; done) | (simp [*]; done), by repeat (first | exact Drawn0.refl _ | apply Drawn0.step)⟩
                · rw [if_neg c30] at H
                  have c30b0 : (x3_1 == 0) = false := beq_eq_false_iff_ne.mpr c30
                  have c30b1 : (x3_1 != 0) = true := bne_iff_ne.mpr c30
                  by_cases c31 : (bt a0 x3_1) ≥ 48
                  · rw [if_pos c31] at H
                    have c31b0 : decide (48 ≤ (bt a0 x3_1)) = true := decide_eq_true c31
                    clear c31
                    by_cases c32 : (bt a0 x3_1) ≤ 57
                    · rw [if_pos c32] at H
                      have c32b0 : decide ((bt a0 x3_1) ≤ 57) = true := decide_eq_true c32
                      clear c32
                      have H' := Aside0.mk H
                      clear H
                      have p4 : 0 ≤ (x3_1 : Int) := of_decide_eq_true (by first | (with_reducible assumption) | assumption)
                      have q4 : x3_1 < (a0.size : Int) := of_decide_eq_true (by first | (with_reducible assumption) | assumption)
                      have hx4 := bt_at a0 x3_1
                      replace p4 := eq_true p4
                      replace q4 := eq_true q4
                      go_wp2
                      go_roundg k1
                      case measure => have := HK1.out; omega
                      case rel => exact ⟨(wrap64 (x3_1 + 1)), (by first | rfl | (simp; done) | (simp [*]; done)), H', ⟨by have := HK1.out; omega⟩, by repeat (first | exact Drawn0.refl _ | apply Drawn0.step)⟩
                    · rw [if_neg c32] at H
                      have c32b0 : decide ((bt a0 x3_1) ≤ 57) = false := decide_eq_false c32
                      clear c32
                      by_cases c33 : ((bt a0 x3_1) = 46)
                      · rw [if_pos c33] at H
                        have c33b0 : ((bt a0 x3_1) == 46) = true := beq_iff_eq.mpr c33
                        have c33b1 : ((bt a0 x3_1) != 46) = false := bne_eq_false_iff_eq.mpr c33
                        clear c33
                        have H' := Aside0.mk H
                        clear H
                        have p4 : 0 ≤ (x3_1 : Int) := of_decide_eq_true (by first | (with_reducible assumption) | assumption)
                        have q4 : x3_1 < (a0.size : Int) := of_decide_eq_true (by first | (with_reducible assumption) | assumption)
                        have hx4 := bt_at a0 x3_1
                        replace p4 := eq_true p4
                        replace q4 := eq_true q4
                        go_wp2
                        go_roundg k1
                        case measure => have := HK1.out; omega
                        case rel => exact ⟨(wrap64 (x3_1 + 1)), (by first | rfl | (simp; done) | (simp [*]; done)), H', ⟨by have := HK1.out; omega⟩, by repeat (first | exact Drawn0.refl _ | apply Drawn0.step)⟩
                      · rw [if_neg c33] at H
                        have c33b0 : ((bt a0 x3_1) == 46) = false := beq_eq_false_iff_ne.mpr c33
                        have c33b1 : ((bt a0 x3_1) != 46) = true := bne_iff_ne.mpr c33
                        obtain rfl := Option.some.inj H
                        have p4 : 0 ≤ (x3_1 : Int) := of_decide_eq_true (by first | (with_reducible assumption) | assumption)
                        have q4 : x3_1 < (a0.size : Int) := of_decide_eq_true (by first | (with_reducible assumption) | assumption)
                        have hx4 := bt_at a0 x3_1
                        replace p4 := eq_true p4
                        replace q4 := eq_true q4
                        go_wp2
                        go_ret
                        exact ⟨by first | rfl | (simp; done) | (simp [*]; done), by repeat (first | exact Drawn0.refl _ | apply Drawn0.step)⟩
                  · rw [if_neg c31] at H
                    have c31b0 : decide (48 ≤ (bt a0 x3_1)) = false := decide_eq_false c31
                    clear c31
                    by_cases c34 : ((bt a0 x3_1) = 46)
                    · rw [if_pos c34] at H
                      have c34b0 : ((bt a0 x3_1) == 46) = true := beq_iff_eq.mpr c34
                      have c34b1 : ((bt a0 x3_1) != 46) = false := bne_eq_false_iff_eq.mpr c34
                      clear c34
                      have H' := Aside0.mk H
                      clear H
                      have p4 : 0 ≤ (x3_1 : Int) := of_decide_eq_true (by first | (with_reducible assumption) | assumption)
                      have q4 : x3_1 < (a0.size : Int) := of_decide_eq_true (by first | (with_reducible assumption) | assumption)
                      have hx4 := bt_at a0 x3_1
                      replace p4 := eq_true p4
                      replace q4 := eq_true q4
                      go_wp2
                      go_roundg k1
                      case measure => have := HK1.out; omega
                      case rel => exact ⟨(wrap64 (x3_1 + 1)), (by first | rfl | (simp; done) | (simp [*]; done)), H', ⟨by have := HK1.out; omega⟩, by repeat (first | exact Drawn0.refl _ | apply Drawn0.step)⟩
                    · rw [if_neg c34] at H
                      have c34b0 : ((bt a0 x3_1) == 46) = false := beq_eq_false_iff_ne.mpr c34
                      have c34b1 : ((bt a0 x3_1) != 46) = true := bne_iff_ne.mpr c34
                      obtain rfl := Option.some.inj H
                      have p4 : 0 ≤ (x3_1 : Int) := of_decide_eq_true (by first | (with_reducible assumption) | assumption)
                      have q4 : x3_1 < (a0.size : Int) := of_decide_eq_true (by first | (with_reducible assumption) | assumption)
                      have hx4 := bt_at a0 x3_1
                      replace p4 := eq_true p4
                      replace q4 := eq_true q4
                      go_wp2
                      go_ret
                      exact ⟨by first | rfl | (simp; done) | (simp [*]; done), by repeat (first | exact Drawn0.refl _ | apply Drawn0.step)⟩
        · rw [if_neg c3] at H
          exact absurd H (by simp)
      · rw [if_neg c2] at H
        have c2b0 : decide (x3_1 < (a0.size : Int)) = false := decide_eq_false c2
        clear c2
        by_cases c35 : (a0.size : Int) ≥ 1
        · rw [if_pos c35] at H
          have c35b0 : decide (1 ≤ (a0.size : Int)) = true := decide_eq_true c35
          have c35b1 : decide (1 ≤ a0.size) = true := decide_eq_true (by omega)
          clear c35
          obtain rfl := Option.some.inj H
          go_wp2
          go_ret
          exact ⟨by first | rfl | (simp; done) | (simp [*]; done), by repeat (first | exact Drawn0.refl _ | apply Drawn0.step)⟩
        · rw [if_neg c35] at H
          have c35b0 : decide (1 ≤ (a0.size : Int)) = false := decide_eq_false c35
          have c35b1 : decide (1 ≤ a0.size) = false := decide_eq_false (by omega)
          clear c35
          obtain rfl := Option.some.inj H
          go_wp2
          go_ret
          exact ⟨by first | rfl | (simp; done) | (simp [*]; done), by repeat (first | exact Drawn0.refl _ | apply Drawn0.step)⟩


end Go.Proofs.YtdbmcikoiilanaaDoor.Pp
namespace Go.Proofs.YtdbmcikoiilanaaDoor.Pp
open Go.RowKit Go.Proofs.YtdbmcikoiilanaaDoorW.PrintWords Go.Proofs.YtdbmcikoiilanaaDoorW.PrintLast Go.Proofs.YtdbmcikoiilanaaDoorW.PrintMore
attribute [local go_sem] max2_int min2_int max_two min_two max_three min_three max_four min_four
set_option linter.unusedVariables false
set_option linter.unusedSimpArgs false

attribute [local go_sem high] eqA71
/-! ### tallyroomref36_Right: function 8 -/
def tallyroomref36_Right.l0 : Nat → Bool → Int → ByteArray → List (S29) → Int → Option (Bool)
  | 0, _, _, _, _, _ => none
  | k + 1, x3, x4, x151000, x151001, x151002 => if x4 < (x151001.length : Int) then (if x3 = true then (if 0 ≤ x4 then ((tallyroomref03_Key.f k ((rd_T29 x151001 x4).f0)).bind fun t153 => (tallyroomref36_Right.l0 k t153 (wrap64 (x4 + 1)) x151000 x151001 x151002)) else (none)) else (tallyroomref36_Right.l0 k false (wrap64 (x4 + 1)) x151000 x151001 x151002)) else (some x3)
def tallyroomref36_Right.f (k : Nat) (a0_0 : ByteArray) (l0_1 : List (S29)) (a0_2 : Int) : Option (Bool) := (tallyroomref03_Key.f k a0_0).bind fun t151 => (tallyroomref36_Right.l0 k t151 0 a0_0 l0_1 a0_2)
theorem tallyroomref36_Right.mono_l : ∀ k, (∀ y0 y1 y2 y3 y4, LeO (tallyroomref36_Right.l0 k y0 y1 y2 y3 y4) (tallyroomref36_Right.l0 (k + 1) y0 y1 y2 y3 y4))
  | 0 => fun _ _ _ _ _ r h => by simp [tallyroomref36_Right.l0] at h
  | k + 1 => by
    have ih0 := tallyroomref36_Right.mono_l k
    · intro y0 y1 y2 y3 y4
      unfold tallyroomref36_Right.l0
      repeat' first
      | (with_reducible exact ih0 _ _ _ _ _)
      | (with_reducible exact tallyroomref03_Key.mono _ _)
      | (with_reducible exact LeO.refl _)
      | (with_reducible exact LeO.none _)
      | (with_reducible refine LeO.ite ?_ ?_)
      | (with_reducible refine LeO.bind ?_ (fun _ => ?_))
      | exact ih0 _ _ _ _ _
      | exact tallyroomref03_Key.mono _ _
      | exact LeO.none _
      | refine LeO.ite ?_ ?_
      | refine LeO.bind ?_ (fun _ => ?_)
theorem tallyroomref36_Right.mono : ∀ a0 a1 a2 k, LeO (tallyroomref36_Right.f k a0 a1 a2) (tallyroomref36_Right.f (k + 1) a0 a1 a2) := by
  intro a0 a1 a2 k
  have ih0 := tallyroomref36_Right.mono_l k
  unfold tallyroomref36_Right.f
  repeat' first
      | (with_reducible exact ih0 _ _ _ _ _)
      | (with_reducible exact tallyroomref03_Key.mono _ _)
      | (with_reducible exact LeO.refl _)
      | (with_reducible exact LeO.none _)
      | (with_reducible refine LeO.ite ?_ ?_)
      | (with_reducible refine LeO.bind ?_ (fun _ => ?_))
      | exact ih0 _ _ _ _ _
      | exact tallyroomref03_Key.mono _ _
      | exact LeO.none _
      | refine LeO.ite ?_ ?_
      | refine LeO.bind ?_ (fun _ => ?_)
set_option maxHeartbeats 8000000 in
set_option maxRecDepth 100000 in
theorem tallyroomref36_Right.calls (k : Nat) (a0_0 : ByteArray) (A0_1 : Option Addr) (c0_1 : Nat) (l0_1 : List (S29)) (a0_2 : Int) (r : Bool) (w : World) (hr0_1 : Kd.C k29 w A0_1 l0_1.length l0_1) (hc0_1 : l0_1.length ≤ c0_1) (h : tallyroomref36_Right.f k a0_0 l0_1 a0_2 = some r) :
    Calls Tryd.prog 8 #[.agg #[.string a0_0, .slice A0_1 l0_1.length c0_1, .int .u64 a0_2]] w fun e w' => e = .returned (.bool r) ∧ Below w.heap.size w w' := by
  have hu27 := Tryd.underlying27
  have HR0_1 := Aside0.mk hr0_1
  have HC0_1 := Aside0.mk hc0_1
  clear hr0_1 hc0_1
  have HB := Aside0.mk (Below.refl w.heap.size w)
  have H : ((tallyroomref03_Key.f k a0_0).bind fun t151 => (tallyroomref36_Right.l0 k t151 0 a0_0 l0_1 a0_2)) = some r := h
  clear h
  replace H := Option.bind_eq_some_iff.mp H
  obtain ⟨t151, A20, H⟩ := H
  replace H : (tallyroomref36_Right.l0 k t151 0 a0_0 l0_1 a0_2) = some r := H
  have A2 := Aside0.mk A20
  clear A20
  have H' := Aside0.mk H
  clear H
  go_enter Tryd.func8, Tryd.ntmps8
  go_wp2_with (first | ((with_reducible refine gate_dst (N := 1) rfl ?_); refine box_event ?hg (N := 1) ?hd (cs := #[.string a0_0, .slice A0_1 l0_1.length c0_1, .int .u64 a0_2]) (t := 27) ?hr ?_; (case hd => rfl); (case hg => rfl); (case hr => first | (go_simp; done) | (go_simp; rfl)); intro gb150 hg w3 hbox hb; have n0_ := Aside0.mk (below_step (by repeat (first | (with_reducible first | exact HB.out | apply below_alloc | apply pw_below_drewN | apply below_drew1) | exact HB.out)) hb); have n1_ := Aside0.mk (hbox); have n2_ := Aside0.mk ((by rw [hg]; exact (below_size (by repeat (first | (with_reducible first | exact HB.out | apply below_alloc | apply pw_below_drewN | apply below_drew1) | exact HB.out))) : w.heap.size ≤ gb150)); have n3_ := Aside0.mk ((by rw [hg]; exact (below_size (by repeat (first | (with_reducible first | exact HB.out | apply below_alloc | apply pw_below_drewN | apply below_drew1) | exact HB.out))) : w.heap.size ≤ gb150)); clear HB; have HB := n0_; have BK150 := n1_; have GW150 := n2_; have GE150 := n3_; clear n0_ n1_ n2_ n3_; clear hb hbox hg; have hcz4_0 : w3.cell? ⟨gb150, 0, none⟩ = some (.string a0_0) := (blk_cell BK150.out 0).trans rfl; have hcz4_1 : w3.cell? ⟨gb150, 1, none⟩ = some (.slice A0_1 l0_1.length c0_1) := (blk_cell BK150.out 1).trans rfl; have hcz4_2 : w3.cell? ⟨gb150, 2, none⟩ = some (.int .u64 a0_2) := (blk_cell BK150.out 2).trans rfl; have hfz4_0 := blk_frozen BK150.out 0; have hfz4_1 := blk_frozen BK150.out 1; have hfz4_2 := blk_frozen BK150.out 2) | ((with_reducible refine gate_callee (f := 18) rfl ?_); refine goesL_ (some 7) rfl rfl Tryd.func18 (by kernel_rfl) rfl #[.string a0_0] rfl (by (try simp only [List.map_toArray, List.map_cons, List.map_nil]); first | done | rfl | (simp only [List.length_drop, List.length_take]; rfl)) ?_; (with_reducible refine (tallyroomref03_Key.calls k a0_0 t151 _ A2.out).mono ?_); rintro e w' ⟨rfl, ⟨nd, rfl⟩⟩; refine ⟨_, rfl, ?_⟩))
  go_loopg [3, 4] k (fun kq v3 v4 w' => ∃ (x3_1 : Bool) (x4_1 : Int), v3 = .bool x3_1 ∧ v4 = .int .i64 x4_1 ∧ Aside0 (tallyroomref36_Right.l0 kq x3_1 x4_1 a0_0 l0_1 a0_2 = some r) ∧ Aside0 (kq ≤ k) ∧ Aside0 (w'.heap[gb150]? = some (.cells #[.string a0_0, (.slice A0_1 l0_1.length c0_1), .int .u64 a0_2] 27 (0, 0))) ∧ Aside0 (Below w.heap.size w w'))
  case atStart => exact ⟨(t151), (0), (by first | rfl | (simp; done) | (simp [*]; done)), (by first | rfl | (simp; done) | (simp [*]; done)), H', ⟨Nat.le_refl _⟩, ⟨by (with_reducible repeat (first | refine blk_drewN ?_ _ | refine blk_drew ?_ | refine blk_alloc ?_ _)); exact BK150.out⟩, ⟨by repeat (first | (with_reducible first | exact HB.out | apply below_alloc | apply pw_below_drewN | apply below_drew1 | refine below_set ?_ GE150.out) | exact HB.out)⟩⟩
  case round =>
    clear H'
    try clear c1
    try clear p2
    try clear hcz4_0
    try clear hcz4_1
    try clear hcz4_2
    try clear hfz4_0
    try clear hfz4_1
    try clear hfz4_2
    obtain ⟨x3_1, x4_1, rfl, rfl, HA, HK1, BK150, HB⟩ := hrel
    cases gk with
    | zero => exact absurd HA.out (by simp [tallyroomref36_Right.l0])
    | succ k1 =>
      have H := HA.out
      clear HA
      simp only [tallyroomref36_Right.l0] at H
      by_cases c5 : x4_1 < (l0_1.length : Int)
      · rw [if_pos c5] at H
        have c5b0 : decide (x4_1 < (l0_1.length : Int)) = true := decide_eq_true c5
        clear c5
        by_cases c6 : x3_1 = true
        · subst c6
          have H1 : (if 0 ≤ x4_1 then ((tallyroomref03_Key.f k1 ((rd_T29 l0_1 x4_1).f0)).bind fun t153 => (tallyroomref36_Right.l0 k1 t153 (wrap64 (x4_1 + 1)) a0_0 l0_1 a0_2)) else (none)) = some r := by rw [if_pos rfl] at H; exact H
          clear H
          have H := H1
          clear H1
          by_cases c7 : 0 ≤ x4_1
          · rw [if_pos c7] at H
            have c7b0 : decide (0 ≤ x4_1) = true := decide_eq_true c7
            clear c7
            replace H := Option.bind_eq_some_iff.mp H
            obtain ⟨t153, A80, H⟩ := H
            replace H : (tallyroomref36_Right.l0 k1 t153 (wrap64 (x4_1 + 1)) a0_0 l0_1 a0_2) = some r := H
            have A8 := Aside0.mk A80
            clear A80
            have H' := Aside0.mk H
            clear H
            have hcz9_0 : wr.cell? ⟨gb150, 0, none⟩ = some (.string a0_0) := (blk_cell BK150.out 0).trans rfl
            have hcz9_1 : wr.cell? ⟨gb150, 1, none⟩ = some (.slice A0_1 l0_1.length c0_1) := (blk_cell BK150.out 1).trans rfl
            have hcz9_2 : wr.cell? ⟨gb150, 2, none⟩ = some (.int .u64 a0_2) := (blk_cell BK150.out 2).trans rfl
            have hfz9_0 := blk_frozen BK150.out 0
            have hfz9_1 := blk_frozen BK150.out 1
            have hfz9_2 := blk_frozen BK150.out 2
            have p152 : 0 ≤ (x4_1 : Int) := of_decide_eq_true (by first | (with_reducible assumption) | assumption)
            have q152 : x4_1 < (l0_1.length : Int) := of_decide_eq_true (by first | (with_reducible assumption) | assumption)
            obtain ⟨ad152, e152, hx152_0, hx152_1⟩ := at_T29 HR0_1.out x4_1 p152 q152
            cases e152
            replace hx152_0 := (HB.out.cell (World.block_lt_of_cell? w _ hx152_0)).trans hx152_0
            replace hx152_1 := (HB.out.cell (World.block_lt_of_cell? w _ hx152_1)).trans hx152_1
            replace p152 := eq_true p152
            replace q152 := eq_true q152
            go_wp2_with (first | (go_at_call 18; (with_reducible refine (tallyroomref03_Key.calls k1 ((rd_T29 l0_1 x4_1).f0) t153 _ A8.out).mono ?_); rintro e w' ⟨rfl, ⟨nd, rfl⟩⟩))
            go_roundg k1
            case measure => have := HK1.out; omega
            case rel => exact ⟨(t153), (wrap64 (x4_1 + 1)), (by first | rfl | (simp; done) | (simp [*]; done)), (by first | rfl | (simp; done) | (simp [*]; done)), H', ⟨by have := HK1.out; omega⟩, ⟨by (with_reducible repeat (first | refine blk_drewN ?_ _ | refine blk_drew ?_ | refine blk_alloc ?_ _)); exact BK150.out⟩, ⟨by repeat (first | (with_reducible first | exact HB.out | apply below_alloc | apply pw_below_drewN | apply below_drew1 | refine below_set ?_ GE150.out) | exact HB.out)⟩⟩
          · rw [if_neg c7] at H
            exact absurd H (by simp)
        · replace c6 := Bool.eq_false_iff.mpr c6
          subst c6
          have H1 : (tallyroomref36_Right.l0 k1 false (wrap64 (x4_1 + 1)) a0_0 l0_1 a0_2) = some r := by rw [if_neg (show ¬ (false = true) by decide)] at H; exact H
          clear H
          have H := H1
          clear H1
          have H' := Aside0.mk H
          clear H
          have hcz10_0 : wr.cell? ⟨gb150, 0, none⟩ = some (.string a0_0) := (blk_cell BK150.out 0).trans rfl
          have hcz10_1 : wr.cell? ⟨gb150, 1, none⟩ = some (.slice A0_1 l0_1.length c0_1) := (blk_cell BK150.out 1).trans rfl
          have hcz10_2 : wr.cell? ⟨gb150, 2, none⟩ = some (.int .u64 a0_2) := (blk_cell BK150.out 2).trans rfl
          have hfz10_0 := blk_frozen BK150.out 0
          have hfz10_1 := blk_frozen BK150.out 1
          have hfz10_2 := blk_frozen BK150.out 2
          go_wp2
          go_roundg k1
          case measure => have := HK1.out; omega
          case rel => exact ⟨(false), (wrap64 (x4_1 + 1)), (by first | rfl | (simp; done) | (simp [*]; done)), (by first | rfl | (simp; done) | (simp [*]; done)), H', ⟨by have := HK1.out; omega⟩, ⟨by (with_reducible repeat (first | refine blk_drewN ?_ _ | refine blk_drew ?_ | refine blk_alloc ?_ _)); exact BK150.out⟩, ⟨by repeat (first | (with_reducible first | exact HB.out | apply below_alloc | apply pw_below_drewN | apply below_drew1 | refine below_set ?_ GE150.out) | exact HB.out)⟩⟩
      · rw [if_neg c5] at H
        have c5b0 : decide (x4_1 < (l0_1.length : Int)) = false := decide_eq_false c5
        clear c5
        obtain rfl := Option.some.inj H
        have hcz11_0 : wr.cell? ⟨gb150, 0, none⟩ = some (.string a0_0) := (blk_cell BK150.out 0).trans rfl
        have hcz11_1 : wr.cell? ⟨gb150, 1, none⟩ = some (.slice A0_1 l0_1.length c0_1) := (blk_cell BK150.out 1).trans rfl
        have hcz11_2 : wr.cell? ⟨gb150, 2, none⟩ = some (.int .u64 a0_2) := (blk_cell BK150.out 2).trans rfl
        have hfz11_0 := blk_frozen BK150.out 0
        have hfz11_1 := blk_frozen BK150.out 1
        have hfz11_2 := blk_frozen BK150.out 2
        go_wp2
        go_ret
        exact ⟨by first | rfl | (simp [errW_none, errW_some] <;> rfl) | (simp [*, errW_none, errW_some] <;> rfl), by repeat (first | (with_reducible first | exact HB.out | apply below_alloc | apply pw_below_drewN | apply below_drew1 | refine below_set ?_ GE150.out) | exact HB.out)⟩



end Go.Proofs.YtdbmcikoiilanaaDoor.Pp
set_option linter.unusedVariables false
set_option linter.unusedSimpArgs false
namespace Go.Proofs.YtdbmcikoiilanaaDoor.Xp
open Go.RowKit Go.Proofs.YtdbmcikoiilanaaDoorW.PrintWords Go.Proofs.YtdbmcikoiilanaaDoor.Pp

theorem wrap64_small (n : Int) (h0 : 0 ≤ n) (h1 : n ≤ 1000000000) : Go.RowKit.wrap64 n = n := by rw [Go.RowKit.wrap64]; omega
theorem cls_iff (r : Nat) (f : Bool) : clsR r f = true ↔ ((97 ≤ r ∧ r ≤ 122) ∨ (65 ≤ r ∧ r ≤ 90) ∨ r = 95 ∨ (f = false ∧ ((48 ≤ r ∧ r ≤ 57) ∨ r = 46))) := by
  simp only [clsR, Bool.or_eq_true, Bool.and_eq_true, decide_eq_true_iff, beq_iff_eq, Bool.not_eq_true']
  cases f <;> simp <;> omega
set_option maxHeartbeats 8000000 in
theorem key_step (k : Nat) (s : ByteArray) (i : Nat) (hi : i < s.size) (hs : s.size ≤ 1000000) (r : Nat) (hr : bt s i = r) :
    tallyroomref03_Key.l0 (k + 1) s i = if clsR r (decide (i = 0)) = true then tallyroomref03_Key.l0 k s ((i + 1 : Nat) : Int) else some false := by
  have hq := cls_iff r (decide (i = 0))
  have hd : (decide (i = 0) = false) ↔ i ≠ 0 := by simp
  rw [hd] at hq
  have e : Go.RowKit.wrap64 ((i : Int) + 1) = ((i + 1 : Nat) : Int) := by rw [wrap64_small _ (by omega) (by omega)]; omega
  rw [tallyroomref03_Key.l0, if_pos (by omega), if_pos (by omega), hr, e]
  by_cases hc : clsR r (decide (i = 0)) = true
  · rw [if_pos hc]
    have h := hq.1 hc
    repeat' split
    all_goals first | rfl | (exfalso; omega)
  · rw [if_neg hc]
    have h : ¬ _ := fun h => hc (hq.2 h)
    repeat' split
    all_goals first | rfl | (exfalso; omega)
theorem key_l (s : ByteArray) (hs : s.size ≤ 1000000) : ∀ (k i : Nat), i ≤ s.size → s.size - i < k → preK (s.data.toList.take i) = true → tallyroomref03_Key.l0 k s i = some (keyL s.data.toList)
  | 0, i, _, h, _ => by omega
  | k + 1, i, hi, h, hp => by
    have hsz : s.data.toList.length = s.size := rfl
    by_cases hlt : i < s.size
    · have hg : s.data.toList[i]? = some (s[i]'hlt) := by
        have e : s.data.toList[i]? = some (s.data.toList[i]'(by rw [hsz]; exact hlt)) := List.getElem?_eq_getElem _
        rw [e]; rfl
      have hbt : bt s i = ((s[i]'hlt).toNat : Int) := by
        have := bt_at s (i : Int) (by omega)
        rw [← this]; congr 2
      rw [key_step k s i hlt hs _ hbt, cls_ascii]
      have hnext : preK (s.data.toList.take (i + 1)) = (if decide (i = 0) = true then isA (s[i]'hlt) else isK (s[i]'hlt)) := by
        rcases Nat.eq_zero_or_pos i with h0 | h0
        · subst h0; simpa using pre_zero _ _ hg
        · rw [pre_succ _ i _ h0 hg, hp, Bool.true_and, if_neg (by simp; omega)]
      rw [← hnext]
      by_cases hq : preK (s.data.toList.take (i + 1)) = true
      · rw [if_pos hq]; exact key_l s hs k (i + 1) (by omega) (by omega) hq
      · rw [if_neg hq, key_pre, pre_false _ (i + 1) (by simpa using hq)]; simp
    · have hpp : preK s.data.toList = true := by rwa [List.take_of_length_le (by omega)] at hp
      rw [tallyroomref03_Key.l0, if_neg (by omega), key_pre, hpp]
      by_cases h0 : s.size = 0
      · rw [if_neg (by omega)]
        have : s.data.toList = [] := List.eq_nil_of_length_eq_zero (by rw [hsz, h0])
        rw [this]; rfl
      · rw [if_pos (by omega)]
        have hne : (s.data.toList == []) = false := by
          rw [beq_eq_false_iff_ne]; intro e; rw [e] at hsz; simp at hsz; omega
        rw [hne, hsz]
        congr 1
        simp
        omega
theorem key_f (s : ByteArray) (hs : s.size ≤ 1000000) (k : Nat) (hk : s.size < k) : tallyroomref03_Key.f k s = some (keyL s.data.toList) := key_l s hs k 0 (Nat.zero_le _) (by omega) rfl
end Go.Proofs.YtdbmcikoiilanaaDoor.Xp
set_option linter.unusedVariables false
set_option linter.unusedSimpArgs false
namespace Go.Proofs.YtdbmcikoiilanaaDoor.Xp
open Go.RowKit Go.Proofs.YtdbmcikoiilanaaDoorW.PrintWords Go.Proofs.YtdbmcikoiilanaaDoor.Pp

abbrev RLab := S29
theorem rright_l (nm : ByteArray) (N : Int) (ls : List RLab) (hl : ls.length ≤ 1000000) (hs : ∀ y ∈ ls, y.f0.size ≤ 1000) : ∀ (m k i : Nat) (b : Bool), i ≤ ls.length → ls.length - i = m → m + 1002 ≤ k →
    tallyroomref36_Right.l0 k b i nm ls N = some (b && (ls.drop i).all fun y => keyL y.f0.data.toList)
  | m, 0, i, b, _, _, h => by omega
  | m, k + 1, i, b, hi, hm, h => by
    rw [tallyroomref36_Right.l0]
    by_cases hlt : i < ls.length
    · obtain ⟨m', rfl⟩ : ∃ m', m = m' + 1 := ⟨m - 1, by omega⟩
      have hrd : rd_T29 ls (i : Int) = ls[i] := by unfold rd_T29; rw [show ((i : Int)).toNat = i from by omega, List.getD_eq_getElem?_getD, List.getElem?_eq_getElem hlt]; rfl
      have e : Go.RowKit.wrap64 ((i : Int) + 1) = ((i + 1 : Nat) : Int) := by rw [wrap64_small _ (by omega) (by omega)]; omega
      rw [if_pos (by omega), hrd, e, List.drop_eq_getElem_cons hlt, List.all_cons]
      cases b
      · rw [if_neg (by simp), rright_l nm N ls hl hs m' k (i + 1) false (by omega) (by omega) (by omega)]; simp
      · have hz := hs _ (List.getElem_mem hlt)
        rw [if_pos rfl, if_pos (by omega), key_f _ (by omega) k (by omega), Option.bind_some, rright_l nm N ls hl hs m' k (i + 1) _ (by omega) (by omega) (by omega)]; simp
    · rw [if_neg (by omega), List.drop_of_length_le (by omega)]; simp
theorem rright_f (nm : ByteArray) (N : Int) (ls : List RLab) (hl : ls.length ≤ 100) (hn : nm.size ≤ 1000) (hs : ∀ y ∈ ls, y.f0.size ≤ 1000) : tallyroomref36_Right.f 1200 nm ls N = some (keyL nm.data.toList && ls.all fun y => keyL y.f0.data.toList) := by
  unfold tallyroomref36_Right.f
  rw [key_f nm (by omega) 1200 (by omega), Option.bind_some]
  exact rright_l nm N ls (by omega) hs ls.length 1200 0 _ (Nat.zero_le _) (by omega) (by omega)
end Go.Proofs.YtdbmcikoiilanaaDoor.Xp
namespace Go.Proofs.YtdbmcikoiilanaaDoor.Pp
open Go.RowKit Go.Proofs.YtdbmcikoiilanaaDoorW.PrintWords Go.Proofs.YtdbmcikoiilanaaDoorW.PrintLast Go.Proofs.YtdbmcikoiilanaaDoorW.PrintMore
attribute [local go_sem] max2_int min2_int max_two min_two max_three min_three max_four min_four
set_option linter.unusedVariables false
set_option linter.unusedSimpArgs false

attribute [local go_sem high] eqA71
/-! ### tallyroomlaw36_Of: function 10 -/
mutual
def tallyroomlaw36_Of.l0 : Nat → List (S27) → List (S43) → Int → Option ((List (S43)))
  | 0, _, _, _ => none
  | k + 1, x0, x3, x4 => if x4 < (x0.length : Int) then (if 0 ≤ x4 then (tallyroomlaw36_Of.l1 k x0 x3 x4 0 ((rd_T27 x0 x4).f0) ([] : List (S71)) ((rd_T27 x0 x4).f2)) else (none)) else (some x3)
def tallyroomlaw36_Of.l1 : Nat → List (S27) → List (S43) → Int → Int → ByteArray → List (S71) → Int → Option ((List (S43)))
  | 0, _, _, _, _, _, _, _ => none
  | k + 1, x0, x3, x4, x6, x157000, x157001, x157002 => if 0 ≤ x4 then (if x4 < (x0.length : Int) then (if x6 < (((rd_T27 x0 x4).f1).length : Int) then (if 0 ≤ x6 then (if x157001.length < 4398046511104 then (tallyroomlaw36_Of.l1 k x0 x3 x4 (wrap64 (x6 + 1)) x157000 (x157001 ++ [(⟨(rd_T29 ((rd_T27 x0 x4).f1) x6).f0, (rd_T29 ((rd_T27 x0 x4).f1) x6).f1⟩ : S71)]) x157002) else (none)) else (none)) else (if x3.length < 2932031007402 then (tallyroomlaw36_Of.l0 k x0 (x3 ++ [(⟨x157000, x157001, x157002⟩ : S43)]) (wrap64 (x4 + 1))) else (none))) else (none)) else (none)
end
def tallyroomlaw36_Of.f (k : Nat) (l0 : List (S27)) : Option ((List (S43))) := tallyroomlaw36_Of.l0 k l0 ([] : List (S43)) 0
theorem tallyroomlaw36_Of.mono_l : ∀ k, (∀ y0 y1 y2, LeO (tallyroomlaw36_Of.l0 k y0 y1 y2) (tallyroomlaw36_Of.l0 (k + 1) y0 y1 y2)) ∧ (∀ y0 y1 y2 y3 y4 y5 y6, LeO (tallyroomlaw36_Of.l1 k y0 y1 y2 y3 y4 y5 y6) (tallyroomlaw36_Of.l1 (k + 1) y0 y1 y2 y3 y4 y5 y6))
  | 0 => ⟨fun _ _ _ r h => by simp [tallyroomlaw36_Of.l0] at h, fun _ _ _ _ _ _ _ r h => by simp [tallyroomlaw36_Of.l1] at h⟩
  | k + 1 => by
    obtain ⟨ih0, ih1⟩ := tallyroomlaw36_Of.mono_l k
    refine ⟨?_, ?_⟩
    · intro y0 y1 y2
      unfold tallyroomlaw36_Of.l0
      repeat' first
      | (with_reducible exact ih0 _ _ _)
      | (with_reducible exact ih1 _ _ _ _ _ _ _)
      | (with_reducible exact LeO.refl _)
      | (with_reducible exact LeO.none _)
      | (with_reducible refine LeO.ite ?_ ?_)
      | (with_reducible refine LeO.bind ?_ (fun _ => ?_))
      | exact ih0 _ _ _
      | exact ih1 _ _ _ _ _ _ _
      | exact LeO.none _
      | refine LeO.ite ?_ ?_
      | refine LeO.bind ?_ (fun _ => ?_)
    · intro y0 y1 y2 y3 y4 y5 y6
      unfold tallyroomlaw36_Of.l1
      repeat' first
      | (with_reducible exact ih0 _ _ _)
      | (with_reducible exact ih1 _ _ _ _ _ _ _)
      | (with_reducible exact LeO.refl _)
      | (with_reducible exact LeO.none _)
      | (with_reducible refine LeO.ite ?_ ?_)
      | (with_reducible refine LeO.bind ?_ (fun _ => ?_))
      | exact ih0 _ _ _
      | exact ih1 _ _ _ _ _ _ _
      | exact LeO.none _
      | refine LeO.ite ?_ ?_
      | refine LeO.bind ?_ (fun _ => ?_)
theorem tallyroomlaw36_Of.mono : ∀ a0 k, LeO (tallyroomlaw36_Of.f k a0) (tallyroomlaw36_Of.f (k + 1) a0) := by
  intro a0 k
  obtain ⟨ih0, ih1⟩ := tallyroomlaw36_Of.mono_l k
  unfold tallyroomlaw36_Of.f
  repeat' first
      | (with_reducible exact ih0 _ _ _)
      | (with_reducible exact ih1 _ _ _ _ _ _ _)
      | (with_reducible exact LeO.refl _)
      | (with_reducible exact LeO.none _)
      | (with_reducible refine LeO.ite ?_ ?_)
      | (with_reducible refine LeO.bind ?_ (fun _ => ?_))
      | exact ih0 _ _ _
      | exact ih1 _ _ _ _ _ _ _
      | exact LeO.none _
      | refine LeO.ite ?_ ?_
      | refine LeO.bind ?_ (fun _ => ?_)
def tallyroomlaw36_Of.T5 : Bool × List (List Nat × List Nat) := (true, [([], []), ([], []), ([0, 1], [0, 1]), ([2], [2]), ([3], [3]), ([], []), ([], []), ([5, 6], [5, 6]), ([7], [7]), ([8], [8]), ([4, 9], [4, 9]), ([], []), ([11, 10, 0, 1, 2, 3, 4, 5, 6, 7, 8, 9, 10, 11], [10, 11])])
def tallyroomlaw36_Of.B5 : List Nat := [0, 0, 3, 7, 15, 0, 0, 96, 224, 480, 1023, 0, 4095]
theorem tallyroomlaw36_Of.tab5 : rtab .any (opsOf Tryd.f10 5) = tallyroomlaw36_Of.T5 := by kernel_rfl
theorem tallyroomlaw36_Of.bits5 : waitsOk tallyroomlaw36_Of.T5.2 tallyroomlaw36_Of.B5 = true := by kernel_rfl
def tallyroomlaw36_Of.T9 : Bool × List (List Nat × List Nat) := (true, [([], []), ([0], [0]), ([], []), ([], []), ([2, 3], [2, 3]), ([4], [4]), ([5], [5]), ([], []), ([6, 7], [6, 7]), ([8], [8]), ([9], [9]), ([1, 10], [1, 10]), ([0, 1, 2, 3, 4, 5, 6, 7, 8, 9, 10, 11], []), ([12, 11, 11, 0, 1, 2, 3, 4, 5, 6, 7, 8, 9, 10, 11], [11, 12])])
def tallyroomlaw36_Of.B9 : List Nat := [0, 1, 0, 0, 12, 28, 60, 0, 252, 508, 1020, 2047, 4095, 8191]
theorem tallyroomlaw36_Of.tab9 : rtab .any (opsOf Tryd.f10 9) = tallyroomlaw36_Of.T9 := by kernel_rfl
theorem tallyroomlaw36_Of.bits9 : waitsOk tallyroomlaw36_Of.T9.2 tallyroomlaw36_Of.B9 = true := by kernel_rfl
set_option maxHeartbeats 8000000 in
set_option maxRecDepth 100000 in
theorem tallyroomlaw36_Of.calls (k : Nat) (A0 : Option Addr) (c0 : Nat) (l0 : List (S27)) (r : List (S43)) (w : World) (hr0 : Kd.C k27 w A0 l0.length l0) (hc0 : l0.length ≤ c0) (h : tallyroomlaw36_Of.f k l0 = some r) :
    Calls Tryd.prog 10 #[.slice A0 l0.length c0] w fun e w' => ∃ v0_ : Value, e = .returned (v0_) ∧ Kd.S k43 43 w' w.heap.size (fun _ => True) v0_ r ∧ Below w.heap.size w w' := by
  have hu43 := Tryd.underlying43
  have hu29 := Tryd.underlying29
  have HR0 := Aside0.mk hr0
  have HC0 := Aside0.mk hc0
  clear hr0 hc0
  have HB := Aside0.mk (Below.refl w.heap.size w)
  have H : (tallyroomlaw36_Of.l0 k l0 ([] : List (S43)) 0) = some r := h
  clear h
  have H' := Aside0.mk H
  clear H
  go_enter Tryd.func10, Tryd.ntmps10
  go_wp2
  go_loopg [3, 4] k (fun kq v3 v4 w' => ∃ (x3_1 : List (S43)) (x4_1 : Int), v4 = .int .i64 x4_1 ∧ Aside0 (tallyroomlaw36_Of.l0 kq l0 x3_1 x4_1 = some r) ∧ Aside0 (kq ≤ k) ∧ Aside0 (Kd.S k43 43 w' w.heap.size (fun _ => True) v3 x3_1) ∧ Aside0 (Below w.heap.size w w'))
  case atStart => exact ⟨(([] : List (S43))), (0), (by first | rfl | (simp; done) | (simp [*]; done)), H', ⟨Nat.le_refl _⟩, ⟨by first | exact Kd.S_nil _ _ _ _ _ | exact Kd.N_nil _ _ _ _ _ | exact Kd.V_nil _ _ _ _ _ | exact Kd.Q_nil _ _ _ _ _ | exact Kd.R_nil _ _ _ _ _⟩, ⟨by repeat (first | (with_reducible first | exact HB.out | apply below_alloc | apply pw_below_drewN | apply below_drew1) | exact HB.out)⟩⟩
  case round =>
    clear H'
    try clear c1
    obtain ⟨x3_1, x4_1, rfl, HA, HK1, HO_3, HB⟩ := hrel
    cases gk with
    | zero => exact absurd HA.out (by simp [tallyroomlaw36_Of.l0])
    | succ k1 =>
      have H := HA.out
      clear HA
      simp only [tallyroomlaw36_Of.l0] at H
      by_cases c2 : x4_1 < (l0.length : Int)
      · rw [if_pos c2] at H
        have c2b0 : decide (x4_1 < (l0.length : Int)) = true := decide_eq_true c2
        clear c2
        by_cases c3 : 0 ≤ x4_1
        · rw [if_pos c3] at H
          have c3b0 : decide (0 ≤ x4_1) = true := decide_eq_true c3
          clear c3
          have H' := Aside0.mk H
          clear H
          try go_wp2
          have n0_ := Aside0.mk (Kd.S_drew HO_3.out)
          have n1_ := Aside0.mk (below_drew1 HB.out)
          clear HO_3
          clear HB
          have HO_3 := n0_
          have HB := n1_
          clear n0_ n1_
          have p154 : 0 ≤ (x4_1 : Int) := of_decide_eq_true (by first | (with_reducible assumption) | assumption)
          have q154 : x4_1 < (l0.length : Int) := of_decide_eq_true (by first | (with_reducible assumption) | assumption)
          obtain ⟨ad154, A154_1, c154_1, e154, hx154_0, hx154_1, hx154_2, hl154_1, hi154_1⟩ := at_T27 HR0.out x4_1 p154 q154
          have hw154_2 := hx154_2
          have hw154_1 := hx154_1
          have hw154_0 := hx154_0
          cases e154
          replace hx154_0 := (HB.out.cell (World.block_lt_of_cell? w _ hx154_0)).trans hx154_0
          replace hx154_1 := (HB.out.cell (World.block_lt_of_cell? w _ hx154_1)).trans hx154_1
          replace hx154_2 := (HB.out.cell (World.block_lt_of_cell? w _ hx154_2)).trans hx154_2
          have HR154_1 := Aside0.mk hi154_1
          have HC154_1 := Aside0.mk hl154_1
          clear hi154_1 hl154_1
          replace p154 := eq_true p154
          replace q154 := eq_true q154
          have p155 : 0 ≤ (x4_1 : Int) := of_decide_eq_true (by first | (with_reducible assumption) | assumption)
          have q155 : x4_1 < (l0.length : Int) := of_decide_eq_true (by first | (with_reducible assumption) | assumption)
          obtain ⟨ad155, A155_1, c155_1, e155, hx155_0, hx155_1, hx155_2, hl155_1, hi155_1⟩ := at_T27 HR0.out x4_1 p155 q155
          have hw155_2 := hx155_2
          have hw155_1 := hx155_1
          have hw155_0 := hx155_0
          obtain rfl : ad154 = ad155 := (by injection e155)
          replace hx155_0 := (HB.out.cell (World.block_lt_of_cell? w _ hx155_0)).trans hx155_0
          replace hx155_1 := (HB.out.cell (World.block_lt_of_cell? w _ hx155_1)).trans hx155_1
          replace hx155_2 := (HB.out.cell (World.block_lt_of_cell? w _ hx155_2)).trans hx155_2
          have HR155_1 := Aside0.mk hi155_1
          have HC155_1 := Aside0.mk hl155_1
          clear hi155_1 hl155_1
          replace p155 := eq_true p155
          replace q155 := eq_true q155
          have ea_ := Option.some.inj (hx154_1.symm.trans hx155_1)
          injection ea_ with ea_ en_ ec_
          subst ea_
          subst ec_
          clear en_
          refine start_ (n := 13) (S := fun w' => w'.cell? (ad154.add ((x4_1).toNat * 3)) = some (.string ((rd_T27 l0 x4_1).f0)) ∧ w'.cell? ⟨(ad154.add ((x4_1).toNat * 3)).block, (ad154.add ((x4_1).toNat * 3)).off + 1, none⟩ = some (.slice A154_1 ((rd_T27 l0 x4_1).f1).length c154_1) ∧ w'.cell? ⟨(ad154.add ((x4_1).toNat * 3)).block, (ad154.add ((x4_1).toNat * 3)).off + 2, none⟩ = some (.int .u64 ((rd_T27 l0 x4_1).f2)) ∧ w'.cell? (ad154.add ((x4_1).toNat * 3)) = some (.string ((rd_T27 l0 x4_1).f0)) ∧ w'.cell? ⟨(ad154.add ((x4_1).toNat * 3)).block, (ad154.add ((x4_1).toNat * 3)).off + 1, none⟩ = some (.slice A154_1 ((rd_T27 l0 x4_1).f1).length c154_1) ∧ w'.cell? ⟨(ad154.add ((x4_1).toNat * 3)).block, (ad154.add ((x4_1).toNat * 3)).off + 2, none⟩ = some (.int .u64 ((rd_T27 l0 x4_1).f2))) (ds := []) #[false, false, false, false, false, false, false, false, false, false, false, false, false] (by kernel_rfl) rfl rfl ⟨((HB.out.cell (World.block_lt_of_cell? w _ hw154_0)).trans hw154_0), ((HB.out.cell (World.block_lt_of_cell? w _ hw154_1)).trans hw154_1), ((HB.out.cell (World.block_lt_of_cell? w _ hw154_2)).trans hw154_2), ((HB.out.cell (World.block_lt_of_cell? w _ hw155_0)).trans hw155_0), ((HB.out.cell (World.block_lt_of_cell? w _ hw155_1)).trans hw155_1), ((HB.out.cell (World.block_lt_of_cell? w _ hw155_2)).trans hw155_2)⟩ (fun hHeld => ?_); refine with_tabW tallyroomlaw36_Of.tab5 tallyroomlaw36_Of.bits5 (fun HT_ HW_ => ?_)
          generalize wr.drew = w4 at HO_3 HB HR154_1 HR155_1 hx154_0 hx154_1 hx154_2 hx155_0 hx155_1 hx155_2 hHeld ⊢
          refine pure_ (i := 0) (N := some 13) (v := ?_) (a' := ?_) #[true, false, false, false, false, false, false, false, false, false, false, false, false] rfl rfl (any_of HT_.out (by kernel_rfl)) (fun _ _ _ h => h) (Or.inl ⟨by rfl, ?_⟩) ?_ ?_
          rotate_left
          · intro w'
            go_simp
            with_reducible rfl
          rotate_left
          · simp only [Act.put, List.setIfInBounds_toArray, List.set_cons_zero, List.set_cons_succ, i64_w, i32_w]
            rfl
          refine pure_ (i := 1) (N := some 14) (v := ?_) (a' := ?_) #[true, true, false, false, false, false, false, false, false, false, false, false, false] rfl rfl (any_of HT_.out (by kernel_rfl)) (fun _ _ _ h => h) (Or.inl ⟨by rfl, ?_⟩) ?_ ?_
          rotate_left
          · intro w'
            go_simp
            with_reducible rfl
          rotate_left
          · simp only [Act.put, List.setIfInBounds_toArray, List.set_cons_zero, List.set_cons_succ, i64_w, i32_w]
            rfl
          refine pure_ (i := 2) (N := some 15) (v := ?_) (a' := ?_) #[true, true, true, false, false, false, false, false, false, false, false, false, false] rfl rfl (any_of HT_.out (by kernel_rfl)) (fun _ _ _ h => h) (Or.inl ⟨by rfl, ?_⟩) ?_ ?_
          rotate_left
          · intro w'
            go_simp
            with_reducible rfl
          rotate_left
          · simp only [Act.put, List.setIfInBounds_toArray, List.set_cons_zero, List.set_cons_succ, i64_w, i32_w]
            rfl
          refine pure_ (i := 3) (N := some 16) (v := ?_) (a' := ?_) #[true, true, true, true, false, false, false, false, false, false, false, false, false] rfl rfl (any_of HT_.out (by kernel_rfl)) (fun _ _ _ h => h) (Or.inl ⟨by rfl, ?_⟩) ?_ ?_
          rotate_left
          · intro w'
            go_simp
            with_reducible rfl
          rotate_left
          · simp only [Act.put, List.setIfInBounds_toArray, List.set_cons_zero, List.set_cons_succ, i64_w, i32_w]
            rfl
          refine pure_ (i := 5) (N := some 18) (v := ?_) (a' := ?_) #[true, true, true, true, false, true, false, false, false, false, false, false, false] rfl rfl (any_of HT_.out (by kernel_rfl)) (fun _ _ _ h => h) (Or.inl ⟨by rfl, ?_⟩) ?_ ?_
          rotate_left
          · intro w'
            go_simp
            with_reducible rfl
          rotate_left
          · simp only [Act.put, List.setIfInBounds_toArray, List.set_cons_zero, List.set_cons_succ, i64_w, i32_w]
            rfl
          refine pure_ (i := 6) (N := some 19) (v := ?_) (a' := ?_) #[true, true, true, true, false, true, true, false, false, false, false, false, false] rfl rfl (any_of HT_.out (by kernel_rfl)) (fun _ _ _ h => h) (Or.inl ⟨by rfl, ?_⟩) ?_ ?_
          rotate_left
          · intro w'
            go_simp
            with_reducible rfl
          rotate_left
          · simp only [Act.put, List.setIfInBounds_toArray, List.set_cons_zero, List.set_cons_succ, i64_w, i32_w]
            rfl
          refine pure_ (i := 7) (N := some 20) (v := ?_) (a' := ?_) #[true, true, true, true, false, true, true, true, false, false, false, false, false] rfl rfl (any_of HT_.out (by kernel_rfl)) (fun _ _ _ h => h) (Or.inl ⟨by rfl, ?_⟩) ?_ ?_
          rotate_left
          · intro w'
            go_simp
            with_reducible rfl
          rotate_left
          · simp only [Act.put, List.setIfInBounds_toArray, List.set_cons_zero, List.set_cons_succ, i64_w, i32_w]
            rfl
          refine pure_ (i := 8) (N := some 21) (v := ?_) (a' := ?_) #[true, true, true, true, false, true, true, true, true, false, false, false, false] rfl rfl (any_of HT_.out (by kernel_rfl)) (fun _ _ _ h => h) (Or.inl ⟨by rfl, ?_⟩) ?_ ?_
          rotate_left
          · intro w'
            go_simp
            with_reducible rfl
          rotate_left
          · simp only [Act.put, List.setIfInBounds_toArray, List.set_cons_zero, List.set_cons_succ, i64_w, i32_w]
            rfl
          refine take_ (i := 4) (N := some 17) (v := ?_) (a' := ?_) #[true, true, true, true, true, true, true, true, true, false, false, false, false] rfl rfl (take_ofW HT_.out HW_.out (by kernel_rfl)) (fun _ _ _ h => h) (Or.inl ⟨by rfl, ?_⟩) hHeld ?_ ?_
          rotate_left
          · rintro w' ⟨s0, s1, s2, s3, s4, s5⟩
            go_simp
            with_reducible rfl
          rotate_left
          · simp only [Act.put, List.setIfInBounds_toArray, List.set_cons_zero, List.set_cons_succ, i64_w, i32_w]
            rfl
          refine take_ (i := 9) (N := some 22) (v := ?_) (a' := ?_) #[true, true, true, true, true, true, true, true, true, true, false, false, false] rfl rfl (take_ofW HT_.out HW_.out (by kernel_rfl)) (fun _ _ _ h => h) (Or.inl ⟨by rfl, ?_⟩) hHeld ?_ ?_
          rotate_left
          · rintro w' ⟨s0, s1, s2, s3, s4, s5⟩
            go_simp
            with_reducible rfl
          rotate_left
          · simp only [Act.put, List.setIfInBounds_toArray, List.set_cons_zero, List.set_cons_succ, i64_w, i32_w]
            rfl
          refine pure_ (i := 10) (N := some 23) (v := ?_) (a' := ?_) #[true, true, true, true, true, true, true, true, true, true, true, false, false] rfl rfl (any_of HT_.out (by kernel_rfl)) (fun _ _ _ h => h) (Or.inl ⟨by rfl, ?_⟩) ?_ ?_
          rotate_left
          · intro w'
            go_simp
            with_reducible rfl
          rotate_left
          · simp only [Act.put, List.setIfInBounds_toArray, List.set_cons_zero, List.set_cons_succ, i64_w, i32_w]
            rfl
          refine one_ (i := 11) (N := some 5) #[true, true, true, true, true, true, true, true, true, true, true, true, false] rfl rfl (one_of HT_.out (by kernel_rfl)) (by decide) (fun K hK => ?_)
          refine box_step ?hg (N := 5) ?hd (cs := #[.string (⟨#[]⟩ : ByteArray), .slice none 0 0, .int .u64 0]) (t := 43) ?hr ?_; (case hd => rfl); (case hg => rfl); (case hr => first | (go_simp; done) | (go_simp; rfl))
          intro gb156 hg w5 hbox hb
          have n0_ := Aside0.mk (Kd.S_below (Kd.S_elderB (by (with_reducible repeat (first | apply Kd.S_alloc | apply Kd.S_drewN | apply Kd.S_drew)); exact HO_3.out) gb156 (Nat.le_of_eq hg.symm)) hb)
          have n1_ := Aside0.mk (below_step (by repeat (first | (with_reducible first | exact HB.out | apply below_alloc | apply pw_below_drewN | apply below_drew1) | exact HB.out)) hb)
          have n2_ := Aside0.mk (hbox)
          have n3_ := Aside0.mk ((by rw [hg]; exact (below_size (by repeat (first | (with_reducible first | exact HB.out | apply below_alloc | apply pw_below_drewN | apply below_drew1) | exact HB.out))) : w.heap.size ≤ gb156))
          have n4_ := Aside0.mk ((by rw [hg]; exact (below_size (by repeat (first | (with_reducible first | exact HB.out | apply below_alloc | apply pw_below_drewN | apply below_drew1) | exact HB.out))) : w.heap.size ≤ gb156))
          clear HO_3
          clear HB
          have HO_3 := n0_
          have HB := n1_
          have BK156 := n2_
          have GW156 := n3_
          have GE156 := n4_
          clear n0_ n1_ n2_ n3_ n4_
          clear hb hbox hg
          refine hK.out _ _ ⟨((HB.out.cell (World.block_lt_of_cell? w _ hw154_0)).trans hw154_0), ((HB.out.cell (World.block_lt_of_cell? w _ hw154_1)).trans hw154_1), ((HB.out.cell (World.block_lt_of_cell? w _ hw154_2)).trans hw154_2), ((HB.out.cell (World.block_lt_of_cell? w _ hw155_0)).trans hw155_0), ((HB.out.cell (World.block_lt_of_cell? w _ hw155_1)).trans hw155_1), ((HB.out.cell (World.block_lt_of_cell? w _ hw155_2)).trans hw155_2)⟩ (fun hHeld => ?_)
          clear hK K
          refine norm_ (a' := ?_) ?_ ?_
          rotate_left
          · show Act.put _ (some 5) _ = _
            simp only [Act.put, List.setIfInBounds_toArray, List.set_cons_zero, List.set_cons_succ, i64_w, i32_w]
            rfl
          refine one_ (i := 12) (N := none) #[true, true, true, true, true, true, true, true, true, true, true, true, true] rfl rfl (one_of HT_.out (by kernel_rfl)) (by decide) (fun K hK => ?_)
          have hs6 : w5.cell? ⟨gb156, 0, none⟩ = some (.string (⟨#[]⟩ : ByteArray)) := (blk_cell BK156.out 0).trans rfl
          have hfs6 := blk_frozen BK156.out 0
          have hs7 : w5.cell? ⟨gb156, 1, none⟩ = some (.slice none 0 0) := (blk_cell BK156.out 1).trans rfl
          have hfs7 := blk_frozen BK156.out 1
          have hs8 : w5.cell? ⟨gb156, 2, none⟩ = some (.int .u64 0) := (blk_cell BK156.out 2).trans rfl
          have hfs8 := blk_frozen BK156.out 2
          refine skip_ (w1 := ?_) (by rfl) rfl ?_ ?_
          rotate_left
          · go_simp
            rfl
          refine hK.out _ _ ⟨((cell_far (p := ⟨gb156, _, none⟩) (by first | exact Nat.ne_of_lt (Nat.lt_of_lt_of_le (by have := World.block_lt_of_cell? _ _ hw154_0; first | rwa [add_block] at this | exact this) GW156.out) | (rw [add_block]; exact Nat.ne_of_lt (Nat.lt_of_lt_of_le (by have := World.block_lt_of_cell? _ _ hw154_0; first | rwa [add_block] at this | exact this) GW156.out)) | (show (Addr.add _ _).block ≠ _; rw [add_block]; exact Nat.ne_of_lt (Nat.lt_of_lt_of_le (by have := World.block_lt_of_cell? _ _ hw154_0; first | rwa [add_block] at this | exact this) GW156.out)) | (dsimp only; exact Nat.ne_of_lt (Nat.lt_of_lt_of_le (by have := World.block_lt_of_cell? _ _ hw154_0; first | rwa [add_block] at this | exact this) GW156.out))) _).trans (((cell_far (p := ⟨gb156, _, none⟩) (by first | exact Nat.ne_of_lt (Nat.lt_of_lt_of_le (by have := World.block_lt_of_cell? _ _ hw154_0; first | rwa [add_block] at this | exact this) GW156.out) | (rw [add_block]; exact Nat.ne_of_lt (Nat.lt_of_lt_of_le (by have := World.block_lt_of_cell? _ _ hw154_0; first | rwa [add_block] at this | exact this) GW156.out)) | (show (Addr.add _ _).block ≠ _; rw [add_block]; exact Nat.ne_of_lt (Nat.lt_of_lt_of_le (by have := World.block_lt_of_cell? _ _ hw154_0; first | rwa [add_block] at this | exact this) GW156.out)) | (dsimp only; exact Nat.ne_of_lt (Nat.lt_of_lt_of_le (by have := World.block_lt_of_cell? _ _ hw154_0; first | rwa [add_block] at this | exact this) GW156.out))) _).trans (((cell_far (p := ⟨gb156, _, none⟩) (by first | exact Nat.ne_of_lt (Nat.lt_of_lt_of_le (by have := World.block_lt_of_cell? _ _ hw154_0; first | rwa [add_block] at this | exact this) GW156.out) | (rw [add_block]; exact Nat.ne_of_lt (Nat.lt_of_lt_of_le (by have := World.block_lt_of_cell? _ _ hw154_0; first | rwa [add_block] at this | exact this) GW156.out)) | (show (Addr.add _ _).block ≠ _; rw [add_block]; exact Nat.ne_of_lt (Nat.lt_of_lt_of_le (by have := World.block_lt_of_cell? _ _ hw154_0; first | rwa [add_block] at this | exact this) GW156.out)) | (dsimp only; exact Nat.ne_of_lt (Nat.lt_of_lt_of_le (by have := World.block_lt_of_cell? _ _ hw154_0; first | rwa [add_block] at this | exact this) GW156.out))) _).trans (hHeld.1)))))), ((cell_far (p := ⟨gb156, _, none⟩) (by first | exact Nat.ne_of_lt (Nat.lt_of_lt_of_le (by have := World.block_lt_of_cell? _ _ hw154_1; first | rwa [add_block] at this | exact this) GW156.out) | (rw [add_block]; exact Nat.ne_of_lt (Nat.lt_of_lt_of_le (by have := World.block_lt_of_cell? _ _ hw154_1; first | rwa [add_block] at this | exact this) GW156.out)) | (show (Addr.add _ _).block ≠ _; rw [add_block]; exact Nat.ne_of_lt (Nat.lt_of_lt_of_le (by have := World.block_lt_of_cell? _ _ hw154_1; first | rwa [add_block] at this | exact this) GW156.out)) | (dsimp only; exact Nat.ne_of_lt (Nat.lt_of_lt_of_le (by have := World.block_lt_of_cell? _ _ hw154_1; first | rwa [add_block] at this | exact this) GW156.out))) _).trans (((cell_far (p := ⟨gb156, _, none⟩) (by first | exact Nat.ne_of_lt (Nat.lt_of_lt_of_le (by have := World.block_lt_of_cell? _ _ hw154_1; first | rwa [add_block] at this | exact this) GW156.out) | (rw [add_block]; exact Nat.ne_of_lt (Nat.lt_of_lt_of_le (by have := World.block_lt_of_cell? _ _ hw154_1; first | rwa [add_block] at this | exact this) GW156.out)) | (show (Addr.add _ _).block ≠ _; rw [add_block]; exact Nat.ne_of_lt (Nat.lt_of_lt_of_le (by have := World.block_lt_of_cell? _ _ hw154_1; first | rwa [add_block] at this | exact this) GW156.out)) | (dsimp only; exact Nat.ne_of_lt (Nat.lt_of_lt_of_le (by have := World.block_lt_of_cell? _ _ hw154_1; first | rwa [add_block] at this | exact this) GW156.out))) _).trans (((cell_far (p := ⟨gb156, _, none⟩) (by first | exact Nat.ne_of_lt (Nat.lt_of_lt_of_le (by have := World.block_lt_of_cell? _ _ hw154_1; first | rwa [add_block] at this | exact this) GW156.out) | (rw [add_block]; exact Nat.ne_of_lt (Nat.lt_of_lt_of_le (by have := World.block_lt_of_cell? _ _ hw154_1; first | rwa [add_block] at this | exact this) GW156.out)) | (show (Addr.add _ _).block ≠ _; rw [add_block]; exact Nat.ne_of_lt (Nat.lt_of_lt_of_le (by have := World.block_lt_of_cell? _ _ hw154_1; first | rwa [add_block] at this | exact this) GW156.out)) | (dsimp only; exact Nat.ne_of_lt (Nat.lt_of_lt_of_le (by have := World.block_lt_of_cell? _ _ hw154_1; first | rwa [add_block] at this | exact this) GW156.out))) _).trans (hHeld.2.1)))))), ((cell_far (p := ⟨gb156, _, none⟩) (by first | exact Nat.ne_of_lt (Nat.lt_of_lt_of_le (by have := World.block_lt_of_cell? _ _ hw154_2; first | rwa [add_block] at this | exact this) GW156.out) | (rw [add_block]; exact Nat.ne_of_lt (Nat.lt_of_lt_of_le (by have := World.block_lt_of_cell? _ _ hw154_2; first | rwa [add_block] at this | exact this) GW156.out)) | (show (Addr.add _ _).block ≠ _; rw [add_block]; exact Nat.ne_of_lt (Nat.lt_of_lt_of_le (by have := World.block_lt_of_cell? _ _ hw154_2; first | rwa [add_block] at this | exact this) GW156.out)) | (dsimp only; exact Nat.ne_of_lt (Nat.lt_of_lt_of_le (by have := World.block_lt_of_cell? _ _ hw154_2; first | rwa [add_block] at this | exact this) GW156.out))) _).trans (((cell_far (p := ⟨gb156, _, none⟩) (by first | exact Nat.ne_of_lt (Nat.lt_of_lt_of_le (by have := World.block_lt_of_cell? _ _ hw154_2; first | rwa [add_block] at this | exact this) GW156.out) | (rw [add_block]; exact Nat.ne_of_lt (Nat.lt_of_lt_of_le (by have := World.block_lt_of_cell? _ _ hw154_2; first | rwa [add_block] at this | exact this) GW156.out)) | (show (Addr.add _ _).block ≠ _; rw [add_block]; exact Nat.ne_of_lt (Nat.lt_of_lt_of_le (by have := World.block_lt_of_cell? _ _ hw154_2; first | rwa [add_block] at this | exact this) GW156.out)) | (dsimp only; exact Nat.ne_of_lt (Nat.lt_of_lt_of_le (by have := World.block_lt_of_cell? _ _ hw154_2; first | rwa [add_block] at this | exact this) GW156.out))) _).trans (((cell_far (p := ⟨gb156, _, none⟩) (by first | exact Nat.ne_of_lt (Nat.lt_of_lt_of_le (by have := World.block_lt_of_cell? _ _ hw154_2; first | rwa [add_block] at this | exact this) GW156.out) | (rw [add_block]; exact Nat.ne_of_lt (Nat.lt_of_lt_of_le (by have := World.block_lt_of_cell? _ _ hw154_2; first | rwa [add_block] at this | exact this) GW156.out)) | (show (Addr.add _ _).block ≠ _; rw [add_block]; exact Nat.ne_of_lt (Nat.lt_of_lt_of_le (by have := World.block_lt_of_cell? _ _ hw154_2; first | rwa [add_block] at this | exact this) GW156.out)) | (dsimp only; exact Nat.ne_of_lt (Nat.lt_of_lt_of_le (by have := World.block_lt_of_cell? _ _ hw154_2; first | rwa [add_block] at this | exact this) GW156.out))) _).trans (hHeld.2.2.1)))))), ((cell_far (p := ⟨gb156, _, none⟩) (by first | exact Nat.ne_of_lt (Nat.lt_of_lt_of_le (by have := World.block_lt_of_cell? _ _ hw155_0; first | rwa [add_block] at this | exact this) GW156.out) | (rw [add_block]; exact Nat.ne_of_lt (Nat.lt_of_lt_of_le (by have := World.block_lt_of_cell? _ _ hw155_0; first | rwa [add_block] at this | exact this) GW156.out)) | (show (Addr.add _ _).block ≠ _; rw [add_block]; exact Nat.ne_of_lt (Nat.lt_of_lt_of_le (by have := World.block_lt_of_cell? _ _ hw155_0; first | rwa [add_block] at this | exact this) GW156.out)) | (dsimp only; exact Nat.ne_of_lt (Nat.lt_of_lt_of_le (by have := World.block_lt_of_cell? _ _ hw155_0; first | rwa [add_block] at this | exact this) GW156.out))) _).trans (((cell_far (p := ⟨gb156, _, none⟩) (by first | exact Nat.ne_of_lt (Nat.lt_of_lt_of_le (by have := World.block_lt_of_cell? _ _ hw155_0; first | rwa [add_block] at this | exact this) GW156.out) | (rw [add_block]; exact Nat.ne_of_lt (Nat.lt_of_lt_of_le (by have := World.block_lt_of_cell? _ _ hw155_0; first | rwa [add_block] at this | exact this) GW156.out)) | (show (Addr.add _ _).block ≠ _; rw [add_block]; exact Nat.ne_of_lt (Nat.lt_of_lt_of_le (by have := World.block_lt_of_cell? _ _ hw155_0; first | rwa [add_block] at this | exact this) GW156.out)) | (dsimp only; exact Nat.ne_of_lt (Nat.lt_of_lt_of_le (by have := World.block_lt_of_cell? _ _ hw155_0; first | rwa [add_block] at this | exact this) GW156.out))) _).trans (((cell_far (p := ⟨gb156, _, none⟩) (by first | exact Nat.ne_of_lt (Nat.lt_of_lt_of_le (by have := World.block_lt_of_cell? _ _ hw155_0; first | rwa [add_block] at this | exact this) GW156.out) | (rw [add_block]; exact Nat.ne_of_lt (Nat.lt_of_lt_of_le (by have := World.block_lt_of_cell? _ _ hw155_0; first | rwa [add_block] at this | exact this) GW156.out)) | (show (Addr.add _ _).block ≠ _; rw [add_block]; exact Nat.ne_of_lt (Nat.lt_of_lt_of_le (by have := World.block_lt_of_cell? _ _ hw155_0; first | rwa [add_block] at this | exact this) GW156.out)) | (dsimp only; exact Nat.ne_of_lt (Nat.lt_of_lt_of_le (by have := World.block_lt_of_cell? _ _ hw155_0; first | rwa [add_block] at this | exact this) GW156.out))) _).trans (hHeld.2.2.2.1)))))), ((cell_far (p := ⟨gb156, _, none⟩) (by first | exact Nat.ne_of_lt (Nat.lt_of_lt_of_le (by have := World.block_lt_of_cell? _ _ hw155_1; first | rwa [add_block] at this | exact this) GW156.out) | (rw [add_block]; exact Nat.ne_of_lt (Nat.lt_of_lt_of_le (by have := World.block_lt_of_cell? _ _ hw155_1; first | rwa [add_block] at this | exact this) GW156.out)) | (show (Addr.add _ _).block ≠ _; rw [add_block]; exact Nat.ne_of_lt (Nat.lt_of_lt_of_le (by have := World.block_lt_of_cell? _ _ hw155_1; first | rwa [add_block] at this | exact this) GW156.out)) | (dsimp only; exact Nat.ne_of_lt (Nat.lt_of_lt_of_le (by have := World.block_lt_of_cell? _ _ hw155_1; first | rwa [add_block] at this | exact this) GW156.out))) _).trans (((cell_far (p := ⟨gb156, _, none⟩) (by first | exact Nat.ne_of_lt (Nat.lt_of_lt_of_le (by have := World.block_lt_of_cell? _ _ hw155_1; first | rwa [add_block] at this | exact this) GW156.out) | (rw [add_block]; exact Nat.ne_of_lt (Nat.lt_of_lt_of_le (by have := World.block_lt_of_cell? _ _ hw155_1; first | rwa [add_block] at this | exact this) GW156.out)) | (show (Addr.add _ _).block ≠ _; rw [add_block]; exact Nat.ne_of_lt (Nat.lt_of_lt_of_le (by have := World.block_lt_of_cell? _ _ hw155_1; first | rwa [add_block] at this | exact this) GW156.out)) | (dsimp only; exact Nat.ne_of_lt (Nat.lt_of_lt_of_le (by have := World.block_lt_of_cell? _ _ hw155_1; first | rwa [add_block] at this | exact this) GW156.out))) _).trans (((cell_far (p := ⟨gb156, _, none⟩) (by first | exact Nat.ne_of_lt (Nat.lt_of_lt_of_le (by have := World.block_lt_of_cell? _ _ hw155_1; first | rwa [add_block] at this | exact this) GW156.out) | (rw [add_block]; exact Nat.ne_of_lt (Nat.lt_of_lt_of_le (by have := World.block_lt_of_cell? _ _ hw155_1; first | rwa [add_block] at this | exact this) GW156.out)) | (show (Addr.add _ _).block ≠ _; rw [add_block]; exact Nat.ne_of_lt (Nat.lt_of_lt_of_le (by have := World.block_lt_of_cell? _ _ hw155_1; first | rwa [add_block] at this | exact this) GW156.out)) | (dsimp only; exact Nat.ne_of_lt (Nat.lt_of_lt_of_le (by have := World.block_lt_of_cell? _ _ hw155_1; first | rwa [add_block] at this | exact this) GW156.out))) _).trans (hHeld.2.2.2.2.1)))))), ((cell_far (p := ⟨gb156, _, none⟩) (by first | exact Nat.ne_of_lt (Nat.lt_of_lt_of_le (by have := World.block_lt_of_cell? _ _ hw155_2; first | rwa [add_block] at this | exact this) GW156.out) | (rw [add_block]; exact Nat.ne_of_lt (Nat.lt_of_lt_of_le (by have := World.block_lt_of_cell? _ _ hw155_2; first | rwa [add_block] at this | exact this) GW156.out)) | (show (Addr.add _ _).block ≠ _; rw [add_block]; exact Nat.ne_of_lt (Nat.lt_of_lt_of_le (by have := World.block_lt_of_cell? _ _ hw155_2; first | rwa [add_block] at this | exact this) GW156.out)) | (dsimp only; exact Nat.ne_of_lt (Nat.lt_of_lt_of_le (by have := World.block_lt_of_cell? _ _ hw155_2; first | rwa [add_block] at this | exact this) GW156.out))) _).trans (((cell_far (p := ⟨gb156, _, none⟩) (by first | exact Nat.ne_of_lt (Nat.lt_of_lt_of_le (by have := World.block_lt_of_cell? _ _ hw155_2; first | rwa [add_block] at this | exact this) GW156.out) | (rw [add_block]; exact Nat.ne_of_lt (Nat.lt_of_lt_of_le (by have := World.block_lt_of_cell? _ _ hw155_2; first | rwa [add_block] at this | exact this) GW156.out)) | (show (Addr.add _ _).block ≠ _; rw [add_block]; exact Nat.ne_of_lt (Nat.lt_of_lt_of_le (by have := World.block_lt_of_cell? _ _ hw155_2; first | rwa [add_block] at this | exact this) GW156.out)) | (dsimp only; exact Nat.ne_of_lt (Nat.lt_of_lt_of_le (by have := World.block_lt_of_cell? _ _ hw155_2; first | rwa [add_block] at this | exact this) GW156.out))) _).trans (((cell_far (p := ⟨gb156, _, none⟩) (by first | exact Nat.ne_of_lt (Nat.lt_of_lt_of_le (by have := World.block_lt_of_cell? _ _ hw155_2; first | rwa [add_block] at this | exact this) GW156.out) | (rw [add_block]; exact Nat.ne_of_lt (Nat.lt_of_lt_of_le (by have := World.block_lt_of_cell? _ _ hw155_2; first | rwa [add_block] at this | exact this) GW156.out)) | (show (Addr.add _ _).block ≠ _; rw [add_block]; exact Nat.ne_of_lt (Nat.lt_of_lt_of_le (by have := World.block_lt_of_cell? _ _ hw155_2; first | rwa [add_block] at this | exact this) GW156.out)) | (dsimp only; exact Nat.ne_of_lt (Nat.lt_of_lt_of_le (by have := World.block_lt_of_cell? _ _ hw155_2; first | rwa [add_block] at this | exact this) GW156.out))) _).trans (hHeld.2.2.2.2.2))))))⟩ (fun hHeld => ?_)
          clear hK K
          refine done_ (done_of HT_.out (by kernel_rfl)) ?_
          try go_wp2
          go_loopg [6] k1 (fun kq v6 w' => ∃ (x6_2 : Int) (x157001_2 : List (S71)) (u157001 : Value), v6 = .int .i64 x6_2 ∧ Aside0 (tallyroomlaw36_Of.l1 kq l0 x3_1 x4_1 x6_2 ((rd_T27 l0 x4_1).f0) x157001_2 ((rd_T27 l0 x4_1).f2) = some r) ∧ Aside0 (kq ≤ k1) ∧ Aside0 (Kd.S k43 43 w' w.heap.size (fun k_ => some k_ ≠ (u157001 : Value).ownBlock ∧ k_ ≠ gb156) u3 x3_1) ∧ Aside0 (Kd.R k71 71 w' w.heap.size (fun _ => True) u157001 x157001_2) ∧ Aside0 (w'.heap[gb156]? = some (.cells #[.string ((rd_T27 l0 x4_1).f0), u157001, .int .u64 ((rd_T27 l0 x4_1).f2)] 43 (0, 0))) ∧ Aside0 (Below w.heap.size w w'))
          case atStart => exact ⟨(0), (([] : List (S71))), (.slice none 0 0), (by first | rfl | (simp; done) | (simp [*]; done)), H', ⟨Nat.le_refl _⟩, ⟨by (with_reducible repeat (first | apply Kd.S_alloc | apply Kd.S_drewN | apply Kd.S_drew)); exact Kd.S_mono (Kd.S_far (p := ⟨gb156, 2, none⟩) (Kd.S_far (p := ⟨gb156, 1, none⟩) (Kd.S_far (p := ⟨gb156, 0, none⟩) (Kd.S_mono HO_3.out (fun k_ hk => (⟨hk, hk.2⟩ : _ ∧ k_ ≠ gb156))) (fun _ hk => hk.2) (.string ((rd_T27 l0 x4_1).f0))) (fun _ hk => hk.2) (.slice none 0 0)) (fun _ hk => hk.2) (.int .u64 ((rd_T27 l0 x4_1).f2))) (fun _ hk => ⟨(by simp [Value.ownBlock]), hk.1.2⟩)⟩, ⟨by first | exact Kd.R_nil _ _ _ _ _ | exact Kd.N_nil _ _ _ _ _ | exact Kd.V_nil _ _ _ _ _ | exact Kd.Q_nil _ _ _ _ _ | exact Kd.S_nil _ _ _ _ _⟩, ⟨by (with_reducible repeat (first | refine blk_drewN ?_ _ | refine blk_drew ?_ | refine blk_alloc ?_ _)); refine blk_put (cs := #[.string ((rd_T27 l0 x4_1).f0), .slice none 0 0, .int .u64 0]) ?_ 2 _ rfl; (with_reducible repeat (first | refine blk_drewN ?_ _ | refine blk_drew ?_ | refine blk_alloc ?_ _)); refine blk_put (cs := #[.string ((rd_T27 l0 x4_1).f0), .slice none 0 0, .int .u64 0]) ?_ 1 _ rfl; (with_reducible repeat (first | refine blk_drewN ?_ _ | refine blk_drew ?_ | refine blk_alloc ?_ _)); refine blk_put (cs := #[.string (⟨#[]⟩ : ByteArray), .slice none 0 0, .int .u64 0]) ?_ 0 _ rfl; (with_reducible repeat (first | refine blk_drewN ?_ _ | refine blk_drew ?_ | refine blk_alloc ?_ _)); exact BK156.out⟩, ⟨by repeat (first | (with_reducible first | exact HB.out | apply below_alloc | apply pw_below_drewN | apply below_drew1 | refine below_set ?_ GE156.out) | exact HB.out)⟩⟩
          case round =>
            clear H'
            try clear c1
            try clear p1
            try clear q1
            try clear hx1
            try clear c2
            try clear c2b0
            try clear p2
            try clear c3
            try clear c3b0
            try clear hx154_0
            try clear hx154_1
            try clear hx154_2
            try clear hx155_0
            try clear hx155_1
            try clear hx155_2
            try clear p154
            try clear p155
            try clear q154
            try clear q155
            obtain ⟨x6_2, x157001_2, u157001, rfl, HA, HK2, HO_3, HO_157001, BK156, HB⟩ := hrel
            cases gk with
            | zero => exact absurd HA.out (by simp [tallyroomlaw36_Of.l1])
            | succ k2 =>
              have H := HA.out
              clear HA
              simp only [tallyroomlaw36_Of.l1] at H
              by_cases c9 : 0 ≤ x4_1
              · rw [if_pos c9] at H
                have c9b0 : decide (0 ≤ x4_1) = true := decide_eq_true c9
                clear c9
                by_cases c10 : x4_1 < (l0.length : Int)
                · rw [if_pos c10] at H
                  have c10b0 : decide (x4_1 < (l0.length : Int)) = true := decide_eq_true c10
                  clear c10
                  by_cases c11 : x6_2 < (((rd_T27 l0 x4_1).f1).length : Int)
                  · rw [if_pos c11] at H
                    have c11b0 : decide (x6_2 < (((rd_T27 l0 x4_1).f1).length : Int)) = true := decide_eq_true c11
                    clear c11
                    by_cases c12 : 0 ≤ x6_2
                    · rw [if_pos c12] at H
                      have c12b0 : decide (0 ≤ x6_2) = true := decide_eq_true c12
                      clear c12
                      by_cases c13 : x157001_2.length < 4398046511104
                      · rw [if_pos c13] at H
                        have LMc13 := Aside0.mk c13
                        clear c13
                        obtain ⟨y160, hy160⟩ : ∃ y_ : List (S71), y_ = (x157001_2 ++ [(⟨(rd_T29 ((rd_T27 l0 x4_1).f1) x6_2).f0, (rd_T29 ((rd_T27 l0 x4_1).f1) x6_2).f1⟩ : S71)]) := ⟨_, rfl⟩
                        replace H : (tallyroomlaw36_Of.l1 k2 l0 x3_1 x4_1 (wrap64 (x6_2 + 1)) ((rd_T27 l0 x4_1).f0) y160 ((rd_T27 l0 x4_1).f2)) = some r := by first | (rw [hy160]; with_reducible exact H) | (have H2_ := (Option.bind_some _ _).symm.trans H; rw [hy160]; with_reducible exact H2_) | (have H2_ := (Option.bind_some _ _).symm.trans H; with_reducible exact H2_) | with_reducible exact H | (rw [hy160]; exact H) | exact H
                        have Ny160 := Aside0.mk hy160
                        clear hy160
                        have H' := Aside0.mk H
                        clear H
                        have p157 : 0 ≤ (x4_1 : Int) := of_decide_eq_true (by first | (with_reducible assumption) | assumption)
                        have q157 : x4_1 < (l0.length : Int) := of_decide_eq_true (by first | (with_reducible assumption) | assumption)
                        obtain ⟨ad157, A157_1, c157_1, e157, hx157_0, hx157_1, hx157_2, hl157_1, hi157_1⟩ := at_T27 HR0.out x4_1 p157 q157
                        obtain rfl : ad154 = ad157 := (by injection e157)
                        replace hx157_0 := (HB.out.cell (World.block_lt_of_cell? w _ hx157_0)).trans hx157_0
                        replace hx157_1 := (HB.out.cell (World.block_lt_of_cell? w _ hx157_1)).trans hx157_1
                        replace hx157_2 := (HB.out.cell (World.block_lt_of_cell? w _ hx157_2)).trans hx157_2
                        have HR157_1 := Aside0.mk hi157_1
                        have HC157_1 := Aside0.mk hl157_1
                        clear hi157_1 hl157_1
                        replace p157 := eq_true p157
                        replace q157 := eq_true q157
                        try go_wp2
                        have n0_ := Aside0.mk (Kd.S_drew HO_3.out)
                        have n1_ := Aside0.mk (Kd.R_drew HO_157001.out)
                        have n2_ := Aside0.mk (blk_drew BK156.out)
                        have n3_ := Aside0.mk (below_drew1 HB.out)
                        clear HO_3
                        clear HO_157001
                        clear BK156
                        clear HB
                        have HO_3 := n0_
                        have HO_157001 := n1_
                        have BK156 := n2_
                        have HB := n3_
                        clear n0_ n1_ n2_ n3_
                        have p158 : 0 ≤ (x4_1 : Int) := of_decide_eq_true (by first | (with_reducible assumption) | assumption)
                        have q158 : x4_1 < (l0.length : Int) := of_decide_eq_true (by first | (with_reducible assumption) | assumption)
                        obtain ⟨ad158, A158_1, c158_1, e158, hx158_0, hx158_1, hx158_2, hl158_1, hi158_1⟩ := at_T27 HR0.out x4_1 p158 q158
                        have hw158_2 := hx158_2
                        have hw158_1 := hx158_1
                        have hw158_0 := hx158_0
                        obtain rfl : ad154 = ad158 := (by injection e158)
                        replace hx158_0 := (HB.out.cell (World.block_lt_of_cell? w _ hx158_0)).trans hx158_0
                        replace hx158_1 := (HB.out.cell (World.block_lt_of_cell? w _ hx158_1)).trans hx158_1
                        replace hx158_2 := (HB.out.cell (World.block_lt_of_cell? w _ hx158_2)).trans hx158_2
                        have HR158_1 := Aside0.mk hi158_1
                        have HC158_1 := Aside0.mk hl158_1
                        clear hi158_1 hl158_1
                        replace p158 := eq_true p158
                        replace q158 := eq_true q158
                        have p159 : 0 ≤ (x6_2 : Int) := of_decide_eq_true (by first | (with_reducible assumption) | assumption)
                        have q159 : x6_2 < (((rd_T27 l0 x4_1).f1).length : Int) := of_decide_eq_true (by first | (with_reducible assumption) | assumption)
                        obtain ⟨ad159, e159, hx159_0, hx159_1⟩ := at_T29 HR158_1.out x6_2 p159 q159
                        have hw159_1 := hx159_1
                        have hw159_0 := hx159_0
                        cases e159
                        replace hx159_0 := (HB.out.cell (World.block_lt_of_cell? w _ hx159_0)).trans hx159_0
                        replace hx159_1 := (HB.out.cell (World.block_lt_of_cell? w _ hx159_1)).trans hx159_1
                        replace p159 := eq_true p159
                        replace q159 := eq_true q159
                        refine start_ (n := 14) (S := fun w' => w'.cell? ⟨gb156, 0, none⟩ = some (.string ((rd_T27 l0 x4_1).f0)) ∧ w'.cell? ⟨gb156, 1, none⟩ = some (u157001) ∧ w'.cell? ⟨gb156, 2, none⟩ = some (.int .u64 ((rd_T27 l0 x4_1).f2)) ∧ w'.cell? (ad154.add ((x4_1).toNat * 3)) = some (.string ((rd_T27 l0 x4_1).f0)) ∧ w'.cell? ⟨(ad154.add ((x4_1).toNat * 3)).block, (ad154.add ((x4_1).toNat * 3)).off + 1, none⟩ = some (.slice (some ad159) ((rd_T27 l0 x4_1).f1).length c158_1) ∧ w'.cell? ⟨(ad154.add ((x4_1).toNat * 3)).block, (ad154.add ((x4_1).toNat * 3)).off + 2, none⟩ = some (.int .u64 ((rd_T27 l0 x4_1).f2)) ∧ w'.cell? (ad159.add ((x6_2).toNat * 2)) = some (.string ((rd_T29 ((rd_T27 l0 x4_1).f1) x6_2).f0)) ∧ w'.cell? ⟨(ad159.add ((x6_2).toNat * 2)).block, (ad159.add ((x6_2).toNat * 2)).off + 1, none⟩ = some (.string ((rd_T29 ((rd_T27 l0 x4_1).f1) x6_2).f1))) (ds := [13]) #[false, false, false, false, false, false, false, false, false, false, false, false, false, false] (by kernel_rfl) rfl rfl ⟨(blk_cell BK156.out 0).trans rfl, (blk_cell BK156.out 1).trans rfl, (blk_cell BK156.out 2).trans rfl, ((HB.out.cell (World.block_lt_of_cell? w _ hw158_0)).trans hw158_0), ((HB.out.cell (World.block_lt_of_cell? w _ hw158_1)).trans hw158_1), ((HB.out.cell (World.block_lt_of_cell? w _ hw158_2)).trans hw158_2), ((HB.out.cell (World.block_lt_of_cell? w _ hw159_0)).trans hw159_0), ((HB.out.cell (World.block_lt_of_cell? w _ hw159_1)).trans hw159_1)⟩ (fun hHeld => ?_); refine with_tabW tallyroomlaw36_Of.tab9 tallyroomlaw36_Of.bits9 (fun HT_ HW_ => ?_)
                        generalize wr.drew = w14 at HO_3 HO_157001 BK156 HB HR158_1 hx158_0 hx158_1 hx158_2 hx159_0 hx159_1 hHeld ⊢
                        refine pure_ (i := 0) (N := some 34) (v := ?_) (a' := ?_) #[true, false, false, false, false, false, false, false, false, false, false, false, false, false] rfl rfl (any_of HT_.out (by kernel_rfl)) (fun _ _ _ h => h) (Or.inl ⟨by rfl, ?_⟩) ?_ ?_
                        rotate_left
                        · intro w'
                          go_simp
                          with_reducible rfl
                        rotate_left
                        · simp only [Act.put, List.setIfInBounds_toArray, List.set_cons_zero, List.set_cons_succ, i64_w, i32_w]
                          rfl
                        refine pure_ (i := 2) (N := some 36) (v := ?_) (a' := ?_) #[true, false, true, false, false, false, false, false, false, false, false, false, false, false] rfl rfl (any_of HT_.out (by kernel_rfl)) (fun _ _ _ h => h) (Or.inl ⟨by rfl, ?_⟩) ?_ ?_
                        rotate_left
                        · intro w'
                          go_simp
                          with_reducible rfl
                        rotate_left
                        · simp only [Act.put, List.setIfInBounds_toArray, List.set_cons_zero, List.set_cons_succ, i64_w, i32_w]
                          rfl
                        refine pure_ (i := 3) (N := some 37) (v := ?_) (a' := ?_) #[true, false, true, true, false, false, false, false, false, false, false, false, false, false] rfl rfl (any_of HT_.out (by kernel_rfl)) (fun _ _ _ h => h) (Or.inl ⟨by rfl, ?_⟩) ?_ ?_
                        rotate_left
                        · intro w'
                          go_simp
                          with_reducible rfl
                        rotate_left
                        · simp only [Act.put, List.setIfInBounds_toArray, List.set_cons_zero, List.set_cons_succ, i64_w, i32_w]
                          rfl
                        refine pure_ (i := 4) (N := some 38) (v := ?_) (a' := ?_) #[true, false, true, true, true, false, false, false, false, false, false, false, false, false] rfl rfl (any_of HT_.out (by kernel_rfl)) (fun _ _ _ h => h) (Or.inl ⟨by rfl, ?_⟩) ?_ ?_
                        rotate_left
                        · intro w'
                          go_simp
                          with_reducible rfl
                        rotate_left
                        · simp only [Act.put, List.setIfInBounds_toArray, List.set_cons_zero, List.set_cons_succ, i64_w, i32_w]
                          rfl
                        refine pure_ (i := 5) (N := some 39) (v := ?_) (a' := ?_) #[true, false, true, true, true, true, false, false, false, false, false, false, false, false] rfl rfl (any_of HT_.out (by kernel_rfl)) (fun _ _ _ h => h) (Or.inl ⟨by rfl, ?_⟩) ?_ ?_
                        rotate_left
                        · intro w'
                          go_simp
                          with_reducible rfl
                        rotate_left
                        · simp only [Act.put, List.setIfInBounds_toArray, List.set_cons_zero, List.set_cons_succ, i64_w, i32_w]
                          rfl
                        refine pure_ (i := 7) (N := some 41) (v := ?_) (a' := ?_) #[true, false, true, true, true, true, false, true, false, false, false, false, false, false] rfl rfl (any_of HT_.out (by kernel_rfl)) (fun _ _ _ h => h) (Or.inl ⟨by rfl, ?_⟩) ?_ ?_
                        rotate_left
                        · intro w'
                          go_simp
                          with_reducible rfl
                        rotate_left
                        · simp only [Act.put, List.setIfInBounds_toArray, List.set_cons_zero, List.set_cons_succ, i64_w, i32_w]
                          rfl
                        refine take_ (i := 1) (N := some 35) (v := ?_) (a' := ?_) #[true, true, true, true, true, true, false, true, false, false, false, false, false, false] rfl rfl (take_ofW HT_.out HW_.out (by kernel_rfl)) (fun _ _ _ h => h) (Or.inl ⟨by rfl, ?_⟩) hHeld ?_ ?_
                        rotate_left
                        · rintro w' ⟨s0, s1, s2, s3, s4, s5, s6, s7⟩
                          go_simp
                          with_reducible rfl
                        rotate_left
                        · simp only [Act.put, List.setIfInBounds_toArray, List.set_cons_zero, List.set_cons_succ, i64_w, i32_w]
                          rfl
                        refine take_ (i := 6) (N := some 40) (v := ?_) (a' := ?_) #[true, true, true, true, true, true, true, true, false, false, false, false, false, false] rfl rfl (take_ofW HT_.out HW_.out (by kernel_rfl)) (fun _ _ _ h => h) (Or.inl ⟨by rfl, ?_⟩) hHeld ?_ ?_
                        rotate_left
                        · rintro w' ⟨s0, s1, s2, s3, s4, s5, s6, s7⟩
                          go_simp
                          with_reducible rfl
                        rotate_left
                        · simp only [Act.put, List.setIfInBounds_toArray, List.set_cons_zero, List.set_cons_succ, i64_w, i32_w]
                          rfl
                        refine pure_ (i := 8) (N := some 42) (v := ?_) (a' := ?_) #[true, true, true, true, true, true, true, true, true, false, false, false, false, false] rfl rfl (any_of HT_.out (by kernel_rfl)) (fun _ _ _ h => h) (Or.inl ⟨by rfl, ?_⟩) ?_ ?_
                        rotate_left
                        · intro w'
                          go_simp
                          with_reducible rfl
                        rotate_left
                        · simp only [Act.put, List.setIfInBounds_toArray, List.set_cons_zero, List.set_cons_succ, i64_w, i32_w]
                          rfl
                        refine take_ (i := 9) (N := some 43) (v := ?_) (a' := ?_) #[true, true, true, true, true, true, true, true, true, true, false, false, false, false] rfl rfl (take_ofW HT_.out HW_.out (by kernel_rfl)) (fun _ _ _ h => h) (Or.inl ⟨by rfl, ?_⟩) hHeld ?_ ?_
                        rotate_left
                        · rintro w' ⟨s0, s1, s2, s3, s4, s5, s6, s7⟩
                          go_simp
                          with_reducible rfl
                        rotate_left
                        · simp only [Act.put, List.setIfInBounds_toArray, List.set_cons_zero, List.set_cons_succ, i64_w, i32_w]
                          rfl
                        refine one_ (i := 10) (N := some 44) #[true, true, true, true, true, true, true, true, true, true, true, false, false, false] rfl rfl (one_of HT_.out (by kernel_rfl)) (by decide) (fun K hK => ?_)
                        refine value_ (w1 := ?_) (v := ?_) (by rfl) rfl ?_ ?_
                        rotate_left 2
                        · go_simp
                          constructor
                          · rfl
                          · rfl
                        refine hK.out _ _ ⟨(blk_cell (blk_alloc BK156.out _) 0).trans rfl, (blk_cell (blk_alloc BK156.out _) 1).trans rfl, (blk_cell (blk_alloc BK156.out _) 2).trans rfl, (World.cell?_alloc_lt _ _ _ (World.block_lt_of_cell? _ _ (((HB.out.cell (World.block_lt_of_cell? w _ hw158_0)).trans hw158_0)))).trans (((HB.out.cell (World.block_lt_of_cell? w _ hw158_0)).trans hw158_0)), (World.cell?_alloc_lt _ _ _ (World.block_lt_of_cell? _ _ (((HB.out.cell (World.block_lt_of_cell? w _ hw158_1)).trans hw158_1)))).trans (((HB.out.cell (World.block_lt_of_cell? w _ hw158_1)).trans hw158_1)), (World.cell?_alloc_lt _ _ _ (World.block_lt_of_cell? _ _ (((HB.out.cell (World.block_lt_of_cell? w _ hw158_2)).trans hw158_2)))).trans (((HB.out.cell (World.block_lt_of_cell? w _ hw158_2)).trans hw158_2)), (World.cell?_alloc_lt _ _ _ (World.block_lt_of_cell? _ _ (((HB.out.cell (World.block_lt_of_cell? w _ hw159_0)).trans hw159_0)))).trans (((HB.out.cell (World.block_lt_of_cell? w _ hw159_0)).trans hw159_0)), (World.cell?_alloc_lt _ _ _ (World.block_lt_of_cell? _ _ (((HB.out.cell (World.block_lt_of_cell? w _ hw159_1)).trans hw159_1)))).trans (((HB.out.cell (World.block_lt_of_cell? w _ hw159_1)).trans hw159_1))⟩ (fun hHeld => ?_)
                        clear hK K
                        refine norm_ (a' := ?_) ?_ ?_
                        rotate_left
                        · show Act.put _ (some 44) _ = _
                          simp only [Act.put, List.setIfInBounds_toArray, List.set_cons_zero, List.set_cons_succ, i64_w, i32_w]
                          rfl
                        refine one_ (i := 11) (N := some 45) #[true, true, true, true, true, true, true, true, true, true, true, true, false, false] rfl rfl (one_of HT_.out (by kernel_rfl)) (by decide) (fun K hK => ?_)
                        refine Kd.R_append_step k71 (w0 := w) w.heap.size (by rfl) (.tmp 35) (.tmp 44) 41 71 (.agg #[(.string ⟨#[]⟩), (.string ⟨#[]⟩)]) 32 rfl Tryd.underlying41 info71 rfl (by decide) (by omega) u157001 x157001_2 (⟨(rd_T29 ((rd_T27 l0 x4_1).f1) x6_2).f0, (rd_T29 ((rd_T27 l0 x4_1).f1) x6_2).f1⟩ : S71) [.string ((rd_T29 ((rd_T27 l0 x4_1).f1) x6_2).f0), .string ((rd_T29 ((rd_T27 l0 x4_1).f1) x6_2).f1)] (fun _ => True) (fun _ => False) rfl rfl ?aP (fun _ hk => hk.elim) ?aF ?aO ?aB ?aS ?aL ?_
                        (case aP => exact k71_mkM _ _ _ (⟨(rd_T29 ((rd_T27 l0 x4_1).f1) x6_2).f0, (rd_T29 ((rd_T27 l0 x4_1).f1) x6_2).f1⟩ : S71))
                        (case aB => exact (by repeat (first | (with_reducible first | exact HB.out | apply below_alloc | apply pw_below_drewN | apply below_drew1 | refine below_set ?_ GE156.out) | exact HB.out)))
                        (case aF => exact (fun _ _ => trivial))
                        (case aO => exact (by (with_reducible repeat (first | apply Kd.R_alloc | apply Kd.R_drewN | apply Kd.R_drew)); exact HO_157001.out))
                        (case aS => exact (below_size (by repeat (first | (with_reducible first | exact HB.out | apply below_alloc | apply pw_below_drewN | apply below_drew1 | refine below_set ?_ GE156.out) | exact HB.out))))
                        (case aL => have := LMc13.out; omega)
                        intro v161 w15 ho hb hg hat
                        rw [← Ny160.out] at ho
                        have n0_ := Aside0.mk (Kd.S_after (ok := (fun k_ => k_ ≠ gb156)) (by (with_reducible repeat (first | apply Kd.S_alloc | apply Kd.S_drewN | apply Kd.S_drew)); exact Kd.S_mono HO_3.out (fun _ hk => ⟨hk.2, hk.1⟩)) hg hat)
                        have n1_ := Aside0.mk (blk_grown (g := gb156) (o := .cells #[.string ((rd_T27 l0 x4_1).f0), u157001, .int .u64 ((rd_T27 l0 x4_1).f2)] 43 (0, 0)) (by (with_reducible repeat (first | refine blk_drewN ?_ _ | refine blk_drew ?_ | refine blk_alloc ?_ _)); exact BK156.out) hg (Kd.R_ne HO_157001.out BK156.out (by decide)))
                        have n2_ := Aside0.mk (hb)
                        have n3_ := Aside0.mk (ho)
                        clear HO_3
                        clear BK156
                        clear HB
                        clear HO_157001
                        have HO_3 := n0_
                        have BK156 := n1_
                        have HB := n2_
                        have HO162 := n3_
                        clear n0_ n1_ n2_ n3_
                        clear ho hb hg hat
                        obtain ⟨Ao16, co16, eo16⟩ := Kd.R_slice HO162.out
                        (first | subst eo16 | (injection eo16 with f1_ f2_ f3_; have f4_ := f1_.symm; have f5_ := f3_.symm; clear f1_ f2_ f3_; subst f4_; subst f5_))
                        refine hK.out _ _ ⟨(blk_cell BK156.out 0).trans rfl, (blk_cell BK156.out 1).trans rfl, (blk_cell BK156.out 2).trans rfl, ((HB.out.cell (World.block_lt_of_cell? w _ hw158_0)).trans hw158_0), ((HB.out.cell (World.block_lt_of_cell? w _ hw158_1)).trans hw158_1), ((HB.out.cell (World.block_lt_of_cell? w _ hw158_2)).trans hw158_2), ((HB.out.cell (World.block_lt_of_cell? w _ hw159_0)).trans hw159_0), ((HB.out.cell (World.block_lt_of_cell? w _ hw159_1)).trans hw159_1)⟩ (fun hHeld => ?_)
                        clear hK K
                        refine norm_ (a' := ?_) ?_ ?_
                        rotate_left
                        · show Act.put _ (some 45) _ = _
                          simp only [Act.put, List.setIfInBounds_toArray, List.set_cons_zero, List.set_cons_succ, i64_w, i32_w]
                          rfl
                        refine pure_ (i := 12) (N := some 46) (v := ?_) (a' := ?_) #[true, true, true, true, true, true, true, true, true, true, true, true, true, false] rfl rfl (any_of HT_.out (by kernel_rfl)) (fun _ _ _ h => h) (Or.inl ⟨by rfl, ?_⟩) ?_ ?_
                        rotate_left
                        · intro w'
                          go_simp
                          with_reducible rfl
                        rotate_left
                        · simp only [Act.put, List.setIfInBounds_toArray, List.set_cons_zero, List.set_cons_succ, i64_w, i32_w]
                          rfl
                        refine last_ (i := 13) (N := none) #[true, true, true, true, true, true, true, true, true, true, true, true, true, true] rfl rfl (one_of HT_.out (by kernel_rfl)) (by decide) (fun K hK => ?_)
                        have hs17 : w15.cell? ⟨gb156, 1, none⟩ = some (u157001) := (blk_cell BK156.out 1).trans rfl
                        have hfs17 := blk_frozen BK156.out 1
                        refine skip_ (w1 := ?_) (by rfl) rfl ?_ ?_
                        rotate_left
                        · go_simp
                          rfl
                        refine hK.out _ _ ?_
                        clear hK K
                        refine done_ (done_of HT_.out (by kernel_rfl)) ?_
                        try go_wp2
                        go_roundg k2
                        case measure => have := HK1.out; have := HK2.out; omega
                        case rel => exact ⟨(wrap64 (x6_2 + 1)), (y160), (.slice Ao16 y160.length co16), (by first | rfl | (simp; done) | (simp [*]; done)), H', ⟨by have := HK1.out; have := HK2.out; omega⟩, ⟨by (with_reducible repeat (first | apply Kd.S_alloc | apply Kd.S_drewN | apply Kd.S_drew)); exact Kd.S_mono (Kd.S_far (p := ⟨gb156, 1, none⟩) (Kd.S_mono HO_3.out (fun k_ hk => (⟨hk, hk.1⟩ : _ ∧ k_ ≠ gb156))) (fun _ hk => hk.2) (.slice Ao16 y160.length co16)) (fun _ hk => ⟨hk.1.2, hk.1.1⟩)⟩, ⟨by (with_reducible repeat (first | apply Kd.R_alloc | apply Kd.R_drewN | apply Kd.R_drew)); exact Kd.R_mono (Kd.R_far (p := ⟨gb156, 1, none⟩) (Kd.R_types HO162.out BK156.out (by decide)) (fun _ hk => hk.2) (.slice Ao16 y160.length co16)) (fun _ hk => trivial)⟩, ⟨by (with_reducible repeat (first | refine blk_drewN ?_ _ | refine blk_drew ?_ | refine blk_alloc ?_ _)); refine blk_put (cs := #[.string ((rd_T27 l0 x4_1).f0), u157001, .int .u64 ((rd_T27 l0 x4_1).f2)]) ?_ 1 _ rfl; (with_reducible repeat (first | refine blk_drewN ?_ _ | refine blk_drew ?_ | refine blk_alloc ?_ _)); exact BK156.out⟩, ⟨by repeat (first | (with_reducible first | exact HB.out | apply below_alloc | apply pw_below_drewN | apply below_drew1 | refine below_set ?_ GE156.out) | exact HB.out)⟩⟩
                      · rw [if_neg c13] at H
                        exact absurd H (by simp)
                    · rw [if_neg c12] at H
                      exact absurd H (by simp)
                  · rw [if_neg c11] at H
                    have c11b0 : decide (x6_2 < (((rd_T27 l0 x4_1).f1).length : Int)) = false := decide_eq_false c11
                    clear c11
                    by_cases c18 : x3_1.length < 2932031007402
                    · rw [if_pos c18] at H
                      have LMc18 := Aside0.mk c18
                      clear c18
                      obtain ⟨y163, hy163⟩ : ∃ y_ : List (S43), y_ = (x3_1 ++ [(⟨((rd_T27 l0 x4_1).f0), x157001_2, ((rd_T27 l0 x4_1).f2)⟩ : S43)]) := ⟨_, rfl⟩
                      replace H : (tallyroomlaw36_Of.l0 k2 l0 y163 (wrap64 (x4_1 + 1))) = some r := by first | (rw [hy163]; with_reducible exact H) | (have H2_ := (Option.bind_some _ _).symm.trans H; rw [hy163]; with_reducible exact H2_) | (have H2_ := (Option.bind_some _ _).symm.trans H; with_reducible exact H2_) | with_reducible exact H | (rw [hy163]; exact H) | exact H
                      have Ny163 := Aside0.mk hy163
                      clear hy163
                      have H' := Aside0.mk H
                      clear H
                      have p157 : 0 ≤ (x4_1 : Int) := of_decide_eq_true (by first | (with_reducible assumption) | assumption)
                      have q157 : x4_1 < (l0.length : Int) := of_decide_eq_true (by first | (with_reducible assumption) | assumption)
                      obtain ⟨ad157, A157_1, c157_1, e157, hx157_0, hx157_1, hx157_2, hl157_1, hi157_1⟩ := at_T27 HR0.out x4_1 p157 q157
                      obtain rfl : ad154 = ad157 := (by injection e157)
                      replace hx157_0 := (HB.out.cell (World.block_lt_of_cell? w _ hx157_0)).trans hx157_0
                      replace hx157_1 := (HB.out.cell (World.block_lt_of_cell? w _ hx157_1)).trans hx157_1
                      replace hx157_2 := (HB.out.cell (World.block_lt_of_cell? w _ hx157_2)).trans hx157_2
                      have HR157_1 := Aside0.mk hi157_1
                      have HC157_1 := Aside0.mk hl157_1
                      clear hi157_1 hl157_1
                      replace p157 := eq_true p157
                      replace q157 := eq_true q157
                      have hcz19_0 : wr.cell? ⟨gb156, 0, none⟩ = some (.string ((rd_T27 l0 x4_1).f0)) := (blk_cell BK156.out 0).trans rfl
                      have hcz19_1 : wr.cell? ⟨gb156, 1, none⟩ = some (u157001) := (blk_cell BK156.out 1).trans rfl
                      have hcz19_2 : wr.cell? ⟨gb156, 2, none⟩ = some (.int .u64 ((rd_T27 l0 x4_1).f2)) := (blk_cell BK156.out 2).trans rfl
                      have hfz19_0 := blk_frozen BK156.out 0
                      have hfz19_1 := blk_frozen BK156.out 1
                      have hfz19_2 := blk_frozen BK156.out 2
                      obtain ⟨Ao21, co21, eo21⟩ := Kd.R_slice HO_157001.out
                      subst eo21
                      go_wp2_with (first | ((with_reducible refine gate_builtin (b := .append) (xs := #[.tmp 47, .tmp 49]) rfl ?_); at_builtin; refine Kd.S_append k43 (w0 := w) w.heap.size rfl (.tmp 47) (.tmp 49) 32 43 (.agg #[(.string ⟨#[]⟩), (.slice none 0 0), (.int .u64 0)]) 48 rfl Tryd.underlying32 info43 rfl (by decide) (by omega) u3 x3_1 (⟨((rd_T27 l0 x4_1).f0), x157001_2, ((rd_T27 l0 x4_1).f2)⟩ : S43) [.string ((rd_T27 l0 x4_1).f0), .slice Ao21 x157001_2.length co21, .int .u64 ((rd_T27 l0 x4_1).f2)] (fun k_ => k_ ≠ gb156) (fun k_ => some k_ = (.slice Ao21 x157001_2.length co21 : Value).ownBlock) rfl rfl ?aP (fun k_ hk_ => ((Kd.R_mono (ok' := fun k_ => ((fun k_ => k_ ≠ gb156)) k_ ∧ some k_ ≠ (u3 : Value).ownBlock) (Kd.R_types (Kd.R_apart' (HO_157001.out) (Kd.S_typed HO_3.out) (by decide)) BK156.out (by decide)) (fun k_ hk => ⟨hk.2, hk.1.2⟩))).1 k_ hk_.symm) ?aF ?aO ?aB ?aS ?aL ?_; (case aP => exact k43_mkM _ _ _ (⟨((rd_T27 l0 x4_1).f0), x157001_2, ((rd_T27 l0 x4_1).f2)⟩ : S43) (Kd.R_mono (Kd.R_tight rfl (Kd.R_mono (ok' := fun k_ => ((fun k_ => k_ ≠ gb156)) k_ ∧ some k_ ≠ (u3 : Value).ownBlock) (Kd.R_types (Kd.R_apart' (HO_157001.out) (Kd.S_typed HO_3.out) (by decide)) BK156.out (by decide)) (fun k_ hk => ⟨hk.2, hk.1.2⟩))) (fun _ h_ => h_))); (case aB => exact (by repeat (first | (with_reducible first | exact HB.out | apply below_alloc | apply pw_below_drewN | apply below_drew1 | refine below_set ?_ GE156.out) | exact HB.out))); (case aF => exact (fun k_ hk => Kd.freshB (g := gb156) (o := .cells #[.string ((rd_T27 l0 x4_1).f0), .slice Ao21 x157001_2.length co21, .int .u64 ((rd_T27 l0 x4_1).f2)] 43 (0, 0)) (by (with_reducible repeat (first | refine blk_drewN ?_ _ | refine blk_drew ?_ | refine blk_alloc ?_ _)); exact BK156.out) k_ hk)); (case aO => exact (by (with_reducible repeat (first | apply Kd.S_alloc | apply Kd.S_drewN | apply Kd.S_drew)); exact Kd.S_mono HO_3.out (fun k_ hk => ⟨hk.2, fun e_ => hk.1 e_⟩))); (case aS => exact (below_size (by repeat (first | (with_reducible first | exact HB.out | apply below_alloc | apply pw_below_drewN | apply below_drew1 | refine below_set ?_ GE156.out) | exact HB.out)))); (case aL => have := LMc18.out; omega); intro v164 w20 ho hb hg hat; rw [← Ny163.out] at ho; have n0_ := Aside0.mk (blk_grown (g := gb156) (o := .cells #[.string ((rd_T27 l0 x4_1).f0), .slice Ao21 x157001_2.length co21, .int .u64 ((rd_T27 l0 x4_1).f2)] 43 (0, 0)) (by (with_reducible repeat (first | refine blk_drewN ?_ _ | refine blk_drew ?_ | refine blk_alloc ?_ _)); exact BK156.out) hg (Kd.S_away HO_3.out (fun _ hk => hk.2))); have n1_ := Aside0.mk (hb); have n2_ := Aside0.mk (ho); clear BK156; clear HB; clear HO_3; clear HO_157001; have BK156 := n0_; have HB := n1_; have HO165 := n2_; clear n0_ n1_ n2_; clear ho hb hg hat))
                      go_roundg k2
                      case measure => have := HK1.out; have := HK2.out; omega
                      case rel => exact ⟨(y163), (wrap64 (x4_1 + 1)), (by first | rfl | (simp; done) | (simp [*]; done)), H', ⟨by have := HK1.out; have := HK2.out; omega⟩, ⟨by (with_reducible repeat (first | apply Kd.S_alloc | apply Kd.S_drewN | apply Kd.S_drew)); exact Kd.S_mono HO165.out (fun _ hk => trivial)⟩, ⟨by repeat (first | (with_reducible first | exact HB.out | apply below_alloc | apply pw_below_drewN | apply below_drew1 | refine below_set ?_ GE156.out) | exact HB.out)⟩⟩
                    · rw [if_neg c18] at H
                      exact absurd H (by simp)
                · rw [if_neg c10] at H
                  exact absurd H (by simp)
              · rw [if_neg c9] at H
                exact absurd H (by simp)
        · rw [if_neg c3] at H
          exact absurd H (by simp)
      · rw [if_neg c2] at H
        have c2b0 : decide (x4_1 < (l0.length : Int)) = false := decide_eq_false c2
        clear c2
        obtain rfl := Option.some.inj H
        go_wp2
        go_ret
        exact ⟨_, by first | rfl | (simp [errW_none, errW_some] <;> rfl) | (simp [*, errW_none, errW_some] <;> rfl), by (with_reducible repeat (first | apply Kd.S_alloc | apply Kd.S_drewN | apply Kd.S_drew)); exact HO_3.out, by repeat (first | (with_reducible first | exact HB.out | apply below_alloc | apply pw_below_drewN | apply below_drew1) | exact HB.out)⟩


end Go.Proofs.YtdbmcikoiilanaaDoor.Pp
set_option linter.unusedVariables false
set_option linter.unusedSimpArgs false
namespace Go.Proofs.YtdbmcikoiilanaaDoor.Xp
open Go.RowKit Go.Proofs.YtdbmcikoiilanaaDoor.B0 Go.Proofs.YtdbmcikoiilanaaDoorW.PrintWords Go.Proofs.YtdbmcikoiilanaaDoor.Bld Go.Proofs.YtdbmcikoiilanaaDoor.Pp

abbrev RLin := S27
def cvB (y : RLab) : SLab := ⟨y.f0, y.f1⟩
def cvL (x : RLin) : SLin := ⟨x.f0, x.f1.map cvB, x.f2⟩
theorem rdL_at (xs : List RLin) (i : Nat) (h : i < xs.length) : rd_T27 xs (i : Int) = xs[i] := by
  unfold rd_T27; rw [show ((i : Int)).toNat = i from by omega, List.getD_eq_getElem?_getD, List.getElem?_eq_getElem h]; rfl
theorem rdB_at (xs : List RLab) (i : Nat) (h : i < xs.length) : rd_T29 xs (i : Int) = xs[i] := by
  unfold rd_T29; rw [show ((i : Int)).toNat = i from by omega, List.getD_eq_getElem?_getD, List.getElem?_eq_getElem h]; rfl
theorem of_l1 (x0 : List RLin) (x3 : List SLin) (i : Nat) (x : RLin) (hi : i < x0.length) (hx : x0[i] = x) (h0 : x0.length ≤ 1000000) (h3 : x3.length ≤ 1000000) (hl : x.f1.length ≤ 1000000) (nm : ByteArray) (n : Int) : ∀ (m j k : Nat) (acc : List SLab), j + m = x.f1.length → acc.length = j →
    tallyroomlaw36_Of.l1 (k + m + 1) x0 x3 i j nm acc n = tallyroomlaw36_Of.l0 k x0 (x3 ++ [(⟨nm, acc ++ (x.f1.drop j).map cvB, n⟩ : SLin)]) ((i + 1 : Nat) : Int)
  | 0, j, k, acc, h, ha => by
    rw [tallyroomlaw36_Of.l1, rdL_at x0 i hi, hx, if_pos (by omega), if_pos (by omega), if_neg (by omega), if_pos (by omega), show Go.RowKit.wrap64 ((i : Int) + 1) = ((i + 1 : Nat) : Int) from by rw [wrap64_small _ (by omega) (by omega)]; omega,
      List.drop_of_length_le (by omega), List.map_nil, List.append_nil]
  | m + 1, j, k, acc, h, ha => by
    rw [show k + (m + 1) + 1 = (k + m + 1) + 1 from by omega, tallyroomlaw36_Of.l1, rdL_at x0 i hi, hx, if_pos (by omega), if_pos (by omega), if_pos (by omega), if_pos (by omega), if_pos (by omega), rdB_at x.f1 j (by omega),
      show Go.RowKit.wrap64 ((j : Int) + 1) = ((j + 1 : Nat) : Int) from by rw [wrap64_small _ (by omega) (by omega)]; omega,
      of_l1 x0 x3 i x hi hx h0 h3 hl nm n m (j + 1) k _ (by omega) (by rw [List.length_append]; simp; omega), List.drop_eq_getElem_cons (show j < x.f1.length by omega), List.map_cons, List.append_assoc]
    rfl
theorem of_l0 (x0 : List RLin) (q : Nat) (h0 : x0.length ≤ 1000000) (hq : q ≤ 1000000) (hl : ∀ x ∈ x0, x.f1.length ≤ q) : ∀ (m i k : Nat) (acc : List SLin), i + m = x0.length → acc.length = i →
    tallyroomlaw36_Of.l0 (k + m * (q + 2) + 1) x0 acc i = some (acc ++ (x0.drop i).map cvL)
  | 0, i, k, acc, h, ha => by
    rw [tallyroomlaw36_Of.l0, if_neg (by omega), List.drop_of_length_le (by omega), List.map_nil, List.append_nil]
  | m + 1, i, k, acc, h, ha => by
    have hi : i < x0.length := by omega
    obtain ⟨x, hx⟩ : ∃ x, x0[i] = x := ⟨_, rfl⟩
    have hxl := hl x (by rw [← hx]; exact List.getElem_mem hi)
    have e : k + (m + 1) * (q + 2) = ((k + (q - x.f1.length)) + m * (q + 2) + 1) + x.f1.length + 1 := by
      rw [Nat.succ_mul]; omega
    rw [tallyroomlaw36_Of.l0, rdL_at x0 i hi, hx, if_pos (by omega), if_pos (by omega), e]
    have h1 := of_l1 x0 acc i x hi hx h0 (by omega) (by omega) x.f0 x.f2 x.f1.length 0 (k + (q - x.f1.length) + m * (q + 2) + 1) [] (by omega) rfl
    rw [show ((0 : Nat) : Int) = 0 from rfl] at h1
    rw [h1, of_l0 x0 q h0 hq hl m (i + 1) (k + (q - x.f1.length)) _ (by omega) (by rw [List.length_append]; simp; omega), List.drop_eq_getElem_cons hi, List.map_cons, hx, List.append_assoc]
    rfl
theorem of_f (x0 : List RLin) (q : Nat) (h0 : x0.length ≤ 1000000) (hq : q ≤ 1000000) (hl : ∀ x ∈ x0, x.f1.length ≤ q) : tallyroomlaw36_Of.f (x0.length * (q + 2) + 1) x0 = some (x0.map cvL) := by
  unfold tallyroomlaw36_Of.f
  have h := of_l0 x0 q h0 hq hl x0.length 0 0 [] (by omega) rfl
  rw [show ((0 : Nat) : Int) = 0 from rfl, Nat.zero_add] at h
  rw [h]; rfl
end Go.Proofs.YtdbmcikoiilanaaDoor.Xp
set_option linter.unusedVariables false
set_option linter.unusedSimpArgs false
namespace Go.Proofs.YtdbmcikoiilanaaDoor.Bl2
open Go.RowKit Go.Proofs.YtdbmcikoiilanaaDoor.B0 Go.Proofs.YtdbmcikoiilanaaDoorW.PrintWords Go.Proofs.YtdbmcikoiilanaaDoor.Bld

/-- blocks that are no bytes, and not b, stay. -/
def KB (b : Nat) (w w' : World) : Prop := ∀ (k : Nat) (o : Obj), w.heap[k]? = some o → (∀ cur fr, o ≠ .cells cur 5 fr) → k ≠ b → w'.heap[k]? = some o
theorem KB.refl (b : Nat) (w : World) : KB b w w := fun _ _ h _ _ => h
theorem KB.trans {b : Nat} {w1 w2 w3 : World} (h : KB b w1 w2) (h' : KB b w2 w3) : KB b w1 w3 := fun k o hk ho hb => h' k o (h k o hk ho hb) ho hb
theorem KB.below {b : Nat} {w w' : World} (h : Below w.heap.size w w') : KB b w w' := fun k o hk _ _ => (h.block k (lt_of_get hk)).trans hk
theorem KB.cell {b : Nat} {w w' : World} (h : KB b w w') {k T : Nat} {cs : Array Value} {fr : Nat × Nat} (hk : w.heap[k]? = some (.cells cs T fr)) (hT : T ≠ 5) (hb : k ≠ b) : w'.heap[k]? = some (.cells cs T fr) :=
  h k _ hk (fun cur fr' e => hT (Obj.cells.inj e).2.1) hb
theorem KB.set (b j : Nat) (w : World) (v : Value) : KB b w (w.setCell ⟨b, j, none⟩ v) := fun k o hk _ hb => (Below.heap_setCell _ _ _ _ hb).trans hk
theorem KB.grown {B n b : Nat} {w w' : World} {v : Value} {xs : List Value} (ho : w.ownsRow B 5 1 v n xs) (hg : w.grownBy w' v.ownBlock) : KB b w w' := fun k o hk hno hb => by
  refine (hg.block k (lt_of_get hk) (fun e => ?_)).trans hk
  rcases ho.2 with ⟨rfl, _⟩ | ⟨g, cap, cur, rfl, _, hh, _⟩
  · simp [Value.ownBlock] at e
  · have : k = g := by simpa [Value.ownBlock] using e
    subst this
    rw [hh] at hk
    exact hno cur (0, 0) (Option.some.inj hk).symm

theorem check_k (B b : Nat) (bs : List Value) (w : World) (h : Lib.IsBuilder 75 5 B b bs w) :
    Calls Tryd.prog 34 #[.pointer (some ⟨b, 0, none⟩)] w fun e w' => e = .returned (.tuple #[]) ∧ (Lib.BuilderAt 75 5 B b (.pointer (some ⟨b, 0, none⟩)) bs w' ∧ Below B w w' ∧ KB b w w') := by
  rcases h with h | h
  · refine (check_fresh b w h.cell0 h.shape h.frozen0).mono ?_
    rintro e w' ⟨rfl, rfl⟩
    exact ⟨rfl, h.used _, (Below.refl B w).setCell (p := ⟨b, 0, none⟩) h.1 _, KB.set b 0 w _⟩
  · refine (check_used b w h.cell0).mono ?_
    rintro e w' ⟨rfl, rfl⟩
    exact ⟨rfl, h, Below.refl B _, KB.refl b _⟩

set_option maxHeartbeats 2000000 in
set_option maxRecDepth 100000 in
theorem WByte_k (B b : Nat) (bs : List Value) (c : Int) (w : World) (h : Lib.IsBuilder 75 5 B b bs w) (hlen : bs.length + 1 ≤ 140737488355328) (hBw : B ≤ w.heap.size) :
    Calls Tryd.prog 21 #[.pointer (some ⟨b, 0, none⟩), .int .u8 c] w fun e w' => e = .returned .nilIface ∧ (Lib.BuilderAt 75 5 B b (.pointer (some ⟨b, 0, none⟩)) (bs ++ [.int .u8 c]) w' ∧ Below B w w' ∧ KB b w w') := by
  obtain ⟨i0, hi, hz0, hz1, hz2⟩ := info_parts infoB
  go_enter Tryd.func21, Tryd.ntmps21
  go_wp2_with (go_at_call 34; refine (check_k B b bs _ h).mono ?_)
  rintro e w1 ⟨rfl, h1, hb1, hk1⟩
  obtain ⟨hB, v, hbk, hown, hne⟩ := h1
  have c0 : w1.cell? ⟨b, 0, none⟩ = some (.pointer (some ⟨b, 0, none⟩)) := by rw [Lib.cell_of_heap hbk]; rfl
  have c1 : w1.cell? ⟨b, 1, none⟩ = some v := by rw [Lib.cell_of_heap hbk]; rfl
  go_wp2_with (at_builtin; refine wpList_append_own _ rfl _ _ 73 rfl B 5 i0 (.int .u8 0) 1 1 Tryd.underlying73 hi hz0 hz1 hz2 rfl (by decide) _ _ _ rfl (hown.alloc _) ⟨w1.heap.size, 0, none⟩ 1 1 [.int .u8 c] rfl rfl ?c1 ?c2 ?c3 ?c4 ?c5 ?_)
  case c1 =>
    intro j u hj
    match j, hj with
    | 0, hj => simp at hj; subst hj; simp [Addr.add]
  case c2 => intro u hu; simp at hu; subst hu; rfl
  case c3 => unfold maxLen; omega
  case c4 => omega
  case c5 => have := hb1.size; simp; omega
  intro v' w2 hown' hgrow _
  have hlt : b < w1.heap.size := lt_of_get hbk
  have hb2 : w2.heap[b]? = some (.cells #[.pointer (some ⟨b, 0, none⟩), v] 75 (0, 0)) := by
    rw [hgrow.block b (by simp; omega) (fun e => hne e.symm), Lib.alloc_old w1 _ b hlt]
    exact hbk
  have d0 : w2.cell? ⟨b, 0, none⟩ = some (.pointer (some ⟨b, 0, none⟩)) := by rw [Lib.cell_of_heap hb2]; rfl
  have d1 : w2.cell? ⟨b, 1, none⟩ = some v := by rw [Lib.cell_of_heap hb2]; rfl
  have f1 : w2.frozen? ⟨b, 1, none⟩ = false := Lib.frozen_of_heap hb2 1
  obtain ⟨g, cap, rfl⟩ : ∃ g cap, v' = .slice (some ⟨g, 0, none⟩) (bs.length + 1) cap := by
    rcases hown'.2 with ⟨_, h0⟩ | ⟨g, cap, cur, hv, _⟩
    · omega
    · exact ⟨g, cap, hv⟩
  go_wp2
  go_ret
  refine ⟨rfl, ?_, ?_, ?_⟩
  · exact Lib.BuilderAt.put (T := 75) (e := 5) hB hb2 (bs' := bs ++ [.int .u8 c]) (by simpa using hown') (by decide)
  · exact ((hb1.alloc (by have := hb1.size; omega) _).grown hgrow (by have := hb1.size; simp; omega) (fun k hk => (hown.lt k hk).1)).setCell (p := ⟨b, 1, none⟩) hB _
  · exact ((hk1.trans (KB.below ((Below.refl _ _).alloc (Nat.le_refl _) _))).trans (KB.grown (hown.alloc _) hgrow)).trans (KB.set b 1 w2 _)

set_option maxHeartbeats 2000000 in
set_option maxRecDepth 100000 in
theorem WString_k (B b : Nat) (bs : List Value) (s : ByteArray) (w : World) (h : Lib.IsBuilder 75 5 B b bs w) (hlen : bs.length + s.size ≤ 140737488355328) (hBw : B ≤ w.heap.size) :
    Calls Tryd.prog 20 #[.pointer (some ⟨b, 0, none⟩), .string s] w fun e w' => e = .returned (.tuple #[.int .i64 s.size, .nilIface]) ∧ (Lib.BuilderAt 75 5 B b (.pointer (some ⟨b, 0, none⟩)) (bs ++ Lib.strCells s) w' ∧ Below B w w' ∧ KB b w w') := by
  obtain ⟨i0, hi, hz0, hz1, hz2⟩ := info_parts infoB
  go_enter Tryd.func20, Tryd.ntmps20
  go_wp2_with (go_at_call 34; refine (check_k B b bs _ h).mono ?_)
  rintro e w1 ⟨rfl, h1, hb1, hk1⟩
  obtain ⟨hB, v, hbk, hown, hne⟩ := h1
  have c0 : w1.cell? ⟨b, 0, none⟩ = some (.pointer (some ⟨b, 0, none⟩)) := by rw [Lib.cell_of_heap hbk]; rfl
  have c1 : w1.cell? ⟨b, 1, none⟩ = some v := by rw [Lib.cell_of_heap hbk]; rfl
  go_wp2_with (at_builtin; refine Lib.wpList_append_own_string _ rfl _ _ 73 9 rfl B 5 i0 Tryd.underlying73 Tryd.underlying9 hi hz0 hz1 hz2 _ _ _ rfl hown s rfl ?c3 ?c4 ?c5 ?_)
  case c3 => unfold maxLen; omega
  case c4 => omega
  case c5 => have := hb1.size; omega
  intro v' w2 hown' hgrow _
  have hlt : b < w1.heap.size := lt_of_get hbk
  have hb2 : w2.heap[b]? = some (.cells #[.pointer (some ⟨b, 0, none⟩), v] 75 (0, 0)) := by
    rw [hgrow.block b hlt (fun e => hne e.symm)]
    exact hbk
  have d0 : w2.cell? ⟨b, 0, none⟩ = some (.pointer (some ⟨b, 0, none⟩)) := by rw [Lib.cell_of_heap hb2]; rfl
  have d1 : w2.cell? ⟨b, 1, none⟩ = some v := by rw [Lib.cell_of_heap hb2]; rfl
  have f1 : w2.frozen? ⟨b, 1, none⟩ = false := Lib.frozen_of_heap hb2 1
  obtain ⟨ao, n', cap, rfl⟩ : ∃ ao n' cap, v' = .slice ao n' cap := by
    rcases hown'.2 with ⟨hv, _⟩ | ⟨g, cap, cur, hv, _⟩
    · exact ⟨_, _, _, hv⟩
    · exact ⟨_, _, _, hv⟩
  go_wp2
  go_ret2
  refine ⟨rfl, ?_, ?_, ?_⟩
  · exact Lib.BuilderAt.put (T := 75) (e := 5) hB hb2 (bs' := bs ++ Lib.strCells s) (by simpa [Lib.strCells_length] using hown') (by decide)
  · exact (hb1.grown hgrow (by have := hb1.size; omega) (fun k hk => (hown.lt k hk).1)).setCell (p := ⟨b, 1, none⟩) hB _
  · exact (hk1.trans (KB.grown hown hgrow)).trans (KB.set b 1 w2 _)

theorem WByte_d {w : World} {B b : Nat} {l : List UInt8} (h : IsB w B b l) (c : UInt8) (hl : l.length ≤ 1000000000) (hB : B ≤ w.heap.size) :
    Calls Tryd.prog 21 #[.pointer (some ⟨b, 0, none⟩), .int .u8 c.toNat] w fun e w' => e = .returned .nilIface ∧ IsB w' B b (l ++ [c]) ∧ Below B w w' ∧ KB b w w' :=
  (WByte_k B b _ c.toNat w h (by rw [Lib.byteCells_length]; omega) hB).mono fun e w' ⟨he, hb, hw⟩ => ⟨he, .inr (by simpa [Lib.byteCells] using hb), hw⟩
theorem WString_d {w : World} {B b : Nat} {l : List UInt8} (h : IsB w B b l) (s : ByteArray) (hl : l.length ≤ 1000000000) (hs : s.size ≤ 1000000000) (hB : B ≤ w.heap.size) :
    Calls Tryd.prog 20 #[.pointer (some ⟨b, 0, none⟩), .string s] w fun e w' => e = .returned (.tuple #[.int .i64 s.size, .nilIface]) ∧ IsB w' B b (l ++ s.data.toList) ∧ Below B w w' ∧ KB b w w' :=
  (WString_k B b _ s w h (by rw [Lib.byteCells_length]; omega) hB).mono fun e w' ⟨he, hb, hw⟩ => ⟨he, .inr (by simpa [Lib.byteCells, Lib.strCells] using hb), hw⟩
end Go.Proofs.YtdbmcikoiilanaaDoor.Bl2
set_option linter.unusedVariables false
set_option linter.unusedSimpArgs false
namespace Go.Proofs.YtdbmcikoiilanaaDoor.Xp
open Go.RowKit Go.Proofs.YtdbmcikoiilanaaDoor.B0 Go.Proofs.YtdbmcikoiilanaaDoorW.PrintWords Go.Proofs.YtdbmcikoiilanaaDoor.Bld Go.Proofs.YtdbmcikoiilanaaDoor.Pp Go.Proofs.YtdbmcikoiilanaaDoor.Bl2

theorem isB_below {w w' : World} {B b : Nat} {l : List UInt8} (h : IsB w B b l) (hb : Below w.heap.size w w') : IsB w' B b l := by
  have key : ∀ p, Lib.BuilderAt 75 5 B b p (Lib.byteCells l) w → Lib.BuilderAt 75 5 B b p (Lib.byteCells l) w' := by
    rintro p ⟨h1, v, h2, h3, h4⟩
    exact ⟨h1, v, (hb.block b (lt_of_get h2)).trans h2, pw_own_below h3 hb, h4⟩
  rcases h with h | h
  · exact .inl (key _ h)
  · exact .inr (key _ h)
theorem esc_take (t : BL) (k : Nat) (c : UInt8) (h : t[k]? = some c) : (t.take (k + 1)).flatMap esc = (t.take k).flatMap esc ++ esc c := by
  obtain ⟨hl, e⟩ := List.getElem?_eq_some_iff.1 h
  rw [List.take_succ_eq_append_getElem hl, e, List.flatMap_append]; simp
theorem esc_take_len (t : BL) (k : Nat) : ((t.take k).flatMap esc).length ≤ 2 * t.length := by
  have : ∀ (t : BL), (t.flatMap esc).length ≤ 2 * t.length := by
    intro t
    induction t with
    | nil => simp
    | cons c t ih => have := esc_len c; simp only [List.flatMap_cons, List.length_append, List.length_cons]; omega
  have h1 := this (t.take k)
  have h2 := List.length_take_le' k t
  omega

set_option maxHeartbeats 4000000 in
set_option maxRecDepth 100000 in
theorem quote_c (w : World) (B b : Nat) (l : BL) (s : ByteArray) (h : IsB w B b l) (hB : B ≤ w.heap.size) (hl : l.length + 2 * s.size + 2 ≤ 900000000) :
    Calls Tryd.prog 22 #[.pointer (some ⟨b, 0, none⟩), .string s] w fun e w' => (∃ v, e = .returned v) ∧ IsB w' B b (l ++ quoteL s.data.toList) ∧ Below B w w' ∧ KB b w w' := by
  have HI := Lib.hid h; clear h
  obtain ⟨L, HLs⟩ : ∃ L, Hid (s.data.toList = L ∧ L.length = s.size) := ⟨_, rfl, rfl⟩
  have HW1 := Lib.hid (WByte_d HI.out 34 (by omega) hB)
  rw [HLs.out.1]
  go_enter Tryd.func22, Tryd.ntmps22
  go_wp2_with fail
  refine HW1.out.mono ?_
  rintro e w1 ⟨rfl, hi1, hb1, hk1⟩
  have H1 : Hid (IsB w1 B b (l ++ [34]) ∧ Below B w w1 ∧ KB b w w1 ∧ B ≤ w1.heap.size) := ⟨hi1, hb1, hk1, Nat.le_trans hB hb1.size⟩
  clear hi1 hb1 hk1 HW1
  have hw0 : IntKind.i64.wrap 0 = 0 := by decide
  go_wp2_with fail
  go_loopw [10] (fun iv wr => ∃ k : Nat, iv = .int .i64 k ∧ k ≤ s.size ∧ Hid (IsB wr B b (l ++ 34 :: (L.take k).flatMap esc) ∧ Below B w wr ∧ KB b w wr ∧ B ≤ wr.heap.size)) (fun iv _ => s.size - (intOf iv).toNat)
  case atStart => exact ⟨0, rfl, Nat.zero_le _, by simpa using H1.out.1, H1.out.2⟩
  case round =>
    obtain ⟨k, rfl, hk, HW⟩ := hrel
    by_cases hlt : k < s.size
    · have hki : (k : Int) < (s.size : Int) := by omega
      obtain ⟨c, hc⟩ : ∃ c, Hid (L[k]? = some c ∧ ∀ h : k < s.size, s[k]'h = c) := by
        have hkl : k < L.length := by rw [HLs.out.2]; exact hlt
        refine ⟨L[k], List.getElem?_eq_getElem hkl, fun h => ?_⟩
        have e : s.data.toList[k]? = some L[k] := by rw [HLs.out.1]; exact List.getElem?_eq_getElem hkl
        obtain ⟨_, e2⟩ := List.getElem?_eq_some_iff.1 e
        exact e2
      have hcc : ∀ h : k < s.size, s[k]'h = c := hc.out.2
      have HE : Hid ((L.take (k + 1)).flatMap esc = (L.take k).flatMap esc ++ esc c) := esc_take L k c hc.out.1
      have HN : Hid ((l ++ 34 :: (L.take k).flatMap esc).length ≤ 900000000) := by
        have h1 := esc_take_len L k
        show _ ≤ _
        rw [List.length_append, List.length_cons]; have := HLs.out.2; omega
      by_cases h92 : c = 92 ∨ c = 34
      · have HES : Hid (esc c = [92, c]) := by show _ = _; unfold esc; rw [if_pos h92]
        have HA := Lib.hid (WByte_d HW.out.1 92 (by have := HN.out; omega) HW.out.2.2.2)
        have hcase : ((c.toNat : Int) == 92) = true ∨ (((c.toNat : Int) == 92) = false ∧ ((c.toNat : Int) == 34) = true) := by
          rcases h92 with rfl | rfl
          · exact .inl rfl
          · exact .inr ⟨rfl, rfl⟩
        clear h92
        rcases hcase with f1 | ⟨f1, f2⟩ <;>
        (go_wp2_with fail
         refine HA.out.mono ?_
         rintro e w2 ⟨rfl, hi2, hb2, hk2⟩
         have H2 : Hid (IsB w2 B b (l ++ 34 :: (L.take k).flatMap esc ++ [92]) ∧ Below B w w2 ∧ KB b w w2 ∧ B ≤ w2.heap.size) := ⟨hi2, HW.out.2.1.trans hb2, HW.out.2.2.1.trans hk2, Nat.le_trans HW.out.2.2.2 hb2.size⟩
         clear hi2 hb2 hk2
         go_wp2_with fail
         refine (WByte_d H2.out.1 c (by rw [List.length_append, List.length_singleton]; have := HN.out; omega) H2.out.2.2.2).mono ?_
         rintro e w3 ⟨rfl, hi3, hb3, hk3⟩
         have H3 : Hid (IsB w3 B b (l ++ 34 :: (L.take (k + 1)).flatMap esc) ∧ Below B w w3 ∧ KB b w w3 ∧ B ≤ w3.heap.size) := ⟨by rw [HE.out, HES.out]; simpa using hi3, H2.out.2.1.trans hb3, H2.out.2.2.1.trans hk3, Nat.le_trans H2.out.2.2.2 hb3.size⟩
         clear hi3 hb3 hk3
         go_wp2_with fail
         go_roundw
         case rel => exact ⟨k + 1, by go_num, by omega, H3⟩
         case measure => simp [intOf]; omega)
      · have f1 : ((c.toNat : Int) == 92) = false := by
          rw [beq_eq_false_iff_ne]; intro e; apply h92; left; apply UInt8.toNat_inj.1; have : (92 : UInt8).toNat = 92 := rfl; omega
        have f2 : ((c.toNat : Int) == 34) = false := by
          rw [beq_eq_false_iff_ne]; intro e; apply h92; right; apply UInt8.toNat_inj.1; have : (34 : UInt8).toNat = 34 := rfl; omega
        by_cases h10 : c = 10
        · have f3 : ((c.toNat : Int) == 10) = true := by rw [h10]; rfl
          have HES : Hid (esc c = [92, 110]) := by show _ = _; unfold esc; rw [if_neg h92, if_pos h10]
          have HA := Lib.hid (WString_d HW.out.1 ⟨#[92, 110]⟩ (by have := HN.out; omega) (by decide) HW.out.2.2.2)
          clear h92 h10
          go_wp2_with fail
          refine HA.out.mono ?_
          rintro e w3 ⟨rfl, hi3, hb3, hk3⟩
          have H3 : Hid (IsB w3 B b (l ++ 34 :: (L.take (k + 1)).flatMap esc) ∧ Below B w w3 ∧ KB b w w3 ∧ B ≤ w3.heap.size) := ⟨by rw [HE.out, HES.out]; simpa using hi3, HW.out.2.1.trans hb3, HW.out.2.2.1.trans hk3, Nat.le_trans HW.out.2.2.2 hb3.size⟩
          clear hi3 hb3 hk3
          go_wp2_with fail
          go_roundw
          case rel => exact ⟨k + 1, by go_num, by omega, H3⟩
          case measure => simp [intOf]; omega
        · have f3 : ((c.toNat : Int) == 10) = false := by
            rw [beq_eq_false_iff_ne]; intro e; apply h10; apply UInt8.toNat_inj.1; have : (10 : UInt8).toNat = 10 := rfl; omega
          have HES : Hid (esc c = [c]) := by show _ = _; unfold esc; rw [if_neg h92, if_neg h10]
          have HA := Lib.hid (WByte_d HW.out.1 c (by have := HN.out; omega) HW.out.2.2.2)
          clear h92 h10
          go_wp2_with fail
          refine HA.out.mono ?_
          rintro e w3 ⟨rfl, hi3, hb3, hk3⟩
          have H3 : Hid (IsB w3 B b (l ++ 34 :: (L.take (k + 1)).flatMap esc) ∧ Below B w w3 ∧ KB b w w3 ∧ B ≤ w3.heap.size) := ⟨by rw [HE.out, HES.out]; simpa using hi3, HW.out.2.1.trans hb3, HW.out.2.2.1.trans hk3, Nat.le_trans HW.out.2.2.2 hb3.size⟩
          clear hi3 hb3 hk3
          go_wp2_with fail
          go_roundw
          case rel => exact ⟨k + 1, by go_num, by omega, H3⟩
          case measure => simp [intOf]; omega
    · obtain rfl : k = s.size := by omega
      have HT : Hid (L.take s.size = L) := List.take_of_length_le (by rw [HLs.out.2]; exact Nat.le_refl _)
      have HA := Lib.hid (WByte_d HW.out.1 34 (by have h1 := esc_take_len L s.size; rw [List.length_append, List.length_cons]; have := HLs.out.2; omega) HW.out.2.2.2)
      go_wp2_with fail
      refine HA.out.mono ?_
      rintro e w3 ⟨rfl, hi3, hb3, hk3⟩
      have H3 : Hid (IsB w3 B b (l ++ quoteL L) ∧ Below B w w3 ∧ KB b w w3) := ⟨by rw [HT.out] at hi3; simpa [quoteL] using hi3, HW.out.2.1.trans hb3, HW.out.2.2.1.trans hk3⟩
      clear hi3 hb3 hk3
      go_wp2_with fail
      go_end0
      exact ⟨⟨_, rfl⟩, H3.out⟩
end Go.Proofs.YtdbmcikoiilanaaDoor.Xp
set_option linter.unusedVariables false
set_option linter.unusedSimpArgs false
namespace Go.Proofs.YtdbmcikoiilanaaDoor.Xp
open Go.RowKit Go.Proofs.YtdbmcikoiilanaaDoor.B0 Go.Proofs.YtdbmcikoiilanaaDoorW.PrintWords Go.Proofs.YtdbmcikoiilanaaDoor.Bld Go.Proofs.YtdbmcikoiilanaaDoor.Pp Go.Proofs.YtdbmcikoiilanaaDoor.Bl2

theorem print_take (xs : List SLin) (k : Nat) (x : SLin) (h : xs[k]? = some x) : printP ((xs.take (k + 1)).map lnM) = printP ((xs.take k).map lnM) ++ (if rightL (lnM x) then lineP (lnM x) else []) := by
  obtain ⟨hl, e⟩ := List.getElem?_eq_some_iff.1 h
  rw [List.take_succ_eq_append_getElem hl, e, List.map_append, print_append]
  congr 1
  by_cases hr : rightL (lnM x) = true
  · simp [printP, hr]
  · simp [printP, hr]
theorem labs_take (ls : List Lb) (j : Nat) (y : Lb) (h : ls[j]? = some y) : labsL (ls.take (j + 1)) = labsL (ls.take j) ++ ((if j = 0 then [] else [44]) ++ labL y) := by
  obtain ⟨hl, e⟩ := List.getElem?_eq_some_iff.1 h
  cases ls with
  | nil => simp at hl
  | cons a r =>
    cases j with
    | zero => simp at h; subst h; simp [labsL]
    | succ j =>
      have hr : r[j]? = some y := by simpa using h
      obtain ⟨hl2, e2⟩ := List.getElem?_eq_some_iff.1 hr
      simp only [List.take_succ_cons, labsL]
      rw [List.take_succ_eq_append_getElem hl2, e2, List.flatMap_append]
      simp
theorem labs_take_le (ls : List Lb) (j : Nat) : (labsL (ls.take j)).length ≤ (labsL ls).length := by
  cases ls with
  | nil => simp
  | cons a r =>
    cases j with
    | zero => simp [labsL]
    | succ j =>
      simp only [List.take_succ_cons, labsL, List.length_append]
      have : ((r.take j).flatMap fun y => 44 :: labL y).length ≤ (r.flatMap fun y => 44 :: labL y).length := by
        conv => rhs; rw [← List.take_append_drop j r, List.flatMap_append, List.length_append]
        omega
      omega
theorem line_le (xs : List Ln) (x : Ln) (h : x ∈ xs) : (lineP x).length ≤ (xs.flatMap lineP).length := by
  obtain ⟨a, b, rfl⟩ := List.append_of_mem h
  simp only [List.flatMap_append, List.flatMap_cons, List.length_append]; omega
theorem take_le (xs : List SLin) (k : Nat) : (printP ((xs.take k).map lnM)).length ≤ ((xs.map lnM).flatMap lineP).length := by
  refine Nat.le_trans (filter_len _) ?_
  conv => rhs; rw [← List.take_append_drop k xs, List.map_append, List.flatMap_append, List.length_append]
  omega
theorem lab_in (ls : List Lb) (y : Lb) (h : y ∈ ls) : (labL y).length ≤ (labsL ls).length := by
  cases ls with
  | nil => simp at h
  | cons a r =>
    simp only [labsL, List.length_append]
    rcases List.mem_cons.1 h with rfl | h
    · omega
    · obtain ⟨p, q, rfl⟩ := List.append_of_mem h
      simp only [List.flatMap_append, List.flatMap_cons, List.length_append, List.length_cons]; omega
theorem esc_pos (c : UInt8) : 1 ≤ (esc c).length := by
  unfold esc
  by_cases h : c = 92 ∨ c = 34
  · rw [if_pos h]; simp
  · rw [if_neg h]
    by_cases h2 : c = 10
    · rw [if_pos h2]; simp
    · rw [if_neg h2]; simp
theorem lab_ge (y : Lb) : y.k.length + y.t.length + 3 ≤ (labL y).length := by
  have : ∀ (t : BL), t.length ≤ (t.flatMap esc).length := by
    intro t
    induction t with
    | nil => simp
    | cons c t ih => have := esc_pos c; simp only [List.flatMap_cons, List.length_append, List.length_cons]; omega
  have := this y.t
  simp only [labL, quoteL, List.length_append, List.length_cons, List.length_nil]; omega
theorem labs_count : ∀ (ls : List Lb), ls.length ≤ (labsL ls).length
  | [] => by simp
  | a :: r => by
    have h1 := lab_ge a
    have h2 := labs_len r
    simp only [labsL, List.length_append, List.length_cons]; omega

set_option maxHeartbeats 8000000 in
set_option maxRecDepth 100000 in
theorem Print_c (w : World) (h : LP w) (A : Option Addr) (c : Nat) (xs : List SLin) (hC : Kd.C k43 w A xs.length xs) (hv : ∀ x ∈ xs, 0 ≤ x.f2 ∧ x.f2 < 18446744073709551616) (hT : ((xs.map lnM).flatMap lineP).length ≤ 200000000) :
    Calls Tryd.prog 9 #[.slice A xs.length c] w fun e w' => e = .returned (strV (printP (xs.map lnM))) ∧ Below w.heap.size w w' := by
  obtain ⟨n, hn⟩ : ∃ n, xs.length = n := ⟨_, rfl⟩
  rw [hn] at hC ⊢
  have HN := Lib.hid hn; clear hn
  have HC := Lib.hid hC; have HV := Lib.hid hv; have HT := Lib.hid hT; have HL := Lib.hid h
  clear hC hv hT h
  have hnb : n ≤ 200000000 := by
    have h1 := flat_len (xs.map lnM)
    rw [List.length_map] at h1
    have := HT.out; have := HN.out; omega
  have hw0 : IntKind.i64.wrap 0 = 0 := by decide
  go_enter Tryd.func9, Tryd.ntmps9
  go_wp2_with fail
  go_loopw [10] (fun iv wr => ∃ k : Nat, iv = .int .i64 k ∧ k ≤ n ∧ Hid (IsB wr w.heap.size w.heap.size (printP ((xs.take k).map lnM)) ∧ Below w.heap.size w wr ∧ w.heap.size < wr.heap.size)) (fun iv _ => n - (intOf iv).toNat)
  case atStart => exact ⟨0, rfl, Nat.zero_le _, IsB.new w, (Below.refl _ _).alloc (Nat.le_refl _) _, by rw [size_alloc]; omega⟩
  case round =>
    obtain ⟨k, rfl, hk, HW⟩ := hrel
    by_cases hlt : k < n
    · have hki : (k : Int) < (n : Int) := by omega
      have hkl : k < xs.length := by rw [HN.out]; exact hlt
      obtain ⟨ad, A1, c1, rfl, d0, d1, d2, hl1, hi1⟩ := at_T43 HC.out k (by omega) (by omega)
      rw [show ((k : Int)).toNat = k from by omega] at d0 d1 d2
      obtain ⟨x, hx⟩ : ∃ x, Hid (rd_T43 xs k = x ∧ xs[k]? = some x) := ⟨_, rfl, by unfold rd_T43; rw [show ((k : Int)).toNat = k from by omega, List.getD_eq_getElem?_getD, List.getElem?_eq_getElem hkl]; rfl⟩
      rw [hx.out.1] at d0 d1 d2 hl1 hi1
      have hmem : x ∈ xs := List.mem_of_getElem? hx.out.2
      have HX : Hid ((0 ≤ x.f2 ∧ x.f2 < 18446744073709551616) ∧ (lineP (lnM x)).length ≤ 200000000) := ⟨HV.out x hmem, Nat.le_trans (line_le _ _ (List.mem_map_of_mem hmem)) HT.out⟩
      clear hmem hkl
      have d0' := pw_cell_below HW.out.2.1 d0
      have d1' := pw_cell_below HW.out.2.1 d1
      have d2' := pw_cell_below HW.out.2.1 d2
      obtain ⟨n1, hn1⟩ : ∃ n1, Hid (x.f1.length = n1) := ⟨_, Lib.hid rfl⟩
      rw [hn1.out] at d1 d1' hl1 hi1
      have HI1 := Lib.hid hi1
      clear hi1 hl1 d0 d1 d2
      obtain ⟨wm, hwm⟩ : ∃ wm, Hid (wr.alloc (.cells #[.string x.f0, .slice A1 n1 c1, .int .u64 x.f2] 43) = wm) := ⟨_, Lib.hid rfl⟩
      have hbm : Below wr.heap.size wr wm := by rw [← hwm.out]; exact (Below.refl _ _).alloc (Nat.le_refl _) _
      have hxm : wm.heap[wr.heap.size]? = some (.cells #[.string x.f0, .slice A1 n1 c1, .int .u64 x.f2] 43) := by rw [← hwm.out]; exact allocN _ _
      obtain ⟨bx, hbx⟩ : ∃ bx, Hid (wr.heap.size = bx ∧ bx ≠ w.heap.size) := ⟨_, rfl, by have := HW.out.2.2; omega⟩
      rw [hbx.out.1] at hxm
      have HM : Hid (IsB wm w.heap.size w.heap.size (printP ((xs.take k).map lnM)) ∧ Below w.heap.size w wm ∧ w.heap.size < wm.heap.size ∧ wm.heap[bx]? = some (.cells #[.string x.f0, .slice A1 n1 c1, .int .u64 x.f2] 43)) :=
        ⟨isB_below HW.out.1 hbm, HW.out.2.1.trans (hbm.mono HW.out.2.1.size), by have := HW.out.2.2; have := hbm.size; omega, hxm⟩
      clear hbm hxm
      have q0 : wm.cell? ⟨bx, 0, none⟩ = some (.string x.f0) := by rw [cellB HM.out.2.2.2]; rfl
      have q1 : wm.cell? ⟨bx, 1, none⟩ = some (.slice A1 n1 c1) := by rw [cellB HM.out.2.2.2]; rfl
      have q2 : wm.cell? ⟨bx, 2, none⟩ = some (.int .u64 x.f2) := by rw [cellB HM.out.2.2.2]; rfl
      have HSZ : Hid (x.f0.size ≤ 200000000 ∧ x.f1.length ≤ 200000000 ∧ ∀ y ∈ x.f1, y.f0.size + y.f1.size ≤ 200000000) := by
        have h1 : (lineP (lnM x)).length = x.f0.size + 1 + (labsL (x.f1.map lbM)).length + 2 + (Lib.decDigits x.f2.toNat).length + 1 := by
          simp only [lineP, lnM, List.length_append, List.length_cons, List.length_nil]
          show x.f0.size + _ = _
          omega
        have h2 := HX.out.2
        refine ⟨by omega, ?_, fun y hy => ?_⟩
        · have := labs_count (x.f1.map lbM); rw [List.length_map] at this; omega
        · have h3 := lab_in _ _ (List.mem_map_of_mem (f := lbM) hy)
          have h4 := lab_ge (lbM y)
          have h5 : (lbM y).k.length = y.f0.size ∧ (lbM y).t.length = y.f1.size := ⟨rfl, rfl⟩
          omega
      have HRC : Hid (Calls Tryd.prog 19 #[.agg #[.string x.f0, .slice A1 n1 c1, .int .u64 x.f2]] wm fun e w' => e = .returned (.bool (rightL (lnM x))) ∧ Below wm.heap.size wm w') := by
        have := right_c x A1 c1 wm (by rw [hn1.out]; exact Kd.C_below HI1.out HM.out.2.1) (fun y hy => by have := HSZ.out.2.2 y hy; omega) HSZ.out.2.1 HSZ.out.1
        rw [hn1.out] at this; exact this
      obtain ⟨rt, hrt⟩ : ∃ rt, Hid (rightL (lnM x) = rt) := ⟨_, Lib.hid rfl⟩
      rw [hrt.out] at HRC
      have HPT : Hid (printP ((xs.take (k + 1)).map lnM) = printP ((xs.take k).map lnM) ++ (if rt = true then lineP (lnM x) else [])) := by show _ = _; rw [print_take xs k x hx.out.2, hrt.out]
      go_upto_region 5 with fail
      rw [hwm.out, hbx.out.1]
      go_wp2_with fail
      refine HRC.out.mono ?_
      rintro e w2 ⟨rfl, hb2⟩
      have H2 : Hid (IsB w2 w.heap.size w.heap.size (printP ((xs.take k).map lnM)) ∧ Below w.heap.size w w2 ∧ w.heap.size < w2.heap.size ∧ w2.heap[bx]? = some (.cells #[.string x.f0, .slice A1 n1 c1, .int .u64 x.f2] 43)) :=
        ⟨isB_below HM.out.1 hb2, HM.out.2.1.trans (hb2.mono (Nat.le_of_lt HM.out.2.2.1)), by have := HM.out.2.2.1; have := hb2.size; omega, (hb2.block _ (lt_of_get HM.out.2.2.2)).trans HM.out.2.2.2⟩
      clear hb2 HM HRC q0 q1 q2 d0' d1' d2'
      cases rt
      · have HE : Hid (IsB w2 w.heap.size w.heap.size (printP ((xs.take (k + 1)).map lnM))) := by
          show IsB w2 _ _ _
          rw [HPT.out, if_neg (by simp), List.append_nil]; exact H2.out.1
        go_wp2_with fail
        go_roundw
        case rel => exact ⟨k + 1, by go_num, by omega, HE.out, H2.out.2.1, H2.out.2.2.1⟩
        case measure => simp [intOf]; omega
      · have p0 : w2.cell? ⟨bx, 0, none⟩ = some (.string x.f0) := by rw [cellB H2.out.2.2.2]; rfl
        have hsum : ¬ (9223372036854775807 < x.f0.size + 1) := by have := HSZ.out.1; omega
        obtain ⟨pre, hpre⟩ : ∃ pre, Hid (printP ((xs.take k).map lnM) ++ (x.f0.data.toList ++ [123]) = pre ∧ pre.length + (labsL (x.f1.map lbM)).length ≤ 200000000) := ⟨_, rfl, by
          have h1 := take_le xs (k + 1); have h2 := HT.out
          rw [HPT.out, if_pos rfl] at h1
          simp only [lineP, lnM, List.length_append, List.length_cons, List.length_nil] at h1 ⊢; omega⟩
        obtain ⟨s1, hs1⟩ : ∃ s1, Hid ((x.f0 ++ ⟨#[123]⟩ : ByteArray) = s1 ∧ s1.data.toList = x.f0.data.toList ++ [123] ∧ s1.size = x.f0.size + 1) := ⟨_, rfl, by simp, by rw [ByteArray.size_append]; rfl⟩
        have HWS := Lib.hid (WString_d H2.out.1 s1 (by have h1 := take_le xs k; have := HT.out; omega) (by rw [hs1.out.2.2]; have := HSZ.out.1; omega) (Nat.le_of_lt H2.out.2.2.1))
        go_wp2_with fail
        rw [hs1.out.1]
        refine HWS.out.mono ?_
        rintro e w3 ⟨rfl, hi3, hb3, hk3⟩
        have H3 : Hid (IsB w3 w.heap.size w.heap.size pre ∧ Below w.heap.size w w3 ∧ w.heap.size < w3.heap.size ∧ w3.heap[bx]? = some (.cells #[.string x.f0, .slice A1 n1 c1, .int .u64 x.f2] 43)) :=
          ⟨by rw [← hpre.out.1, ← hs1.out.2.1]; exact hi3, H2.out.2.1.trans hb3, by have := H2.out.2.2.1; have := hb3.size; omega, hk3.cell H2.out.2.2.2 (by decide) hbx.out.2⟩
        clear hi3 hb3 hk3 p0 HWS
        have p1 : w3.cell? ⟨bx, 1, none⟩ = some (.slice A1 n1 c1) := by rw [cellB H3.out.2.2.2]; rfl
        go_wp2_with fail
        clear p1
        have hn1b : n1 ≤ 200000000 := by have := HSZ.out.2.1; rw [hn1.out] at this; exact this
        go_loopw [24] (fun iv wr => ∃ j : Nat, iv = .int .i64 j ∧ j ≤ n1 ∧ Hid (IsB wr w.heap.size w.heap.size (pre ++ labsL ((x.f1.map lbM).take j)) ∧ Below w.heap.size w wr ∧ w.heap.size < wr.heap.size ∧ wr.heap[bx]? = some (.cells #[.string x.f0, .slice A1 n1 c1, .int .u64 x.f2] 43))) (fun iv _ => n1 - (intOf iv).toNat)
        case atStart => exact ⟨0, rfl, Nat.zero_le _, by simpa [labsL] using H3.out.1, H3.out.2⟩
        case round =>
          obtain ⟨j, rfl, hj, HJ⟩ := hrel
          by_cases hjl : j < n1
          · have hji : (j : Int) < (n1 : Int) := by omega
            obtain ⟨ad1, rfl, e0, e1⟩ := at_T71 (Kd.C_below HI1.out HJ.out.2.1) j (by omega) (by omega)
            rw [show ((j : Int)).toNat = j from by omega] at e0 e1
            obtain ⟨y, hy⟩ : ∃ y, Hid (rd_T71 x.f1 j = y ∧ x.f1[j]? = some y) := ⟨_, rfl, by unfold rd_T71; rw [show ((j : Int)).toNat = j from by omega, List.getD_eq_getElem?_getD, List.getElem?_eq_getElem (by rw [hn1.out]; exact hjl)]; rfl⟩
            rw [hy.out.1] at e0 e1
            have HYS : Hid (y.f0.size + y.f1.size ≤ 200000000) := HSZ.out.2.2 y (List.mem_of_getElem? hy.out.2)
            have HLT : Hid (labsL ((x.f1.map lbM).take (j + 1)) = labsL ((x.f1.map lbM).take j) ++ ((if j = 0 then [] else [44]) ++ labL (lbM y))) := labs_take _ j _ (by rw [List.getElem?_map, hy.out.2]; rfl)
            have HCL : Hid (pre.length + (labsL ((x.f1.map lbM).take j)).length ≤ 200000000) := by
              have h1 := labs_take_le (x.f1.map lbM) j
              have h4 := hpre.out.2
              show _ ≤ _
              omega
            obtain ⟨bl, hbl⟩ : ∃ bl, Hid (wr.heap.size = bl ∧ bl ≠ w.heap.size) := ⟨_, rfl, by have := HJ.out.2.2.1; omega⟩
            obtain ⟨wl, hwl⟩ : ∃ wl, Hid (wr.alloc (.cells #[.string y.f0, .string y.f1] 71) = wl) := ⟨_, Lib.hid rfl⟩
            have hbm : Below wr.heap.size wr wl := by rw [← hwl.out]; exact (Below.refl _ _).alloc (Nat.le_refl _) _
            have hxm : wl.heap[bl]? = some (.cells #[.string y.f0, .string y.f1] 71) := by rw [← hwl.out, ← hbl.out.1]; exact allocN _ _
            have HM : Hid (IsB wl w.heap.size w.heap.size (pre ++ labsL ((x.f1.map lbM).take j)) ∧ Below w.heap.size w wl ∧ w.heap.size < wl.heap.size ∧ wl.heap[bx]? = some (.cells #[.string x.f0, .slice (some ad1) n1 c1, .int .u64 x.f2] 43) ∧ wl.heap[bl]? = some (.cells #[.string y.f0, .string y.f1] 71)) :=
              ⟨isB_below HJ.out.1 hbm, HJ.out.2.1.trans (hbm.mono HJ.out.2.1.size), by have := HJ.out.2.2.1; have := hbm.size; omega, (hbm.block _ (lt_of_get HJ.out.2.2.2)).trans HJ.out.2.2.2, hxm⟩
            clear hbm hxm
            obtain ⟨sy, hsy⟩ : ∃ sy, Hid ((y.f0 ++ ⟨#[61]⟩ : ByteArray) = sy ∧ sy.data.toList = y.f0.data.toList ++ [61] ∧ sy.size = y.f0.size + 1) := ⟨_, rfl, by simp, by rw [ByteArray.size_append]; rfl⟩
            have hsum : ¬ (9223372036854775807 < y.f0.size + 1) := by have := HYS.out; omega
            rcases Nat.eq_zero_or_pos j with hj0 | hj0
            · have hz1 : decide ((0 : Int) < (j : Int)) = false := decide_eq_false (by omega)
              have hz2 : decide (0 < j) = false := decide_eq_false (by omega)
              have HJ0 := Lib.hid hj0; clear hj0
              go_upto_region 10 with fail
              rw [hwl.out, hbl.out.1]
              have r0 : wl.cell? ⟨bl, 0, none⟩ = some (.string y.f0) := by rw [cellB HM.out.2.2.2.2]; rfl
              have HWS := Lib.hid (WString_d HM.out.1 sy (by have := HCL.out; simp only [List.length_append, List.length_cons, List.length_nil]; omega) (by rw [hsy.out.2.2]; have := HYS.out; omega) (Nat.le_of_lt HM.out.2.2.1))
              go_wp2_with fail
              rw [hsy.out.1]
              refine HWS.out.mono ?_
              rintro e w7 ⟨rfl, hi7, hb7, hk7⟩
              have H7 : Hid (IsB w7 w.heap.size w.heap.size ((pre ++ labsL ((x.f1.map lbM).take j)) ++ (y.f0.data.toList ++ [61])) ∧ Below w.heap.size w w7 ∧ w.heap.size < w7.heap.size ∧ w7.heap[bx]? = some (.cells #[.string x.f0, .slice (some ad1) n1 c1, .int .u64 x.f2] 43) ∧ w7.heap[bl]? = some (.cells #[.string y.f0, .string y.f1] 71)) :=
                ⟨by rw [← hsy.out.2.1]; exact hi7, HM.out.2.1.trans hb7, by have := HM.out.2.2.1; have := hb7.size; omega, hk7.cell HM.out.2.2.2.1 (by decide) hbx.out.2, hk7.cell HM.out.2.2.2.2 (by decide) hbl.out.2⟩
              clear hi7 hb7 hk7 r0
              have r1 : w7.cell? ⟨bl, 1, none⟩ = some (.string y.f1) := by rw [cellB H7.out.2.2.2.2]; rfl
              go_wp2_with fail
              refine (quote_c w7 w.heap.size w.heap.size _ y.f1 H7.out.1 (Nat.le_of_lt H7.out.2.2.1) (by have h1 := HCL.out; have h2 := HYS.out; have h3 : y.f0.data.toList.length = y.f0.size := rfl; simp only [List.length_append, List.length_cons, List.length_nil, h3]; omega)).mono ?_
              rintro e w8 ⟨⟨_, rfl⟩, hi8, hb8, hk8⟩
              have H8 : Hid (IsB w8 w.heap.size w.heap.size (pre ++ labsL ((x.f1.map lbM).take (j + 1))) ∧ Below w.heap.size w w8 ∧ w.heap.size < w8.heap.size ∧ w8.heap[bx]? = some (.cells #[.string x.f0, .slice (some ad1) n1 c1, .int .u64 x.f2] 43)) := by
                refine ⟨?_, H7.out.2.1.trans hb8, by have := H7.out.2.2.1; have := hb8.size; omega, hk8.cell H7.out.2.2.2.1 (by decide) hbx.out.2⟩
                rw [HLT.out]
                simpa [labL, lbM, HJ0.out] using hi8
              clear hi8 hb8 hk8 r1
              go_wp2_with fail
              go_roundw
              case rel => exact ⟨j + 1, by go_num, by omega, H8⟩
              case measure => simp [intOf]; omega
            · have hz1 : decide ((0 : Int) < (j : Int)) = true := decide_eq_true (by omega)
              have hz2 : decide (0 < j) = true := decide_eq_true (by omega)
              have hjp : j ≠ 0 := by omega
              have HJ0 := Lib.hid hjp; clear hjp hj0
              go_upto_region 10 with fail
              rw [hwl.out, hbl.out.1]
              go_wp2_with fail
              refine (WByte_d HM.out.1 44 (by have := HCL.out; rw [List.length_append]; omega) (Nat.le_of_lt HM.out.2.2.1)).mono ?_
              rintro e w6 ⟨rfl, hi6, hb6, hk6⟩
              have H6 : Hid (IsB w6 w.heap.size w.heap.size (pre ++ labsL ((x.f1.map lbM).take j) ++ [44]) ∧ Below w.heap.size w w6 ∧ w.heap.size < w6.heap.size ∧ w6.heap[bx]? = some (.cells #[.string x.f0, .slice (some ad1) n1 c1, .int .u64 x.f2] 43) ∧ w6.heap[bl]? = some (.cells #[.string y.f0, .string y.f1] 71)) :=
                ⟨hi6, HM.out.2.1.trans hb6, by have := HM.out.2.2.1; have := hb6.size; omega, hk6.cell HM.out.2.2.2.1 (by decide) hbx.out.2, hk6.cell HM.out.2.2.2.2 (by decide) hbl.out.2⟩
              clear hi6 hb6 hk6
              have r0 : w6.cell? ⟨bl, 0, none⟩ = some (.string y.f0) := by rw [cellB H6.out.2.2.2.2]; rfl
              have HWS := Lib.hid (WString_d H6.out.1 sy (by have := HCL.out; simp only [List.length_append, List.length_cons, List.length_nil]; omega) (by rw [hsy.out.2.2]; have := HYS.out; omega) (Nat.le_of_lt H6.out.2.2.1))
              go_wp2_with fail
              rw [hsy.out.1]
              refine HWS.out.mono ?_
              rintro e w7 ⟨rfl, hi7, hb7, hk7⟩
              have H7 : Hid (IsB w7 w.heap.size w.heap.size ((pre ++ labsL ((x.f1.map lbM).take j) ++ [44]) ++ (y.f0.data.toList ++ [61])) ∧ Below w.heap.size w w7 ∧ w.heap.size < w7.heap.size ∧ w7.heap[bx]? = some (.cells #[.string x.f0, .slice (some ad1) n1 c1, .int .u64 x.f2] 43) ∧ w7.heap[bl]? = some (.cells #[.string y.f0, .string y.f1] 71)) :=
                ⟨by rw [← hsy.out.2.1]; exact hi7, H6.out.2.1.trans hb7, by have := H6.out.2.2.1; have := hb7.size; omega, hk7.cell H6.out.2.2.2.1 (by decide) hbx.out.2, hk7.cell H6.out.2.2.2.2 (by decide) hbl.out.2⟩
              clear hi7 hb7 hk7 r0
              have r1 : w7.cell? ⟨bl, 1, none⟩ = some (.string y.f1) := by rw [cellB H7.out.2.2.2.2]; rfl
              go_wp2_with fail
              refine (quote_c w7 w.heap.size w.heap.size _ y.f1 H7.out.1 (Nat.le_of_lt H7.out.2.2.1) (by have h1 := HCL.out; have h2 := HYS.out; have h3 : y.f0.data.toList.length = y.f0.size := rfl; simp only [List.length_append, List.length_cons, List.length_nil, h3]; omega)).mono ?_
              rintro e w8 ⟨⟨_, rfl⟩, hi8, hb8, hk8⟩
              have H8 : Hid (IsB w8 w.heap.size w.heap.size (pre ++ labsL ((x.f1.map lbM).take (j + 1))) ∧ Below w.heap.size w w8 ∧ w.heap.size < w8.heap.size ∧ w8.heap[bx]? = some (.cells #[.string x.f0, .slice (some ad1) n1 c1, .int .u64 x.f2] 43)) := by
                refine ⟨?_, H7.out.2.1.trans hb8, by have := H7.out.2.2.1; have := hb8.size; omega, hk8.cell H7.out.2.2.2.1 (by decide) hbx.out.2⟩
                rw [HLT.out]
                simpa [labL, lbM, HJ0.out] using hi8
              clear hi8 hb8 hk8 r1
              go_wp2_with fail
              go_roundw
              case rel => exact ⟨j + 1, by go_num, by omega, H8⟩
              case measure => simp [intOf]; omega
          · obtain rfl : j = n1 := by omega
            obtain ⟨u, hu⟩ : ∃ u : Nat, Hid (x.f2 = (u : Int) ∧ u < 18446744073709551616 ∧ x.f2.toNat = u) := ⟨x.f2.toNat, by have := HX.out.1; omega, by have := HX.out.1; omega, rfl⟩
            have HJ2 : Hid (IsB wr w.heap.size w.heap.size (pre ++ labsL (x.f1.map lbM))) := by
              have h1 := HJ.out.1
              rwa [List.take_of_length_le (by rw [List.length_map, hn1.out]; exact Nat.le_refl _)] at h1
            have p2 : wr.cell? ⟨bx, 2, none⟩ = some (.int .u64 u) := by rw [cellB HJ.out.2.2.2, ← hu.out.1]; rfl
            have HFU := Lib.hid (FormatUint_c u hu.out.2.1 wr (HL.out.below HJ.out.2.1).1)
            obtain ⟨sn, hsn⟩ : ∃ sn : ByteArray, Hid (strV (Lib.decDigits u) = .string sn ∧ sn.data.toList = Lib.decDigits u ∧ sn.size ≤ 20) := ⟨⟨(Lib.decDigits u).toArray⟩, rfl, rfl, dec_len20 u hu.out.2.1⟩
            rw [hsn.out.1] at HFU
            have hs1 : ¬ (9223372036854775807 < 2 + sn.size) := by have := hsn.out.2.2; omega
            have hs2 : ¬ (9223372036854775807 < 2 + sn.size + 1) := by have := hsn.out.2.2; omega
            obtain ⟨st, hst⟩ : ∃ st, Hid ((⟨#[125, 32]⟩ ++ sn ++ ⟨#[10]⟩ : ByteArray) = st ∧ st.data.toList = 125 :: 32 :: (Lib.decDigits u ++ [10]) ∧ st.size ≤ 23) := ⟨_, rfl, by simp [hsn.out.2.1], by rw [ByteArray.size_append, ByteArray.size_append]; have := hsn.out.2.2; show 2 + sn.size + 1 ≤ 23; omega⟩
            go_wp2_with fail
            refine HFU.out.mono ?_
            rintro e w5 ⟨rfl, hb5⟩
            have H5 : Hid (IsB w5 w.heap.size w.heap.size (pre ++ labsL (x.f1.map lbM)) ∧ Below w.heap.size w w5 ∧ w.heap.size < w5.heap.size) := ⟨isB_below HJ2.out hb5, HJ.out.2.1.trans (hb5.mono HJ.out.2.1.size), by have := HJ.out.2.2.1; have := hb5.size; omega⟩
            clear hb5 p2 HFU
            have HWS := Lib.hid (WString_d H5.out.1 st (by have := hpre.out.2; rw [List.length_append]; omega) (by have := hst.out.2.2; omega) (Nat.le_of_lt H5.out.2.2))
            go_wp2_with fail
            rw [hst.out.1]
            refine HWS.out.mono ?_
            rintro e w6 ⟨rfl, hi6, hb6, _⟩
            have H6 : Hid (IsB w6 w.heap.size w.heap.size (printP ((xs.take (k + 1)).map lnM)) ∧ Below w.heap.size w w6 ∧ w.heap.size < w6.heap.size) := by
              refine ⟨?_, H5.out.2.1.trans hb6, by have := H5.out.2.2; have := hb6.size; omega⟩
              rw [HPT.out, if_pos (by trivial)]
              rw [hst.out.2.1, ← hpre.out.1] at hi6
              have e : printP ((xs.take k).map lnM) ++ lineP (lnM x) = printP ((xs.take k).map lnM) ++ (x.f0.data.toList ++ [123]) ++ labsL (x.f1.map lbM) ++ 125 :: 32 :: (Lib.decDigits u ++ [10]) := by
                simp [lineP, lnM, hu.out.2.2]
              rw [e]; exact hi6
            clear hi6 hb6 HWS
            go_wp2_with fail
            go_roundw
            case rel => exact ⟨k + 1, by go_num, by omega, H6⟩
            case measure => simp [intOf]; omega
    · obtain rfl : k = n := by omega
      have HI : Hid (IsB wr w.heap.size w.heap.size (printP (xs.map lnM))) := by
        have h1 := HW.out.1
        rwa [List.take_of_length_le (by rw [HN.out]; exact Nat.le_refl _)] at h1
      have HS := Lib.hid (BStr_c HI.out (Nat.le_of_lt HW.out.2.2))
      go_wp2_with fail
      refine HS.out.mono ?_
      rintro e w5 ⟨rfl, hb5⟩
      have HB5 := Lib.hid (HW.out.2.1.trans hb5); clear hb5
      go_wp2_with fail
      go_ret
      exact ⟨rfl, HB5.out⟩
end Go.Proofs.YtdbmcikoiilanaaDoor.Xp
set_option linter.unusedVariables false
set_option linter.unusedSimpArgs false
namespace Go.Proofs.YtdbmcikoiilanaaDoor.Xp
open Go.RowKit Go.Proofs.YtdbmcikoiilanaaDoor.B0 Go.Proofs.YtdbmcikoiilanaaDoorW.PrintWords Go.Proofs.YtdbmcikoiilanaaDoor.Bld Go.Proofs.YtdbmcikoiilanaaDoor.Pp Go.Proofs.YtdbmcikoiilanaaDoor.Bl2

/-- the reader at block R: what is left, and whether something was wrong. -/
def RD (w : World) (R : Nat) (s : ByteArray) (b : Bool) : Prop := w.heap[R]? = some (.cells #[.string s, .bool b] 87 (0, 0))
theorem RD.c0 {w : World} {R : Nat} {s : ByteArray} {b : Bool} (h : RD w R s b) : w.cell? ⟨R, 0, none⟩ = some (.string s) := by rw [cellB h]; rfl
theorem RD.c1 {w : World} {R : Nat} {s : ByteArray} {b : Bool} (h : RD w R s b) : w.cell? ⟨R, 1, none⟩ = some (.bool b) := by rw [cellB h]; rfl
theorem RD.f {w : World} {R : Nat} {s : ByteArray} {b : Bool} (h : RD w R s b) (o : Nat) : w.frozen? ⟨R, o, none⟩ = false := frozenB h o
theorem RD.set0 {w : World} {R : Nat} {s : ByteArray} {b : Bool} (h : RD w R s b) (s' : ByteArray) : RD (w.setCell ⟨R, 0, none⟩ (.string s')) R s' b := by
  have := setB h 0 (.string s'); exact this
theorem RD.set1 {w : World} {R : Nat} {s : ByteArray} {b : Bool} (h : RD w R s b) (b' : Bool) : RD (w.setCell ⟨R, 1, none⟩ (.bool b')) R s b' := by
  have := setB h 1 (.bool b'); exact this
theorem FR.set (w : World) (R o : Nat) (v : Value) : Fr [R] w (w.setCell ⟨R, o, none⟩ v) := (Fr.refl [R] w).setCell (p := ⟨R, o, none⟩) (.inl (List.mem_singleton.2 rfl)) v

theorem ext_from (s : ByteArray) (i : Nat) : (s.extract i s.size).data.toList = s.data.toList.drop i := by
  rw [ByteArray.data_extract, Array.toList_extract]
  simp only [List.extract_eq_take_drop]
  exact List.take_of_length_le (by rw [List.length_drop]; show s.data.toList.length - i ≤ s.size - i; exact Nat.le_refl _)
theorem ext_to (s : ByteArray) (i : Nat) : (s.extract 0 i).data.toList = s.data.toList.take i := by
  rw [ByteArray.data_extract, Array.toList_extract]
  simp only [List.extract_eq_take_drop, List.drop_zero, Nat.sub_zero]
set_option maxHeartbeats 4000000 in
set_option maxRecDepth 100000 in
theorem next_c (w : World) (R : Nat) (s : ByteArray) (b : Bool) (h : RD w R s b) (c : UInt8) :
    Calls Tryd.prog 37 #[.pointer (some ⟨R, 0, none⟩), .int .u8 c.toNat] w fun e w' => ∃ ok s', e = .returned (.bool ok) ∧ RD w' R s' b ∧ Fr [R] w w' ∧
      ((b = false ∧ ok = true ∧ nextM c s.data.toList = some s'.data.toList) ∨ ((b = true ∨ nextM c s.data.toList = none) ∧ ok = false ∧ s' = s)) := by
  have h0 := h.c0; have h1 := h.c1; have hf := h.f 0
  have HD := Lib.hid h; clear h
  cases b
  · rcases hs : s.data.toList with _ | ⟨a, r⟩
    · have hq : (s.toList == []) = true := by rw [ByteArray.toList_eq, hs]; rfl
      clear hs
      go_enter Tryd.func37, Tryd.ntmps37
      go_wp2_with fail
      go_ret
      exact ⟨false, s, rfl, HD.out, Fr.refl _ _, .inr ⟨.inr rfl, rfl, rfl⟩⟩
    · have hq : (s.toList == []) = false := by rw [ByteArray.toList_eq, hs]; rfl
      have hpos : 0 < s.size := by
        rw [Lib.size_eq, hs]; simp
      have hget : ∀ h : 0 < s.size, s[0]'h = a := fun h => by
        have e : s.data.toList[0]? = some a := by rw [hs]; rfl
        obtain ⟨_, e2⟩ := List.getElem?_eq_some_iff.1 e
        exact e2
      have HS := Lib.hid hs; clear hs
      by_cases hac : a = c
      · subst hac
        have hne : ((a.toNat : Int) == (a.toNat : Int)) = true := by simp
        go_enter Tryd.func37, Tryd.ntmps37
        go_wp2_with fail
        go_ret
        exact ⟨true, s.extract 1 s.size, rfl, HD.out.set0 _, FR.set _ _ _ _, .inl ⟨by trivial, rfl, by rw [ext_from, HS.out]; simp [nextM]⟩⟩
      · have hne : ((a.toNat : Int) == (c.toNat : Int)) = false := by
          rw [beq_eq_false_iff_ne]; intro e; exact hac (UInt8.toNat_inj.1 (by omega))
        go_enter Tryd.func37, Tryd.ntmps37
        go_wp2_with fail
        go_ret
        exact ⟨false, s, rfl, HD.out, Fr.refl _ _, .inr ⟨.inr (by rw [nextM, if_neg hac]), rfl, rfl⟩⟩
  · go_enter Tryd.func37, Tryd.ntmps37
    go_wp2_with fail
    go_ret
    exact ⟨false, s, rfl, HD.out, Fr.refl _ _, .inr ⟨.inl (by trivial), rfl, rfl⟩⟩
set_option maxHeartbeats 4000000 in
set_option maxRecDepth 100000 in
theorem until_d (w : World) (R : Nat) (s : ByteArray) (b : Bool) (h : RD w R s b) (c : UInt8) (hs : s.size ≤ 5000000) :
    Calls Tryd.prog 36 #[.pointer (some ⟨R, 0, none⟩), .int .u8 c.toNat] w fun e w' => ∃ wd s' b', e = .returned (.string wd) ∧ RD w' R s' b' ∧ Fr [R] w w' ∧
      wd.size ≤ s.size ∧ ((untilM c s.data.toList = some (wd.data.toList, s'.data.toList) ∧ b' = b) ∨ (untilM c s.data.toList = none ∧ b' = true ∧ s' = s)) := by
  have h0 := h.c0; have h1 := h.c1; have hf0 := h.f 0; have hf1 := h.f 1
  have HD := Lib.hid h; clear h
  have hcc : (c.toNat : Int).toNat.toUInt8 = c := by simp
  have HI := Lib.hid (Tryd.strings_IndexByte s c.toNat w)
  rw [hcc] at HI
  rcases until_index c s.data.toList with ⟨e1, e2⟩ | ⟨i, e1, hi, e2⟩
  · rw [e1] at HI
    rw [e2]
    clear e1 e2 hcc
    go_enter Tryd.func36, Tryd.ntmps36
    go_wp2_with fail
    refine HI.out.mono ?_
    rintro e w1 ⟨rfl, rfl⟩
    go_wp2_with fail
    go_ret
    exact ⟨⟨#[]⟩, s, true, rfl, HD.out.set1 _, FR.set _ _ _ _, Nat.zero_le _, .inr ⟨by trivial, rfl, rfl⟩⟩
  · rw [e1] at HI
    rw [e2]
    have hil : i < s.size := hi
    clear e1 e2 hcc hi
    have hq : decide ((i : Int) < 0) = false := decide_eq_false (by omega)
    have hii : (i : Int) ≤ s.size := by omega
    have hii1 : (i : Int) + 1 ≤ s.size := by omega
    go_enter Tryd.func36, Tryd.ntmps36
    go_wp2_with fail
    refine HI.out.mono ?_
    rintro e w1 ⟨rfl, rfl⟩
    go_wp2_with fail
    go_ret
    exact ⟨s.extract 0 i, s.extract (i + 1) s.size, b, rfl, HD.out.set0 _, FR.set _ _ _ _, by
      have h1 : (s.extract 0 i).data.toList.length = (s.extract 0 i).size := rfl
      rw [ext_to, List.length_take] at h1
      omega, .inl ⟨by rw [ext_from, ext_to], rfl⟩⟩
theorem until_c (w : World) (R : Nat) (s : ByteArray) (b : Bool) (h : RD w R s b) (c : UInt8) (hs : s.size ≤ 5000000) :
    Calls Tryd.prog 36 #[.pointer (some ⟨R, 0, none⟩), .int .u8 c.toNat] w fun e w' => ∃ wd s' b', e = .returned (.string wd) ∧ RD w' R s' b' ∧ Fr [R] w w' ∧
      ((untilM c s.data.toList = some (wd.data.toList, s'.data.toList) ∧ b' = b) ∨ (untilM c s.data.toList = none ∧ b' = true ∧ s' = s)) :=
  (until_d w R s b h c hs).mono fun _ _ ⟨wd, s', b', h1, h2, h3, _, h4⟩ => ⟨wd, s', b', h1, h2, h3, h4⟩
end Go.Proofs.YtdbmcikoiilanaaDoor.Xp
set_option linter.unusedVariables false
set_option linter.unusedSimpArgs false
namespace Go.Proofs.YtdbmcikoiilanaaDoor.Xp
open Go.RowKit Go.Proofs.YtdbmcikoiilanaaDoor.B0 Go.Proofs.YtdbmcikoiilanaaDoorW.PrintWords Go.Proofs.YtdbmcikoiilanaaDoor.Bld Go.Proofs.YtdbmcikoiilanaaDoor.Pp Go.Proofs.YtdbmcikoiilanaaDoor.Bl2

theorem Fr.then_below {F : List Nat} {a b c : World} {B : Nat} (h : Fr F a b) (k : Below B b c) (hB : a.heap.size ≤ B) : Fr F a c :=
  ⟨k.os.trans h.os, k.tape.trans h.tape, k.output.trans h.output, Nat.le_trans h.size k.size, fun i hi hn => (k.block i (by omega)).trans (h.block i hi hn)⟩
theorem isB_setR {w : World} {B b R : Nat} {l : BL} (h : IsB w B b l) (hR : R < B) (o : Nat) (v : Value) : IsB (w.setCell ⟨R, o, none⟩ v) B b l := by
  have key : ∀ p, Lib.BuilderAt 75 5 B b p (Lib.byteCells l) w → Lib.BuilderAt 75 5 B b p (Lib.byteCells l) (w.setCell ⟨R, o, none⟩ v) := by
    rintro p ⟨h1, u, h2, h3, h4⟩
    refine ⟨h1, u, (setO w ⟨R, o, none⟩ v (by show b ≠ R; omega)).trans h2, own_move h3 (fun k hk => setO w ⟨R, o, none⟩ v ?_), h4⟩
    have := own_base h3 k hk
    show k ≠ R
    omega
  rcases h with h | h
  · exact .inl (key _ h)
  · exact .inr (key _ h)
def rdSize (w : World) (R : Nat) : Nat := match w.cell? ⟨R, 0, none⟩ with | some (.string x) => x.size | _ => 0
theorem rdSize_of {w : World} {R : Nat} {s : ByteArray} {b : Bool} (h : RD w R s b) : rdSize w R = s.size := by unfold rdSize; rw [h.c0]
theorem RD.keep {w w' : World} {R B : Nat} {s : ByteArray} {b : Bool} (h : RD w R s b) (hb : Below B w w') (hR : R < B) : RD w' R s b := (hb.block R hR).trans h

/-- how quoted ends. -/
def QPost (b : Bool) (s t s' : ByteArray) (b' : Bool) : Prop := (b = false ∧ quotedM s.data.toList = some (t.data.toList, s'.data.toList) ∧ b' = false) ∨ ((b = true ∨ quotedM s.data.toList = none) ∧ b' = true)
set_option maxHeartbeats 8000000 in
set_option maxRecDepth 100000 in
theorem quoted_c (w : World) (R : Nat) (s : ByteArray) (b : Bool) (h : RD w R s b) (hs : s.size ≤ 5000000) :
    Calls Tryd.prog 38 #[.pointer (some ⟨R, 0, none⟩)] w fun e w' => ∃ t s' b', e = .returned (.string t) ∧ RD w' R s' b' ∧ Fr [R] w w' ∧ s'.size ≤ s.size ∧ QPost b s t s' b' := by
  have HD := Lib.hid h
  have hRw := lt_of_get h
  clear h
  have HNX := Lib.hid (next_c w R s b HD.out 34)
  go_enter Tryd.func38, Tryd.ntmps38
  go_wp2_with fail
  refine HNX.out.mono ?_
  rintro e w1 ⟨ok, s1, rfl, hd1, hf1, hc1⟩
  have H1 : Hid (RD w1 R s1 b ∧ Fr [R] w w1) := ⟨hd1, hf1⟩
  have HC1 := Lib.hid hc1
  clear hd1 hf1 hc1 HNX
  have c1 := H1.out.1.c1; have fz1 := H1.out.1.f 1
  cases ok
  · -- the first byte is no quote, or something was wrong before
    have hq : b = true ∨ quotedM s.data.toList = none := by
      rcases HC1.out with ⟨_, h, _⟩ | ⟨h, _, _⟩
      · cases h
      · rcases h with h | h
        · exact .inl h
        · exact .inr (by unfold quotedM; rw [h]; rfl)
    have hs1 : s1 = s := by
      rcases HC1.out with ⟨_, h, _⟩ | ⟨_, _, h⟩
      · cases h
      · exact h
    subst hs1
    have HQ := Lib.hid hq
    obtain ⟨w2, hw2⟩ : ∃ w2, Hid (w1.setCell ⟨R, 1, none⟩ (.bool true) = w2) := ⟨_, Lib.hid rfl⟩
    have H2 : Hid (RD w2 R s1 true ∧ Fr [R] w w2) := ⟨by rw [← hw2.out]; exact H1.out.1.set1 _, by rw [← hw2.out]; exact H1.out.2.trans (FR.set _ _ _ _)⟩
    obtain ⟨w3, hw3⟩ : ∃ w3, Hid (w2.alloc (.cells #[.pointer none, .slice none 0 0] 75) = w3) := ⟨_, Lib.hid rfl⟩
    have H3 : Hid (RD w3 R s1 true ∧ Fr [R] w w3) := ⟨by rw [← hw3.out]; exact H2.out.1.keep ((Below.refl _ _).alloc (Nat.le_refl _) _) (lt_of_get H2.out.1), by rw [← hw3.out]; exact H2.out.2.alloc _⟩
    clear hq
    go_upto_region 2 with fail
    rw [hw2.out]
    go_upto_region 3 with fail
    rw [hw3.out]
    have g1 := H3.out.1.c1
    clear c1 fz1
    go_wp2_with fail
    go_loopw [4] (fun ev wr => ev = .bool false ∧ wr = w3) (fun _ _ => 0)
    case atStart => exact ⟨rfl, rfl⟩
    case round =>
      obtain ⟨rfl, rfl⟩ := hrel
      go_wp2_with fail
      go_ret
      exact ⟨⟨#[]⟩, s1, true, rfl, H3.out.1, H3.out.2, Nat.le_refl _, Or.inr ⟨HQ.out, rfl⟩⟩
  · have hb0 : b = false ∧ nextM 34 s.data.toList = some s1.data.toList := by
      rcases HC1.out with ⟨h1, _, h2⟩ | ⟨_, h, _⟩
      · exact ⟨h1, h2⟩
      · cases h
    obtain ⟨rfl, hn0⟩ := hb0
    have HQ : Hid (quotedM s.data.toList = quoM s1.data.toList false [] ∧ s1.size + 1 = s.size) := by
      refine ⟨by unfold quotedM; rw [hn0]; rfl, ?_⟩
      have := next_len _ _ _ hn0
      have h2 : s1.data.toList.length = s1.size := rfl
      have h3 : s.data.toList.length = s.size := rfl
      omega
    clear hn0
    obtain ⟨w2, hw2⟩ : ∃ w2, Hid (w1.setCell ⟨R, 1, none⟩ (.bool false) = w2) := ⟨_, Lib.hid rfl⟩
    have H2 : Hid (RD w2 R s1 false ∧ Fr [R] w w2) := ⟨by rw [← hw2.out]; exact H1.out.1.set1 _, by rw [← hw2.out]; exact H1.out.2.trans (FR.set _ _ _ _)⟩
    obtain ⟨bb, hbb⟩ : ∃ bb, Hid (w2.heap.size = bb ∧ w.heap.size ≤ bb ∧ R < bb) := ⟨_, rfl, H2.out.2.size, lt_of_get H2.out.1⟩
    obtain ⟨w3, hw3⟩ : ∃ w3, Hid (w2.alloc (.cells #[.pointer none, .slice none 0 0] 75) = w3) := ⟨_, Lib.hid rfl⟩
    have H3 : Hid (RD w3 R s1 false ∧ Fr [R] w w3 ∧ IsB w3 bb bb [] ∧ bb ≤ w3.heap.size) := ⟨by rw [← hw3.out]; exact H2.out.1.keep ((Below.refl _ _).alloc (Nat.le_refl _) _) (lt_of_get H2.out.1), by rw [← hw3.out]; exact H2.out.2.alloc _, by rw [← hw3.out, ← hbb.out.1]; exact IsB.new w2, by rw [← hw3.out, ← hbb.out.1, size_alloc]; omega⟩
    go_upto_region 2 with fail
    rw [hw2.out]
    go_upto_region 3 with fail
    rw [hw3.out, hbb.out.1]
    clear c1 fz1
    go_wp2_with fail
    go_loopw [4] (fun ev wr => ∃ ec : Bool, ev = .bool ec ∧ Hid (∃ (sr : ByteArray) (acc : BL), RD wr R sr false ∧ Fr [R] w wr ∧ IsB wr bb bb acc ∧ bb ≤ wr.heap.size ∧ acc.length + sr.size ≤ s.size ∧ quotedM s.data.toList = quoM sr.data.toList ec acc)) (fun _ wr => rdSize wr R)
    case atStart => exact ⟨false, rfl, s1, [], H3.out.1, H3.out.2.1, H3.out.2.2.1, H3.out.2.2.2, by have := HQ.out.2; simp only [List.length_nil]; omega, HQ.out.1⟩
    case round =>
      obtain ⟨ec, rfl, HO⟩ := hrel
      obtain ⟨sr, acc, hH⟩ := HO.out
      have HW := Lib.hid hH; clear hH HO
      have g0 := HW.out.1.c0; have g1 := HW.out.1.c1; have k0 := HW.out.1.f 0; have k1 := HW.out.1.f 1
      have hrs : rdSize wr R = sr.size := rdSize_of HW.out.1
      rcases hl : sr.data.toList with _ | ⟨c, r⟩
      · have hq : (sr.toList == []) = true := by rw [ByteArray.toList_eq, hl]; rfl
        have HN : Hid (quotedM s.data.toList = none) := by show _ = _; rw [HW.out.2.2.2.2.2, hl]; rfl
        clear hl
        go_wp2_with fail
        go_ret
        exact ⟨⟨#[]⟩, sr, true, rfl, HW.out.1.set1 _, HW.out.2.1.trans (FR.set _ _ _ _), by have := HW.out.2.2.2.2.1; omega, Or.inr ⟨.inr HN.out, rfl⟩⟩
      · have hq : (sr.toList == []) = false := by rw [ByteArray.toList_eq, hl]; rfl
        have hpos : 0 < sr.size := by rw [Lib.size_eq, hl]; simp
        have hget : ∀ h : 0 < sr.size, sr[0]'h = c := fun h => by
          have e : sr.data.toList[0]? = some c := by rw [hl]; rfl
          obtain ⟨_, e2⟩ := List.getElem?_eq_some_iff.1 e
          exact e2
        obtain ⟨s2, hs2⟩ : ∃ s2, Hid (sr.extract 1 sr.size = s2 ∧ s2.data.toList = r ∧ s2.size + 1 = sr.size) := ⟨_, rfl, by rw [ext_from, hl]; rfl, by
          have h1 : (sr.extract 1 sr.size).data.toList.length = (sr.extract 1 sr.size).size := rfl
          rw [ext_from, List.length_drop] at h1
          have h2 : sr.data.toList.length = sr.size := rfl
          omega⟩
        obtain ⟨w4, hw4⟩ : ∃ w4, Hid (wr.setCell ⟨R, 0, none⟩ (.string s2) = w4) := ⟨_, Lib.hid rfl⟩
        have H4 : Hid (RD w4 R s2 false ∧ Fr [R] w w4 ∧ IsB w4 bb bb acc ∧ bb ≤ w4.heap.size ∧ acc.length + s2.size + 1 ≤ s.size ∧ quotedM s.data.toList = quoM (c :: s2.data.toList) ec acc) := by
          refine ⟨by rw [← hw4.out]; exact HW.out.1.set0 _, by rw [← hw4.out]; exact HW.out.2.1.trans (FR.set _ _ _ _), by rw [← hw4.out]; exact isB_setR HW.out.2.2.1 hbb.out.2.2 _ _, by rw [← hw4.out, size_setCell]; exact HW.out.2.2.2.1, by have := HW.out.2.2.2.2.1; have := hs2.out.2.2; omega, ?_⟩
          rw [HW.out.2.2.2.2.2, hl, hs2.out.2.1]
        have HLl := Lib.hid hl; clear hl
        go_upto_region 9 with fail
        rw [hs2.out.1, hw4.out]
        clear g0 g1 k0 k1
        cases ec
        · by_cases h34 : c = 34
          · have f1 : ((c.toNat : Int) == 34) = true := by rw [h34]; rfl
            have HE : Hid (quotedM s.data.toList = some (acc, s2.data.toList)) := by show _ = _; rw [H4.out.2.2.2.2.2, quoM, if_pos h34]
            have HS := Lib.hid (BStr_c H4.out.2.2.1 H4.out.2.2.2.1)
            clear h34
            go_wp2_with fail
            refine HS.out.mono ?_
            rintro e w5 ⟨rfl, hb5⟩
            have H5 : Hid (RD w5 R s2 false ∧ Fr [R] w w5) := ⟨H4.out.1.keep hb5 hbb.out.2.2, Fr.then_below H4.out.2.1 hb5 hbb.out.2.1⟩
            clear hb5
            go_wp2_with fail
            go_ret
            exact ⟨⟨acc.toArray⟩, s2, false, rfl, H5.out.1, H5.out.2, by have := H4.out.2.2.2.2.1; omega, Or.inl ⟨rfl, by rw [HE.out], rfl⟩⟩
          · have f1 : ((c.toNat : Int) == 34) = false := by
              rw [beq_eq_false_iff_ne]; intro e; apply h34; apply UInt8.toNat_inj.1; have : (34 : UInt8).toNat = 34 := rfl; omega
            by_cases h92 : c = 92
            · have f2 : ((c.toNat : Int) == 92) = true := by rw [h92]; rfl
              have HE : Hid (quotedM s.data.toList = quoM s2.data.toList true acc) := by show _ = _; rw [H4.out.2.2.2.2.2, quoM, if_neg h34, if_pos h92]
              have hms : rdSize w4 R = s2.size := rdSize_of H4.out.1
              clear h34 h92
              go_wp2_with fail
              go_roundw
              case rel => exact ⟨true, rfl, s2, acc, H4.out.1, H4.out.2.1, H4.out.2.2.1, H4.out.2.2.2.1, by have := H4.out.2.2.2.2.1; omega, HE.out⟩
              case measure => rw [hms, hrs]; have := hs2.out.2.2; omega
            · have f2 : ((c.toNat : Int) == 92) = false := by
                rw [beq_eq_false_iff_ne]; intro e; apply h92; apply UInt8.toNat_inj.1; have : (92 : UInt8).toNat = 92 := rfl; omega
              have HE : Hid (quotedM s.data.toList = quoM s2.data.toList false (acc ++ [c])) := by show _ = _; rw [H4.out.2.2.2.2.2, quoM, if_neg h34, if_neg h92]
              have HA := Lib.hid (WByte_d H4.out.2.2.1 c (by have := H4.out.2.2.2.2.1; omega) H4.out.2.2.2.1)
              clear h34 h92
              go_wp2_with fail
              refine HA.out.mono ?_
              rintro e w5 ⟨rfl, hi5, hb5, _⟩
              have H5 : Hid (RD w5 R s2 false ∧ Fr [R] w w5 ∧ IsB w5 bb bb (acc ++ [c]) ∧ bb ≤ w5.heap.size) := ⟨H4.out.1.keep hb5 hbb.out.2.2, Fr.then_below H4.out.2.1 hb5 hbb.out.2.1, hi5, Nat.le_trans H4.out.2.2.2.1 hb5.size⟩
              clear hi5 hb5
              have hms : rdSize w5 R = s2.size := rdSize_of H5.out.1
              go_wp2_with fail
              go_roundw
              case rel => exact ⟨false, rfl, s2, acc ++ [c], H5.out.1, H5.out.2.1, H5.out.2.2.1, H5.out.2.2.2, by have := H4.out.2.2.2.2.1; rw [List.length_append, List.length_singleton]; omega, HE.out⟩
              case measure => rw [hms, hrs]; have := hs2.out.2.2; omega
        · by_cases h110 : c = 110
          · have f1 : ((c.toNat : Int) == 110) = true := by rw [h110]; rfl
            have HE : Hid (quotedM s.data.toList = quoM s2.data.toList false (acc ++ [10])) := by show _ = _; rw [H4.out.2.2.2.2.2, quoM, if_pos h110]
            have HA := Lib.hid (WByte_d H4.out.2.2.1 10 (by have := H4.out.2.2.2.2.1; omega) H4.out.2.2.2.1)
            clear h110
            go_wp2_with fail
            refine HA.out.mono ?_
            rintro e w5 ⟨rfl, hi5, hb5, _⟩
            have H5 : Hid (RD w5 R s2 false ∧ Fr [R] w w5 ∧ IsB w5 bb bb (acc ++ [10]) ∧ bb ≤ w5.heap.size) := ⟨H4.out.1.keep hb5 hbb.out.2.2, Fr.then_below H4.out.2.1 hb5 hbb.out.2.1, hi5, Nat.le_trans H4.out.2.2.2.1 hb5.size⟩
            clear hi5 hb5
            have hms : rdSize w5 R = s2.size := rdSize_of H5.out.1
            go_wp2_with fail
            go_roundw
            case rel => exact ⟨false, rfl, s2, acc ++ [10], H5.out.1, H5.out.2.1, H5.out.2.2.1, H5.out.2.2.2, by have := H4.out.2.2.2.2.1; rw [List.length_append, List.length_singleton]; omega, HE.out⟩
            case measure => rw [hms, hrs]; have := hs2.out.2.2; omega
          · have f1 : ((c.toNat : Int) == 110) = false := by
              rw [beq_eq_false_iff_ne]; intro e; apply h110; apply UInt8.toNat_inj.1; have : (110 : UInt8).toNat = 110 := rfl; omega
            have HE : Hid (quotedM s.data.toList = quoM s2.data.toList false (acc ++ [c])) := by show _ = _; rw [H4.out.2.2.2.2.2, quoM, if_neg h110]
            have HA := Lib.hid (WByte_d H4.out.2.2.1 c (by have := H4.out.2.2.2.2.1; omega) H4.out.2.2.2.1)
            clear h110
            go_wp2_with fail
            refine HA.out.mono ?_
            rintro e w5 ⟨rfl, hi5, hb5, _⟩
            have H5 : Hid (RD w5 R s2 false ∧ Fr [R] w w5 ∧ IsB w5 bb bb (acc ++ [c]) ∧ bb ≤ w5.heap.size) := ⟨H4.out.1.keep hb5 hbb.out.2.2, Fr.then_below H4.out.2.1 hb5 hbb.out.2.1, hi5, Nat.le_trans H4.out.2.2.2.1 hb5.size⟩
            clear hi5 hb5
            have hms : rdSize w5 R = s2.size := rdSize_of H5.out.1
            go_wp2_with fail
            go_roundw
            case rel => exact ⟨false, rfl, s2, acc ++ [c], H5.out.1, H5.out.2.1, H5.out.2.2.1, H5.out.2.2.2, by have := H4.out.2.2.2.2.1; rw [List.length_append, List.length_singleton]; omega, HE.out⟩
            case measure => rw [hms, hrs]; have := hs2.out.2.2; omega
end Go.Proofs.YtdbmcikoiilanaaDoor.Xp
