/- expo: right, as a Call. -/
import Derived.Test.YtdbmcikoiilanaaDoorXp5
import Derived.Test.YtdbmcikoiilanaaDoorPp0
set_option linter.unusedVariables false
set_option linter.unusedSimpArgs false
namespace Go.Proofs.YtdbmcikoiilanaaDoor.Xp
open Go.RowKit Go.Proofs.YtdbmcikoiilanaaDoor.B0 Go.Proofs.YtdbmcikoiilanaaDoorW.PrintWords Go.Proofs.YtdbmcikoiilanaaDoor.Bld Go.Proofs.YtdbmcikoiilanaaDoor.Pp

abbrev SLab := S71
abbrev SLin := S43
def lbM (y : SLab) : Lb := ⟨y.f0.data.toList, y.f1.data.toList⟩
def lnM (x : SLin) : Ln := ⟨x.f0.data.toList, x.f1.map lbM, x.f2.toNat⟩

set_option maxHeartbeats 4000000 in
set_option maxRecDepth 100000 in
theorem rightF_c (k t : ByteArray) (hk : k.size ≤ 200000000) (w : World) :
    Calls Tryd.prog 33 #[.agg #[.string k, .string t]] w fun e w' => e = .returned (.bool (!keyL k.data.toList)) ∧ Below w.heap.size w w' := by
  obtain ⟨w1, hw1⟩ : ∃ w1, Hid (w.alloc (.cells #[.string k, .string t] 71) = w1) := ⟨_, Lib.hid rfl⟩
  have HB : Hid (Below w.heap.size w w1) := by rw [← hw1.out]; exact (Below.refl _ _).alloc (Nat.le_refl _) _
  have HK := Lib.hid (Key_c k hk w1)
  go_enter Tryd.func33, Tryd.ntmps33
  go_wp2_with fail
  rw [hw1.out]
  refine HK.out.mono ?_
  rintro e w2 ⟨rfl, hb⟩
  have HB2 := Lib.hid (HB.out.trans (hb.mono HB.out.size)); clear hb
  go_wp2_with fail
  go_ret
  exact ⟨rfl, HB2.out⟩

set_option maxHeartbeats 4000000 in
set_option maxRecDepth 100000 in
theorem IndexFunc_c (A : Option Addr) (c : Nat) (xs : List SLab) (w : World) (hC : Kd.C k71 w A xs.length xs) (hs : ∀ y ∈ xs, y.f0.size ≤ 200000000) (hl : xs.length ≤ 200000000) :
    Calls Tryd.prog 41 #[.slice A xs.length c, .func (.func 33) #[] #[]] w fun e w' =>
      ∃ r : Int, e = .returned (.int .i64 r) ∧ ((r = -1 ∧ (xs.all fun y => keyL y.f0.data.toList) = true) ∨ (0 ≤ r ∧ (xs.all fun y => keyL y.f0.data.toList) = false)) ∧ Below w.heap.size w w' := by
  obtain ⟨n, hn⟩ : ∃ n, xs.length = n := ⟨_, rfl⟩
  rw [hn] at hC ⊢
  have HN := Lib.hid hn
  rw [hn] at hl
  clear hn
  have HC := Lib.hid hC; clear hC
  have HS := Lib.hid hs; clear hs
  have hw0 : IntKind.i64.wrap 0 = 0 := by decide
  go_enter Tryd.func41, Tryd.ntmps41
  go_wp2_with fail
  go_loopw [8] (fun iv wr => ∃ k : Nat, iv = .int .i64 k ∧ k ≤ n ∧ Hid (Below w.heap.size w wr ∧ ((xs.take k).all fun y => keyL y.f0.data.toList) = true)) (fun iv _ => n - (intOf iv).toNat)
  case atStart => exact ⟨0, rfl, Nat.zero_le _, Below.refl _ _, rfl⟩
  case round =>
    obtain ⟨k, rfl, hk, HW⟩ := hrel
    by_cases hlt : k < n
    · have hki : (k : Int) < (n : Int) := by omega
      have hkl : k < xs.length := by rw [HN.out]; exact hlt
      obtain ⟨ad, rfl, d0, d1⟩ := at_T71 (Kd.C_below HC.out HW.out.1) k (by omega) (by omega)
      rw [show ((k : Int)).toNat = k from by omega] at d0 d1
      obtain ⟨y, hy⟩ : ∃ y, Hid (rd_T71 xs k = y ∧ xs[k] = y) := ⟨_, rfl, by unfold rd_T71; rw [show ((k : Int)).toNat = k from by omega, List.getD_eq_getElem?_getD, List.getElem?_eq_getElem hkl]; rfl⟩
      rw [hy.out.1] at d0 d1
      have HY : Hid (y.f0.size ≤ 200000000 ∧ ((xs.take (k + 1)).all fun y => keyL y.f0.data.toList) = keyL y.f0.data.toList) := by
        refine ⟨by rw [← hy.out.2]; exact HS.out _ (List.getElem_mem _), ?_⟩
        rw [List.take_succ_eq_append_getElem hkl, List.all_append, HW.out.2, hy.out.2]; simp
      have HF := Lib.hid (rightF_c y.f0 y.f1 HY.out.1 wr)
      go_wp2_with fail
      refine HF.out.mono ?_
      rintro e w2 ⟨rfl, hb⟩
      have HB2 := Lib.hid (HW.out.1.trans (hb.mono HW.out.1.size)); clear hb HF
      rcases Bool.eq_false_or_eq_true (keyL y.f0.data.toList) with hq | hq
      · rw [hq]
        have HQ : Hid (((xs.take (k + 1)).all fun y => keyL y.f0.data.toList) = true) := by show _ = _; rw [HY.out.2, hq]
        clear hq d0 d1
        go_wp2_with fail
        go_roundw
        case rel => exact ⟨k + 1, by go_num, by omega, HB2.out, HQ.out⟩
        case measure => simp [intOf]; omega
      · rw [hq]
        have HQ : Hid ((xs.all fun y => keyL y.f0.data.toList) = false) := by
          show _ = _
          have h1 := HY.out.2; rw [hq] at h1
          rw [List.all_eq_false] at h1 ⊢
          obtain ⟨z, hz, h2⟩ := h1
          exact ⟨z, List.mem_of_mem_take hz, h2⟩
        clear hq d0 d1
        go_wp2_with fail
        go_ret
        exact ⟨k, rfl, .inr ⟨by omega, HQ.out⟩, HB2.out⟩
    · obtain rfl : k = n := by omega
      have HQ : Hid ((xs.all fun y => keyL y.f0.data.toList) = true) := by
        show _ = _
        have h1 := HW.out.2; rwa [List.take_of_length_le (by rw [HN.out]; omega)] at h1
      go_wp2_with fail
      go_ret
      exact ⟨-1, rfl, .inl ⟨rfl, HQ.out⟩, HW.out.1⟩

set_option maxHeartbeats 4000000 in
set_option maxRecDepth 100000 in
theorem Contains_c (A : Option Addr) (c : Nat) (xs : List SLab) (w : World) (hC : Kd.C k71 w A xs.length xs) (hs : ∀ y ∈ xs, y.f0.size ≤ 200000000) (hl : xs.length ≤ 200000000) :
    Calls Tryd.prog 32 #[.slice A xs.length c, .func (.func 33) #[] #[]] w fun e w' =>
      e = .returned (.bool (!xs.all fun y => keyL y.f0.data.toList)) ∧ Below w.heap.size w w' := by
  have HI := Lib.hid (IndexFunc_c A c xs w hC hs hl); clear hC hs
  obtain ⟨n, hn⟩ : ∃ n, xs.length = n := ⟨_, rfl⟩
  obtain ⟨q, hq⟩ : ∃ q, (xs.all fun y => keyL y.f0.data.toList) = q := ⟨_, rfl⟩
  rw [hn, hq] at HI
  rw [hn, hq]
  clear hn hl hq
  go_enter Tryd.func32, Tryd.ntmps32
  go_wp2_with fail
  refine HI.out.mono ?_
  rintro e w2 ⟨r, rfl, h, hb⟩
  have HB := Lib.hid hb; clear hb
  rcases h with ⟨rfl, rfl⟩ | ⟨h0, rfl⟩
  · go_wp2_with fail
    go_ret
    exact ⟨rfl, HB.out⟩
  · have hq : decide ((0 : Int) ≤ r) = true := decide_eq_true h0
    go_wp2_with fail
    go_ret
    exact ⟨rfl, HB.out⟩

theorem right_model (x : SLin) : rightL (lnM x) = (keyL x.f0.data.toList && x.f1.all fun y => keyL y.f0.data.toList) := by
  simp [rightL, lnM, lbM, List.all_map, Function.comp_def]
set_option maxHeartbeats 4000000 in
set_option maxRecDepth 100000 in
theorem right_c (x : SLin) (A : Option Addr) (c : Nat) (w : World) (hC : Kd.C k71 w A x.f1.length x.f1) (hs : ∀ y ∈ x.f1, y.f0.size ≤ 200000000) (hl : x.f1.length ≤ 200000000) (h0 : x.f0.size ≤ 200000000) :
    Calls Tryd.prog 19 #[.agg #[.string x.f0, .slice A x.f1.length c, .int .u64 x.f2]] w fun e w' => e = .returned (.bool (rightL (lnM x))) ∧ Below w.heap.size w w' := by
  rw [right_model]
  obtain ⟨k, xs, v⟩ := x
  dsimp only at hC hs hl h0 ⊢
  obtain ⟨n, hn⟩ : ∃ n, xs.length = n := ⟨_, rfl⟩
  obtain ⟨w1, hw1⟩ : ∃ w1, Hid (w.alloc (.cells #[.string k, .slice A n c, .int .u64 v] 43) = w1) := ⟨_, Lib.hid rfl⟩
  have hb1 : Below w.heap.size w w1 := by rw [← hw1.out]; exact (Below.refl _ _).alloc (Nat.le_refl _) _
  have hx1 : w1.heap[w.heap.size]? = some (.cells #[.string k, .slice A n c, .int .u64 v] 43) := by rw [← hw1.out]; exact allocN _ _
  have HK := Lib.hid (Key_c k h0 w1)
  have HCT : Hid (∀ w2, Below w1.heap.size w1 w2 → Calls Tryd.prog 32 #[.slice A n c, .func (.func 33) #[] #[]] w2 fun e w' =>
      e = .returned (.bool (!xs.all fun y => keyL y.f0.data.toList)) ∧ Below w2.heap.size w2 w') := fun w2 hb => by
    have := Contains_c A c xs w2 (Kd.C_below (Kd.C_below hC hb1) hb) hs hl
    rw [hn] at this; exact this
  have HB := Lib.hid hb1
  have HX : Hid (∀ w2, Below w1.heap.size w1 w2 → w2.cell? ⟨w.heap.size, 1, none⟩ = some (.slice A n c)) := fun w2 h => pw_cell_below h (by rw [cellB hx1]; rfl)
  obtain ⟨q1, hq1⟩ : ∃ q, keyL k.data.toList = q := ⟨_, rfl⟩
  obtain ⟨q2, hq2⟩ : ∃ q, (xs.all fun y => keyL y.f0.data.toList) = q := ⟨_, rfl⟩
  rw [hq1] at HK
  rw [hq2] at HCT
  rw [hn, hq1, hq2]
  clear hC hs hl h0 hb1 hx1 hn hq1 hq2
  go_enter Tryd.func19, Tryd.ntmps19
  go_wp2_with fail
  rw [hw1.out]
  refine HK.out.mono ?_
  rintro e w2 ⟨rfl, hb⟩
  have HB2 := Lib.hid hb; clear hb
  have hx2 := HX.out w2 HB2.out
  cases q1
  · have HB3 := Lib.hid (HB.out.trans (HB2.out.mono HB.out.size))
    go_wp2_with fail
    go_ret
    exact ⟨rfl, HB3.out⟩
  · go_wp2_with fail
    refine (HCT.out w2 HB2.out).mono ?_
    rintro e w3 ⟨rfl, hb⟩
    have HB3 := Lib.hid (HB.out.trans ((HB2.out.trans (hb.mono HB2.out.size)).mono HB.out.size)); clear hb
    go_wp2_with fail
    go_ret
    exact ⟨by cases q2 <;> rfl, HB3.out⟩
end Go.Proofs.YtdbmcikoiilanaaDoor.Xp
