/- expo: Print, as a Call. -/
import Derived.Test.YtdbmcikoiilanaaDoorXp7
set_option linter.unusedVariables false
set_option linter.unusedSimpArgs false
namespace Go.Proofs.YtdbmcikoiilanaaDoor.Xp
open Go.RowKit Go.Proofs.YtdbmcikoiilanaaDoor.B0 Go.Proofs.YtdbmcikoiilanaaDoorW.PrintWords Go.Proofs.YtdbmcikoiilanaaDoor.Bld Go.Proofs.YtdbmcikoiilanaaDoor.Pp Go.Proofs.YtdbmcikoiilanaaDoor.Bl2

theorem print_take (xs : List SLin) (k : Nat) (x : SLin) (h : xs[k]? = some x) : printP ((xs.take (k + 1)).map lnM) = printP ((xs.take k).map lnM) ++ (if rightL (lnM x) then lineP (lnM x) else []) := by
  obtain ⟨hl, e⟩ := List.getElem?_eq_some_iff.1 h
  rw [List.take_succ_eq_append_getElem hl, e, List.map_append, print_append]
  congr 1
  by_cases hr : rightL (lnM x) = true
  · simp [printP, hr]
  · simp [printP, hr]
theorem labs_take (ls : List Lb) (j : Nat) (y : Lb) (h : ls[j]? = some y) : labsL (ls.take (j + 1)) = labsL (ls.take j) ++ ((if j = 0 then [] else [44]) ++ labL y) := by
  obtain ⟨hl, e⟩ := List.getElem?_eq_some_iff.1 h
  cases ls with
  | nil => simp at hl
  | cons a r =>
    cases j with
    | zero => simp at h; subst h; simp [labsL]
    | succ j =>
      have hr : r[j]? = some y := by simpa using h
      obtain ⟨hl2, e2⟩ := List.getElem?_eq_some_iff.1 hr
      simp only [List.take_succ_cons, labsL]
      rw [List.take_succ_eq_append_getElem hl2, e2, List.flatMap_append]
      simp
theorem labs_take_le (ls : List Lb) (j : Nat) : (labsL (ls.take j)).length ≤ (labsL ls).length := by
  cases ls with
  | nil => simp
  | cons a r =>
    cases j with
    | zero => simp [labsL]
    | succ j =>
      simp only [List.take_succ_cons, labsL, List.length_append]
      have : ((r.take j).flatMap fun y => 44 :: labL y).length ≤ (r.flatMap fun y => 44 :: labL y).length := by
        conv => rhs; rw [← List.take_append_drop j r, List.flatMap_append, List.length_append]
        omega
      omega
theorem line_le (xs : List Ln) (x : Ln) (h : x ∈ xs) : (lineP x).length ≤ (xs.flatMap lineP).length := by
  obtain ⟨a, b, rfl⟩ := List.append_of_mem h
  simp only [List.flatMap_append, List.flatMap_cons, List.length_append]; omega
theorem take_le (xs : List SLin) (k : Nat) : (printP ((xs.take k).map lnM)).length ≤ ((xs.map lnM).flatMap lineP).length := by
  refine Nat.le_trans (filter_len _) ?_
  conv => rhs; rw [← List.take_append_drop k xs, List.map_append, List.flatMap_append, List.length_append]
  omega
theorem lab_in (ls : List Lb) (y : Lb) (h : y ∈ ls) : (labL y).length ≤ (labsL ls).length := by
  cases ls with
  | nil => simp at h
  | cons a r =>
    simp only [labsL, List.length_append]
    rcases List.mem_cons.1 h with rfl | h
    · omega
    · obtain ⟨p, q, rfl⟩ := List.append_of_mem h
      simp only [List.flatMap_append, List.flatMap_cons, List.length_append, List.length_cons]; omega
theorem esc_pos (c : UInt8) : 1 ≤ (esc c).length := by
  unfold esc
  by_cases h : c = 92 ∨ c = 34
  · rw [if_pos h]; simp
  · rw [if_neg h]
    by_cases h2 : c = 10
    · rw [if_pos h2]; simp
    · rw [if_neg h2]; simp
theorem lab_ge (y : Lb) : y.k.length + y.t.length + 3 ≤ (labL y).length := by
  have : ∀ (t : BL), t.length ≤ (t.flatMap esc).length := by
    intro t
    induction t with
    | nil => simp
    | cons c t ih => have := esc_pos c; simp only [List.flatMap_cons, List.length_append, List.length_cons]; omega
  have := this y.t
  simp only [labL, quoteL, List.length_append, List.length_cons, List.length_nil]; omega
theorem labs_count : ∀ (ls : List Lb), ls.length ≤ (labsL ls).length
  | [] => by simp
  | a :: r => by
    have h1 := lab_ge a
    have h2 := labs_len r
    simp only [labsL, List.length_append, List.length_cons]; omega

set_option maxHeartbeats 8000000 in
set_option maxRecDepth 100000 in
theorem Print_c (w : World) (h : LP w) (A : Option Addr) (c : Nat) (xs : List SLin) (hC : Kd.C k43 w A xs.length xs) (hv : ∀ x ∈ xs, 0 ≤ x.f2 ∧ x.f2 < 18446744073709551616) (hT : ((xs.map lnM).flatMap lineP).length ≤ 200000000) :
    Calls Tryd.prog 9 #[.slice A xs.length c] w fun e w' => e = .returned (strV (printP (xs.map lnM))) ∧ Below w.heap.size w w' := by
  obtain ⟨n, hn⟩ : ∃ n, xs.length = n := ⟨_, rfl⟩
  rw [hn] at hC ⊢
  have HN := Lib.hid hn; clear hn
  have HC := Lib.hid hC; have HV := Lib.hid hv; have HT := Lib.hid hT; have HL := Lib.hid h
  clear hC hv hT h
  have hnb : n ≤ 200000000 := by
    have h1 := flat_len (xs.map lnM)
    rw [List.length_map] at h1
    have := HT.out; have := HN.out; omega
  have hw0 : IntKind.i64.wrap 0 = 0 := by decide
  go_enter Tryd.func9, Tryd.ntmps9
  go_wp2_with fail
  go_loopw [10] (fun iv wr => ∃ k : Nat, iv = .int .i64 k ∧ k ≤ n ∧ Hid (IsB wr w.heap.size w.heap.size (printP ((xs.take k).map lnM)) ∧ Below w.heap.size w wr ∧ w.heap.size < wr.heap.size)) (fun iv _ => n - (intOf iv).toNat)
  case atStart => exact ⟨0, rfl, Nat.zero_le _, IsB.new w, (Below.refl _ _).alloc (Nat.le_refl _) _, by rw [size_alloc]; omega⟩
  case round =>
    obtain ⟨k, rfl, hk, HW⟩ := hrel
    by_cases hlt : k < n
    · have hki : (k : Int) < (n : Int) := by omega
      have hkl : k < xs.length := by rw [HN.out]; exact hlt
      obtain ⟨ad, A1, c1, rfl, d0, d1, d2, hl1, hi1⟩ := at_T43 HC.out k (by omega) (by omega)
      rw [show ((k : Int)).toNat = k from by omega] at d0 d1 d2
      obtain ⟨x, hx⟩ : ∃ x, Hid (rd_T43 xs k = x ∧ xs[k]? = some x) := ⟨_, rfl, by unfold rd_T43; rw [show ((k : Int)).toNat = k from by omega, List.getD_eq_getElem?_getD, List.getElem?_eq_getElem hkl]; rfl⟩
      rw [hx.out.1] at d0 d1 d2 hl1 hi1
      have hmem : x ∈ xs := List.mem_of_getElem? hx.out.2
      have HX : Hid ((0 ≤ x.f2 ∧ x.f2 < 18446744073709551616) ∧ (lineP (lnM x)).length ≤ 200000000) := ⟨HV.out x hmem, Nat.le_trans (line_le _ _ (List.mem_map_of_mem hmem)) HT.out⟩
      clear hmem hkl
      have d0' := pw_cell_below HW.out.2.1 d0
      have d1' := pw_cell_below HW.out.2.1 d1
      have d2' := pw_cell_below HW.out.2.1 d2
      obtain ⟨n1, hn1⟩ : ∃ n1, Hid (x.f1.length = n1) := ⟨_, Lib.hid rfl⟩
      rw [hn1.out] at d1 d1' hl1 hi1
      have HI1 := Lib.hid hi1
      clear hi1 hl1 d0 d1 d2
      obtain ⟨wm, hwm⟩ : ∃ wm, Hid (wr.alloc (.cells #[.string x.f0, .slice A1 n1 c1, .int .u64 x.f2] 43) = wm) := ⟨_, Lib.hid rfl⟩
      have hbm : Below wr.heap.size wr wm := by rw [← hwm.out]; exact (Below.refl _ _).alloc (Nat.le_refl _) _
      have hxm : wm.heap[wr.heap.size]? = some (.cells #[.string x.f0, .slice A1 n1 c1, .int .u64 x.f2] 43) := by rw [← hwm.out]; exact allocN _ _
      obtain ⟨bx, hbx⟩ : ∃ bx, Hid (wr.heap.size = bx ∧ bx ≠ w.heap.size) := ⟨_, rfl, by have := HW.out.2.2; omega⟩
      rw [hbx.out.1] at hxm
      have HM : Hid (IsB wm w.heap.size w.heap.size (printP ((xs.take k).map lnM)) ∧ Below w.heap.size w wm ∧ w.heap.size < wm.heap.size ∧ wm.heap[bx]? = some (.cells #[.string x.f0, .slice A1 n1 c1, .int .u64 x.f2] 43)) :=
        ⟨isB_below HW.out.1 hbm, HW.out.2.1.trans (hbm.mono HW.out.2.1.size), by have := HW.out.2.2; have := hbm.size; omega, hxm⟩
      clear hbm hxm
      have q0 : wm.cell? ⟨bx, 0, none⟩ = some (.string x.f0) := by rw [cellB HM.out.2.2.2]; rfl
      have q1 : wm.cell? ⟨bx, 1, none⟩ = some (.slice A1 n1 c1) := by rw [cellB HM.out.2.2.2]; rfl
      have q2 : wm.cell? ⟨bx, 2, none⟩ = some (.int .u64 x.f2) := by rw [cellB HM.out.2.2.2]; rfl
      have HSZ : Hid (x.f0.size ≤ 200000000 ∧ x.f1.length ≤ 200000000 ∧ ∀ y ∈ x.f1, y.f0.size + y.f1.size ≤ 200000000) := by
        have h1 : (lineP (lnM x)).length = x.f0.size + 1 + (labsL (x.f1.map lbM)).length + 2 + (Lib.decDigits x.f2.toNat).length + 1 := by
          simp only [lineP, lnM, List.length_append, List.length_cons, List.length_nil]
          show x.f0.size + _ = _
          omega
        have h2 := HX.out.2
        refine ⟨by omega, ?_, fun y hy => ?_⟩
        · have := labs_count (x.f1.map lbM); rw [List.length_map] at this; omega
        · have h3 := lab_in _ _ (List.mem_map_of_mem (f := lbM) hy)
          have h4 := lab_ge (lbM y)
          have h5 : (lbM y).k.length = y.f0.size ∧ (lbM y).t.length = y.f1.size := ⟨rfl, rfl⟩
          omega
      have HRC : Hid (Calls Tryd.prog 19 #[.agg #[.string x.f0, .slice A1 n1 c1, .int .u64 x.f2]] wm fun e w' => e = .returned (.bool (rightL (lnM x))) ∧ Below wm.heap.size wm w') := by
        have := right_c x A1 c1 wm (by rw [hn1.out]; exact Kd.C_below HI1.out HM.out.2.1) (fun y hy => by have := HSZ.out.2.2 y hy; omega) HSZ.out.2.1 HSZ.out.1
        rw [hn1.out] at this; exact this
      obtain ⟨rt, hrt⟩ : ∃ rt, Hid (rightL (lnM x) = rt) := ⟨_, Lib.hid rfl⟩
      rw [hrt.out] at HRC
      have HPT : Hid (printP ((xs.take (k + 1)).map lnM) = printP ((xs.take k).map lnM) ++ (if rt = true then lineP (lnM x) else [])) := by show _ = _; rw [print_take xs k x hx.out.2, hrt.out]
      go_upto_region 5 with fail
      rw [hwm.out, hbx.out.1]
      go_wp2_with fail
      refine HRC.out.mono ?_
      rintro e w2 ⟨rfl, hb2⟩
      have H2 : Hid (IsB w2 w.heap.size w.heap.size (printP ((xs.take k).map lnM)) ∧ Below w.heap.size w w2 ∧ w.heap.size < w2.heap.size ∧ w2.heap[bx]? = some (.cells #[.string x.f0, .slice A1 n1 c1, .int .u64 x.f2] 43)) :=
        ⟨isB_below HM.out.1 hb2, HM.out.2.1.trans (hb2.mono (Nat.le_of_lt HM.out.2.2.1)), by have := HM.out.2.2.1; have := hb2.size; omega, (hb2.block _ (lt_of_get HM.out.2.2.2)).trans HM.out.2.2.2⟩
      clear hb2 HM HRC q0 q1 q2 d0' d1' d2'
      cases rt
      · have HE : Hid (IsB w2 w.heap.size w.heap.size (printP ((xs.take (k + 1)).map lnM))) := by
          show IsB w2 _ _ _
          rw [HPT.out, if_neg (by simp), List.append_nil]; exact H2.out.1
        go_wp2_with fail
        go_roundw
        case rel => exact ⟨k + 1, by go_num, by omega, HE.out, H2.out.2.1, H2.out.2.2.1⟩
        case measure => simp [intOf]; omega
      · have p0 : w2.cell? ⟨bx, 0, none⟩ = some (.string x.f0) := by rw [cellB H2.out.2.2.2]; rfl
        have hsum : ¬ (9223372036854775807 < x.f0.size + 1) := by have := HSZ.out.1; omega
        obtain ⟨pre, hpre⟩ : ∃ pre, Hid (printP ((xs.take k).map lnM) ++ (x.f0.data.toList ++ [123]) = pre ∧ pre.length + (labsL (x.f1.map lbM)).length ≤ 200000000) := ⟨_, rfl, by
          have h1 := take_le xs (k + 1); have h2 := HT.out
          rw [HPT.out, if_pos rfl] at h1
          simp only [lineP, lnM, List.length_append, List.length_cons, List.length_nil] at h1 ⊢; omega⟩
        obtain ⟨s1, hs1⟩ : ∃ s1, Hid ((x.f0 ++ ⟨#[123]⟩ : ByteArray) = s1 ∧ s1.data.toList = x.f0.data.toList ++ [123] ∧ s1.size = x.f0.size + 1) := ⟨_, rfl, by simp, by rw [ByteArray.size_append]; rfl⟩
        have HWS := Lib.hid (WString_d H2.out.1 s1 (by have h1 := take_le xs k; have := HT.out; omega) (by rw [hs1.out.2.2]; have := HSZ.out.1; omega) (Nat.le_of_lt H2.out.2.2.1))
        go_wp2_with fail
        rw [hs1.out.1]
        refine HWS.out.mono ?_
        rintro e w3 ⟨rfl, hi3, hb3, hk3⟩
        have H3 : Hid (IsB w3 w.heap.size w.heap.size pre ∧ Below w.heap.size w w3 ∧ w.heap.size < w3.heap.size ∧ w3.heap[bx]? = some (.cells #[.string x.f0, .slice A1 n1 c1, .int .u64 x.f2] 43)) :=
          ⟨by rw [← hpre.out.1, ← hs1.out.2.1]; exact hi3, H2.out.2.1.trans hb3, by have := H2.out.2.2.1; have := hb3.size; omega, hk3.cell H2.out.2.2.2 (by decide) hbx.out.2⟩
        clear hi3 hb3 hk3 p0 HWS
        have p1 : w3.cell? ⟨bx, 1, none⟩ = some (.slice A1 n1 c1) := by rw [cellB H3.out.2.2.2]; rfl
        go_wp2_with fail
        clear p1
        have hn1b : n1 ≤ 200000000 := by have := HSZ.out.2.1; rw [hn1.out] at this; exact this
        go_loopw [24] (fun iv wr => ∃ j : Nat, iv = .int .i64 j ∧ j ≤ n1 ∧ Hid (IsB wr w.heap.size w.heap.size (pre ++ labsL ((x.f1.map lbM).take j)) ∧ Below w.heap.size w wr ∧ w.heap.size < wr.heap.size ∧ wr.heap[bx]? = some (.cells #[.string x.f0, .slice A1 n1 c1, .int .u64 x.f2] 43))) (fun iv _ => n1 - (intOf iv).toNat)
        case atStart => exact ⟨0, rfl, Nat.zero_le _, by simpa [labsL] using H3.out.1, H3.out.2⟩
        case round =>
          obtain ⟨j, rfl, hj, HJ⟩ := hrel
          by_cases hjl : j < n1
          · have hji : (j : Int) < (n1 : Int) := by omega
            obtain ⟨ad1, rfl, e0, e1⟩ := at_T71 (Kd.C_below HI1.out HJ.out.2.1) j (by omega) (by omega)
            rw [show ((j : Int)).toNat = j from by omega] at e0 e1
            obtain ⟨y, hy⟩ : ∃ y, Hid (rd_T71 x.f1 j = y ∧ x.f1[j]? = some y) := ⟨_, rfl, by unfold rd_T71; rw [show ((j : Int)).toNat = j from by omega, List.getD_eq_getElem?_getD, List.getElem?_eq_getElem (by rw [hn1.out]; exact hjl)]; rfl⟩
            rw [hy.out.1] at e0 e1
            have HYS : Hid (y.f0.size + y.f1.size ≤ 200000000) := HSZ.out.2.2 y (List.mem_of_getElem? hy.out.2)
            have HLT : Hid (labsL ((x.f1.map lbM).take (j + 1)) = labsL ((x.f1.map lbM).take j) ++ ((if j = 0 then [] else [44]) ++ labL (lbM y))) := labs_take _ j _ (by rw [List.getElem?_map, hy.out.2]; rfl)
            have HCL : Hid (pre.length + (labsL ((x.f1.map lbM).take j)).length ≤ 200000000) := by
              have h1 := labs_take_le (x.f1.map lbM) j
              have h4 := hpre.out.2
              show _ ≤ _
              omega
            obtain ⟨bl, hbl⟩ : ∃ bl, Hid (wr.heap.size = bl ∧ bl ≠ w.heap.size) := ⟨_, rfl, by have := HJ.out.2.2.1; omega⟩
            obtain ⟨wl, hwl⟩ : ∃ wl, Hid (wr.alloc (.cells #[.string y.f0, .string y.f1] 71) = wl) := ⟨_, Lib.hid rfl⟩
            have hbm : Below wr.heap.size wr wl := by rw [← hwl.out]; exact (Below.refl _ _).alloc (Nat.le_refl _) _
            have hxm : wl.heap[bl]? = some (.cells #[.string y.f0, .string y.f1] 71) := by rw [← hwl.out, ← hbl.out.1]; exact allocN _ _
            have HM : Hid (IsB wl w.heap.size w.heap.size (pre ++ labsL ((x.f1.map lbM).take j)) ∧ Below w.heap.size w wl ∧ w.heap.size < wl.heap.size ∧ wl.heap[bx]? = some (.cells #[.string x.f0, .slice (some ad1) n1 c1, .int .u64 x.f2] 43) ∧ wl.heap[bl]? = some (.cells #[.string y.f0, .string y.f1] 71)) :=
              ⟨isB_below HJ.out.1 hbm, HJ.out.2.1.trans (hbm.mono HJ.out.2.1.size), by have := HJ.out.2.2.1; have := hbm.size; omega, (hbm.block _ (lt_of_get HJ.out.2.2.2)).trans HJ.out.2.2.2, hxm⟩
            clear hbm hxm
            obtain ⟨sy, hsy⟩ : ∃ sy, Hid ((y.f0 ++ ⟨#[61]⟩ : ByteArray) = sy ∧ sy.data.toList = y.f0.data.toList ++ [61] ∧ sy.size = y.f0.size + 1) := ⟨_, rfl, by simp, by rw [ByteArray.size_append]; rfl⟩
            have hsum : ¬ (9223372036854775807 < y.f0.size + 1) := by have := HYS.out; omega
            rcases Nat.eq_zero_or_pos j with hj0 | hj0
            · have hz1 : decide ((0 : Int) < (j : Int)) = false := decide_eq_false (by omega)
              have hz2 : decide (0 < j) = false := decide_eq_false (by omega)
              have HJ0 := Lib.hid hj0; clear hj0
              go_upto_region 10 with fail
              rw [hwl.out, hbl.out.1]
              have r0 : wl.cell? ⟨bl, 0, none⟩ = some (.string y.f0) := by rw [cellB HM.out.2.2.2.2]; rfl
              have HWS := Lib.hid (WString_d HM.out.1 sy (by have := HCL.out; simp only [List.length_append, List.length_cons, List.length_nil]; omega) (by rw [hsy.out.2.2]; have := HYS.out; omega) (Nat.le_of_lt HM.out.2.2.1))
              go_wp2_with fail
              rw [hsy.out.1]
              refine HWS.out.mono ?_
              rintro e w7 ⟨rfl, hi7, hb7, hk7⟩
              have H7 : Hid (IsB w7 w.heap.size w.heap.size ((pre ++ labsL ((x.f1.map lbM).take j)) ++ (y.f0.data.toList ++ [61])) ∧ Below w.heap.size w w7 ∧ w.heap.size < w7.heap.size ∧ w7.heap[bx]? = some (.cells #[.string x.f0, .slice (some ad1) n1 c1, .int .u64 x.f2] 43) ∧ w7.heap[bl]? = some (.cells #[.string y.f0, .string y.f1] 71)) :=
                ⟨by rw [← hsy.out.2.1]; exact hi7, HM.out.2.1.trans hb7, by have := HM.out.2.2.1; have := hb7.size; omega, hk7.cell HM.out.2.2.2.1 (by decide) hbx.out.2, hk7.cell HM.out.2.2.2.2 (by decide) hbl.out.2⟩
              clear hi7 hb7 hk7 r0
              have r1 : w7.cell? ⟨bl, 1, none⟩ = some (.string y.f1) := by rw [cellB H7.out.2.2.2.2]; rfl
              go_wp2_with fail
              refine (quote_c w7 w.heap.size w.heap.size _ y.f1 H7.out.1 (Nat.le_of_lt H7.out.2.2.1) (by have h1 := HCL.out; have h2 := HYS.out; have h3 : y.f0.data.toList.length = y.f0.size := rfl; simp only [List.length_append, List.length_cons, List.length_nil, h3]; omega)).mono ?_
              rintro e w8 ⟨⟨_, rfl⟩, hi8, hb8, hk8⟩
              have H8 : Hid (IsB w8 w.heap.size w.heap.size (pre ++ labsL ((x.f1.map lbM).take (j + 1))) ∧ Below w.heap.size w w8 ∧ w.heap.size < w8.heap.size ∧ w8.heap[bx]? = some (.cells #[.string x.f0, .slice (some ad1) n1 c1, .int .u64 x.f2] 43)) := by
                refine ⟨?_, H7.out.2.1.trans hb8, by have := H7.out.2.2.1; have := hb8.size; omega, hk8.cell H7.out.2.2.2.1 (by decide) hbx.out.2⟩
                rw [HLT.out]
                simpa [labL, lbM, HJ0.out] using hi8
              clear hi8 hb8 hk8 r1
              go_wp2_with fail
              go_roundw
              case rel => exact ⟨j + 1, by go_num, by omega, H8⟩
              case measure => simp [intOf]; omega
            · have hz1 : decide ((0 : Int) < (j : Int)) = true := decide_eq_true (by omega)
              have hz2 : decide (0 < j) = true := decide_eq_true (by omega)
              have hjp : j ≠ 0 := by omega
              have HJ0 := Lib.hid hjp; clear hjp hj0
              go_upto_region 10 with fail
              rw [hwl.out, hbl.out.1]
              go_wp2_with fail
              refine (WByte_d HM.out.1 44 (by have := HCL.out; rw [List.length_append]; omega) (Nat.le_of_lt HM.out.2.2.1)).mono ?_
              rintro e w6 ⟨rfl, hi6, hb6, hk6⟩
              have H6 : Hid (IsB w6 w.heap.size w.heap.size (pre ++ labsL ((x.f1.map lbM).take j) ++ [44]) ∧ Below w.heap.size w w6 ∧ w.heap.size < w6.heap.size ∧ w6.heap[bx]? = some (.cells #[.string x.f0, .slice (some ad1) n1 c1, .int .u64 x.f2] 43) ∧ w6.heap[bl]? = some (.cells #[.string y.f0, .string y.f1] 71)) :=
                ⟨hi6, HM.out.2.1.trans hb6, by have := HM.out.2.2.1; have := hb6.size; omega, hk6.cell HM.out.2.2.2.1 (by decide) hbx.out.2, hk6.cell HM.out.2.2.2.2 (by decide) hbl.out.2⟩
              clear hi6 hb6 hk6
              have r0 : w6.cell? ⟨bl, 0, none⟩ = some (.string y.f0) := by rw [cellB H6.out.2.2.2.2]; rfl
              have HWS := Lib.hid (WString_d H6.out.1 sy (by have := HCL.out; simp only [List.length_append, List.length_cons, List.length_nil]; omega) (by rw [hsy.out.2.2]; have := HYS.out; omega) (Nat.le_of_lt H6.out.2.2.1))
              go_wp2_with fail
              rw [hsy.out.1]
              refine HWS.out.mono ?_
              rintro e w7 ⟨rfl, hi7, hb7, hk7⟩
              have H7 : Hid (IsB w7 w.heap.size w.heap.size ((pre ++ labsL ((x.f1.map lbM).take j) ++ [44]) ++ (y.f0.data.toList ++ [61])) ∧ Below w.heap.size w w7 ∧ w.heap.size < w7.heap.size ∧ w7.heap[bx]? = some (.cells #[.string x.f0, .slice (some ad1) n1 c1, .int .u64 x.f2] 43) ∧ w7.heap[bl]? = some (.cells #[.string y.f0, .string y.f1] 71)) :=
                ⟨by rw [← hsy.out.2.1]; exact hi7, H6.out.2.1.trans hb7, by have := H6.out.2.2.1; have := hb7.size; omega, hk7.cell H6.out.2.2.2.1 (by decide) hbx.out.2, hk7.cell H6.out.2.2.2.2 (by decide) hbl.out.2⟩
              clear hi7 hb7 hk7 r0
              have r1 : w7.cell? ⟨bl, 1, none⟩ = some (.string y.f1) := by rw [cellB H7.out.2.2.2.2]; rfl
              go_wp2_with fail
              refine (quote_c w7 w.heap.size w.heap.size _ y.f1 H7.out.1 (Nat.le_of_lt H7.out.2.2.1) (by have h1 := HCL.out; have h2 := HYS.out; have h3 : y.f0.data.toList.length = y.f0.size := rfl; simp only [List.length_append, List.length_cons, List.length_nil, h3]; omega)).mono ?_
              rintro e w8 ⟨⟨_, rfl⟩, hi8, hb8, hk8⟩
              have H8 : Hid (IsB w8 w.heap.size w.heap.size (pre ++ labsL ((x.f1.map lbM).take (j + 1))) ∧ Below w.heap.size w w8 ∧ w.heap.size < w8.heap.size ∧ w8.heap[bx]? = some (.cells #[.string x.f0, .slice (some ad1) n1 c1, .int .u64 x.f2] 43)) := by
                refine ⟨?_, H7.out.2.1.trans hb8, by have := H7.out.2.2.1; have := hb8.size; omega, hk8.cell H7.out.2.2.2.1 (by decide) hbx.out.2⟩
                rw [HLT.out]
                simpa [labL, lbM, HJ0.out] using hi8
              clear hi8 hb8 hk8 r1
              go_wp2_with fail
              go_roundw
              case rel => exact ⟨j + 1, by go_num, by omega, H8⟩
              case measure => simp [intOf]; omega
          · obtain rfl : j = n1 := by omega
            obtain ⟨u, hu⟩ : ∃ u : Nat, Hid (x.f2 = (u : Int) ∧ u < 18446744073709551616 ∧ x.f2.toNat = u) := ⟨x.f2.toNat, by have := HX.out.1; omega, by have := HX.out.1; omega, rfl⟩
            have HJ2 : Hid (IsB wr w.heap.size w.heap.size (pre ++ labsL (x.f1.map lbM))) := by
              have h1 := HJ.out.1
              rwa [List.take_of_length_le (by rw [List.length_map, hn1.out]; exact Nat.le_refl _)] at h1
            have p2 : wr.cell? ⟨bx, 2, none⟩ = some (.int .u64 u) := by rw [cellB HJ.out.2.2.2, ← hu.out.1]; rfl
            have HFU := Lib.hid (FormatUint_c u hu.out.2.1 wr (HL.out.below HJ.out.2.1).1)
            obtain ⟨sn, hsn⟩ : ∃ sn : ByteArray, Hid (strV (Lib.decDigits u) = .string sn ∧ sn.data.toList = Lib.decDigits u ∧ sn.size ≤ 20) := ⟨⟨(Lib.decDigits u).toArray⟩, rfl, rfl, dec_len20 u hu.out.2.1⟩
            rw [hsn.out.1] at HFU
            have hs1 : ¬ (9223372036854775807 < 2 + sn.size) := by have := hsn.out.2.2; omega
            have hs2 : ¬ (9223372036854775807 < 2 + sn.size + 1) := by have := hsn.out.2.2; omega
            obtain ⟨st, hst⟩ : ∃ st, Hid ((⟨#[125, 32]⟩ ++ sn ++ ⟨#[10]⟩ : ByteArray) = st ∧ st.data.toList = 125 :: 32 :: (Lib.decDigits u ++ [10]) ∧ st.size ≤ 23) := ⟨_, rfl, by simp [hsn.out.2.1], by rw [ByteArray.size_append, ByteArray.size_append]; have := hsn.out.2.2; show 2 + sn.size + 1 ≤ 23; omega⟩
            go_wp2_with fail
            refine HFU.out.mono ?_
            rintro e w5 ⟨rfl, hb5⟩
            have H5 : Hid (IsB w5 w.heap.size w.heap.size (pre ++ labsL (x.f1.map lbM)) ∧ Below w.heap.size w w5 ∧ w.heap.size < w5.heap.size) := ⟨isB_below HJ2.out hb5, HJ.out.2.1.trans (hb5.mono HJ.out.2.1.size), by have := HJ.out.2.2.1; have := hb5.size; omega⟩
            clear hb5 p2 HFU
            have HWS := Lib.hid (WString_d H5.out.1 st (by have := hpre.out.2; rw [List.length_append]; omega) (by have := hst.out.2.2; omega) (Nat.le_of_lt H5.out.2.2))
            go_wp2_with fail
            rw [hst.out.1]
            refine HWS.out.mono ?_
            rintro e w6 ⟨rfl, hi6, hb6, _⟩
            have H6 : Hid (IsB w6 w.heap.size w.heap.size (printP ((xs.take (k + 1)).map lnM)) ∧ Below w.heap.size w w6 ∧ w.heap.size < w6.heap.size) := by
              refine ⟨?_, H5.out.2.1.trans hb6, by have := H5.out.2.2; have := hb6.size; omega⟩
              rw [HPT.out, if_pos (by trivial)]
              rw [hst.out.2.1, ← hpre.out.1] at hi6
              have e : printP ((xs.take k).map lnM) ++ lineP (lnM x) = printP ((xs.take k).map lnM) ++ (x.f0.data.toList ++ [123]) ++ labsL (x.f1.map lbM) ++ 125 :: 32 :: (Lib.decDigits u ++ [10]) := by
                simp [lineP, lnM, hu.out.2.2]
              rw [e]; exact hi6
            clear hi6 hb6 HWS
            go_wp2_with fail
            go_roundw
            case rel => exact ⟨k + 1, by go_num, by omega, H6⟩
            case measure => simp [intOf]; omega
    · obtain rfl : k = n := by omega
      have HI : Hid (IsB wr w.heap.size w.heap.size (printP (xs.map lnM))) := by
        have h1 := HW.out.1
        rwa [List.take_of_length_le (by rw [HN.out]; exact Nat.le_refl _)] at h1
      have HS := Lib.hid (BStr_c HI.out (Nat.le_of_lt HW.out.2.2))
      go_wp2_with fail
      refine HS.out.mono ?_
      rintro e w5 ⟨rfl, hb5⟩
      have HB5 := Lib.hid (HW.out.2.1.trans hb5); clear hb5
      go_wp2_with fail
      go_ret
      exact ⟨rfl, HB5.out⟩
end Go.Proofs.YtdbmcikoiilanaaDoor.Xp
