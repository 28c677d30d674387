/- HeapSorts: the law's walk. -/
import Derived.Test.YtfeikcfhionjkaaHeapAlive
import Derived.Test.YtfeikcfhionjkaaOp
set_option linter.unusedVariables false
set_option linter.unusedSimpArgs false
namespace Go.Proofs.Ytfeikcfhionjkaa.heapSorts
open Go.RowKit Go.Proofs.Ytfeikcfhionjkaa.B0 Go.Proofs.Ytfeikcfhionjkaa.Hp Go.Proofs.YtfeikcfhionjkaaW.PrintWords

theorem delS_head {x : Int × Int} {S : List (Int × Int)} (h : ((x :: S).map Prod.fst).Nodup) : delS (x :: S) x.1 = S := by
  rw [List.map_cons, List.nodup_cons] at h
  unfold delS
  rw [List.filter_cons]
  simp only [decide_true, Bool.not_true, Bool.false_eq_true, if_false]
  rw [List.filter_eq_self]
  intro a ha
  have : a.1 ≠ x.1 := fun hh => h.1 (by rw [← hh]; exact List.mem_map.2 ⟨a, ha, rfl⟩)
  simp [this]

theorem QA.sorted {w : World} {q : Nat} {S : List (Int × Int)} {fp : List Nat} (h : QA w q S fp) : S.Pairwise ltP ∧ (S.map Prod.fst).Nodup := by
  obtain ⟨mb, r, L, M, h1, rfl⟩ := h
  exact ⟨h1.so, h1.idsS⟩

theorem len_putS (S : List (Int × Int)) (id t : Int) : (putS S id t).length ≤ S.length + 1 := by
  unfold putS
  rw [(insS_perm _ _).length_eq]
  have := List.length_filter_le (fun p : Int × Int => !decide (p.1 = id)) S
  unfold delS
  simp only [List.length_cons]; omega


set_option maxRecDepth 100000 in
set_option maxHeartbeats 8000000 in
theorem heapSorts_walk (w : World) (A0 : Option Addr) (c0 : Nat) (l0 : List Int) (C0 : Kd.C (Kd.int .u64) w A0 l0.length l0) (_hc0 : l0.length ≤ c0) (m0 : l0.length ≤ maxLen) (_W0 : ∀ x ∈ l0, (Lit.int .u64 x).wf = true) (A1 : Option Addr) (c1 : Nat) (l1 : List Int) (C1 : Kd.C (Kd.int .u64) w A1 l1.length l1) (_hc1 : l1.length ≤ c1) (m1 : l1.length ≤ maxLen) (_W1 : ∀ x ∈ l1, (Lit.int .u64 x).wf = true) :
    Calls Try.prog 3 #[.slice A0 l0.length c0, .slice A1 l1.length c1] w fun e w' => e = .returned (.bool true) ∧ Below w.heap.size w w' := by
  have K0 := Lib.hid C0; clear C0
  have K1 := Lib.hid C1; clear C1
  unfold maxLen at m0 m1
  go_enter Try.func3, Try.ntmps3
  go_wp2_with fail
  refine (alive12 w).mono ?_
  rintro e wa ⟨rfl, hFa⟩
  have HFa := Lib.hid hFa; clear hFa
  by_cases h200 : (200 : Int) < l0.length
  · go_wp2_with fail
    go_ret
    exact ⟨rfl, HFa.out.below⟩
  by_cases hlt : (l1.length : Int) < l0.length
  · go_wp2_with fail
    go_ret
    exact ⟨rfl, HFa.out.below⟩
  go_wp2_with fail
  refine (New_c wa).mono ?_
  rintro e w0 ⟨q, fp0, rfl, hQ0, hF0, hn0⟩
  have HF0 : Hid (Fr [] w w0) := HFa.out.trans hF0
  have HN0 : Hid (∀ k, k ∈ fp0 → w.heap.size ≤ k) := fun k hk => Nat.le_trans HFa.out.size (hn0 k hk)
  have HQ0 := Lib.hid hQ0
  clear hF0 hn0 hQ0 HFa
  go_wp2_with fail
  go_loopw [6] (fun iv wr => ∃ (k : Nat) (S : List (Int × Int)) (fp : List Nat), iv = .int .i64 k ∧ k ≤ l0.length ∧ QA wr q S fp ∧ S.length ≤ k ∧ Hid (∀ b, b ∈ fp → w.heap.size ≤ b) ∧ Hid (Fr [] w wr)) (fun iv _ => l0.length - (intOf iv).toNat)
  case atStart => exact ⟨0, [], fp0, rfl, Nat.zero_le _, HQ0.out, Nat.le_refl _, HN0, HF0⟩
  case round =>
    obtain ⟨k, S, fp, rfl, hk, hQ, hSl, HN, HF⟩ := hrel
    by_cases hkl : k < l0.length
    · have hki : (k : Int) < l0.length := by omega
      have hki1 : (k : Int) < l1.length := by omega
      obtain ⟨ad0, rfl, x0⟩ := C_int (Kd.C_below K0.out HF.out.below) k hkl
      obtain ⟨ad1, rfl, x1⟩ := C_int (Kd.C_below K1.out HF.out.below) k (by omega)
      generalize hv0 : l0.getD k 0 = v0 at *
      generalize hv1 : l1.getD k 0 = v1 at *
      clear hv0 hv1
      have HQ := Lib.hid hQ; clear hQ
      go_wp2_with fail
      refine wp_region_still_tail 9 (by kernel_rfl) (by kernel_rfl) ?_
      simp only [List.take_succ_cons, List.take_zero, List.drop_succ_cons, List.drop_zero]
      change wpStill _ _ wr.drew _ _ _
      repeat still_step
      refine wpStill_nil ?_
      change wpList _ _ _ _ _ wr.drew
      go_wp2_with fail
      refine (Put_q (HQ.out.fr (Fr.refl [] wr).drew (by simp)) v0 v1 (by omega)).mono ?_
      rintro e w2 ⟨rfl, fp2, hQ2, hn2, hF2⟩
      have hF3 : Fr [] w w2 := HF.out.drew.trans' hF2 (fun b hb => .inr (HN.out b hb))
      have hN2 : ∀ b, b ∈ fp2 → w.heap.size ≤ b := fun b hb => by
        rcases hn2 b hb with x | x
        · exact HN.out b x
        · have := HF.out.size; exact Nat.le_trans this x
      have HF3 := Lib.hid hF3; clear hF3
      have HN2 := Lib.hid hN2; clear hN2
      have HQ2 := Lib.hid hQ2; clear hQ2
      clear hn2 hF2 x0 x1
      go_wp2_with fail
      go_roundw
      case rel => exact ⟨k + 1, putS S v0 v1, fp2, by go_num, by omega, HQ2.out, by have := len_putS S v0 v1; omega, HN2, HF3⟩
      case measure => simp [intOf]; omega
    · go_wp2_with fail
      refine (Len_q hQ).mono ?_
      rintro e w1 ⟨rfl, rfl⟩
      obtain ⟨S0, HS0⟩ : ∃ S0, Hid (S0 = S) := ⟨S, rfl⟩
      have hss := QA.sorted hQ
      have HSS := Lib.hid hss; clear hss
      have hSb : S.length ≤ 200 := by omega
      have HQ1 := Lib.hid hQ; clear hQ
      clear HQ0 HF0 HN0
      have HFw := HF
      have HNw := HN
      clear HF HN
      go_wp2_with fail
      go_loopw [8, 9, 10] (fun lv wv iv wt => ∃ (j : Nat) (lst was : Int) (R : List (Int × Int)) (fp : List Nat), lv = .int .u64 lst ∧ wv = .int .u64 was ∧ iv = .int .i64 j ∧ j ≤ S.length ∧ QA wt q R fp ∧ Hid (R = S.drop j) ∧ Hid (∀ x, 0 < j → S[j - 1]? = some x → lst = x.1 ∧ was = x.2) ∧ Hid (∀ b, b ∈ fp → w.heap.size ≤ b) ∧ Hid (Fr [] w wt)) (fun _ _ iv _ => S.length - (intOf iv).toNat)
      case atStart => exact ⟨0, 0, 0, S, fp, rfl, rfl, rfl, Nat.zero_le _, HQ1.out, rfl, fun x h => by omega, HNw, HFw⟩
      case round =>
        obtain ⟨j, lst, was, R, fp1, rfl, rfl, rfl, hj, hQ, HR, HL, HN, HF⟩ := hrel
        have wt : World := w
        by_cases hjl : j < S.length
        · have hji : (j : Int) < S.length := by omega
          have hji2 : (j : Int) ≤ 200 := by omega
          obtain ⟨x, hx⟩ : ∃ x, S[j]? = some x := ⟨_, List.getElem?_eq_getElem hjl⟩
          have hRx : R = x :: S.drop (j + 1) := by
            rw [HR.out, List.drop_eq_getElem_cons hjl]
            congr 1
            have := (List.getElem?_eq_some_iff.1 hx).2
            exact this
          have HX := Lib.hid hx; clear hx
          subst hRx
          go_wp2_with fail
          refine (First_q hQ).mono ?_
          rintro e w2 ⟨rfl, nd, rfl⟩
          rw [show FirstR (x :: S.drop (j + 1)) = .tuple #[.int .u64 x.1, .int .u64 x.2, .bool true] from rfl]
          have hQ2 := hQ.fr ((Fr.refl [] _).drewN nd) (by simp)
          have HF2 : Hid (Fr [] w _) := HF.out.drewN nd
          have hds : decide (x.1 ∈ (x :: S.drop (j + 1)).map Prod.fst) = true := by simp
          have hRl : (x :: S.drop (j + 1)).length < 1000000000000 := by simp; omega
          have hdel : delS (x :: S.drop (j + 1)) x.1 = S.drop (j + 1) := delS_head (QA.sorted hQ).2
          have key : 0 < j → ∃ y, S[j - 1]? = some y ∧ lst = y.1 ∧ was = y.2 ∧ ltP y x := by
            intro h0
            obtain ⟨y, hy⟩ : ∃ y, S[j - 1]? = some y := ⟨_, List.getElem?_eq_getElem (by omega)⟩
            obtain ⟨e1, e2⟩ := HL.out y h0 hy
            refine ⟨y, hy, e1, e2, ?_⟩
            have := List.pairwise_iff_getElem.1 HSS.out.1 (j - 1) j (by omega) hjl (by omega)
            rwa [(List.getElem?_eq_some_iff.1 hy).2, (List.getElem?_eq_some_iff.1 HX.out).2] at this
          have HKEY := Lib.hid key; clear key
          have HDS := Lib.hid hds; clear hds
          have HDEL := Lib.hid hdel; clear hdel
          generalize hgx : x.1 = xi at *
          generalize hgt : x.2 = xt at *
          have HGX := Lib.hid hgx; clear hgx
          have HGT := Lib.hid hgt; clear hgt
          rcases Nat.eq_zero_or_pos j with h0 | h0
          · have hj0 : (j : Int) ≤ 0 := by omega
            have hjd : decide ((0 : Int) < (j : Int)) = false := by simp; omega
            have HJ0 := Lib.hid h0; clear h0
            go_wp2_with fail
            refine (Drop_q hQ2 xi hRl).mono ?_
            rintro e w3 ⟨rfl, fp2, hQ3, hn3, hF3⟩
            rw [HDS.out]
            rw [HDEL.out] at hQ3
            have HN3 : Hid (∀ b, b ∈ fp2 → w.heap.size ≤ b) := fun b hb => HN.out b (hn3 b hb)
            have HF4 : Hid (Fr [] w w3) := HF2.out.trans' hF3 (fun b hb => .inr (HN.out b hb))
            clear hn3 hF3 hQ2 hQ
            go_wp2_with fail
            go_roundw
            case rel =>
              refine ⟨j + 1, xi, xt, S.drop (j + 1), fp2, rfl, rfl, by go_num, by omega, hQ3, rfl, ?_, HN3, HF4⟩
              intro y _ hy
              simp only [Nat.add_sub_cancel] at hy
              rw [HX.out] at hy
              cases hy
              exact ⟨HGX.out.symm, HGT.out.symm⟩
            case measure => simp [intOf]; omega
          · have hj0 : (0 : Int) < (j : Int) := by omega
            have hjd : decide ((0 : Int) < (j : Int)) = true := by simp; omega
            obtain ⟨y, hy, e1, e2, hlt⟩ := HKEY.out h0
            unfold ltP at hlt
            rw [← e1, ← e2, HGX.out, HGT.out] at hlt
            clear e1 e2 hy
            have t1 : decide (xt < was) = false := by simp; omega
            have t1' : was ≤ xt := by omega
            by_cases heq : xt = was
            · have t2 : (xt == was) = true := by simp [heq]
              have t3 : decide (xi ≤ lst) = false := by simp; omega
              have t3' : lst < xi := by omega
              have HEQ := Lib.hid heq; clear heq
              clear hlt
              go_wp2_with fail
              refine (Drop_q hQ2 xi hRl).mono ?_
              rintro e w3 ⟨rfl, fp2, hQ3, hn3, hF3⟩
              rw [HDS.out]
              rw [HDEL.out] at hQ3
              have HN3 : Hid (∀ b, b ∈ fp2 → w.heap.size ≤ b) := fun b hb => HN.out b (hn3 b hb)
              have HF4 : Hid (Fr [] w w3) := HF2.out.trans' hF3 (fun b hb => .inr (HN.out b hb))
              clear hn3 hF3 hQ2 hQ
              go_wp2_with fail
              go_roundw
              case rel =>
                refine ⟨j + 1, xi, xt, S.drop (j + 1), fp2, rfl, rfl, by go_num, by omega, hQ3, rfl, ?_, HN3, HF4⟩
                intro y _ hy
                simp only [Nat.add_sub_cancel] at hy
                rw [HX.out] at hy
                cases hy
                exact ⟨HGX.out.symm, HGT.out.symm⟩
              case measure => simp [intOf]; omega
            · have t2 : (xt == was) = false := by simp [heq]
              have HEQ := Lib.hid heq; clear heq
              clear hlt
              go_wp2_with fail
              refine (Drop_q hQ2 xi hRl).mono ?_
              rintro e w3 ⟨rfl, fp2, hQ3, hn3, hF3⟩
              rw [HDS.out]
              rw [HDEL.out] at hQ3
              have HN3 : Hid (∀ b, b ∈ fp2 → w.heap.size ≤ b) := fun b hb => HN.out b (hn3 b hb)
              have HF4 : Hid (Fr [] w w3) := HF2.out.trans' hF3 (fun b hb => .inr (HN.out b hb))
              clear hn3 hF3 hQ2 hQ
              go_wp2_with fail
              go_roundw
              case rel =>
                refine ⟨j + 1, xi, xt, S.drop (j + 1), fp2, rfl, rfl, by go_num, by omega, hQ3, rfl, ?_, HN3, HF4⟩
                intro y _ hy
                simp only [Nat.add_sub_cancel] at hy
                rw [HX.out] at hy
                cases hy
                exact ⟨HGX.out.symm, HGT.out.symm⟩
              case measure => simp [intOf]; omega
        · have hR0 : R = [] := by rw [HR.out, List.drop_of_length_le (by omega)]
          subst hR0
          go_wp2_with fail
          refine (First_q hQ).mono ?_
          rintro e w2 ⟨rfl, nd, rfl⟩
          rw [show FirstR [] = .tuple #[.int .u64 0, .int .u64 0, .bool false] from rfl]
          have hQ2 := hQ.fr ((Fr.refl [] _).drewN nd) (by simp)
          have HF2 : Hid (Fr [] w _) := HF.out.drewN nd
          clear hQ
          go_wp2_with fail
          refine (Len_q hQ2).mono ?_
          rintro e w3 ⟨rfl, rfl⟩
          clear hQ2
          go_wp2_with fail
          go_ret
          exact ⟨rfl, HF2.out.below⟩
end Go.Proofs.Ytfeikcfhionjkaa.heapSorts
