/- HeapUntil: the law's walk; Until's contract as a premise (the sort's modules bear simp rules on which this walk does not end). -/
import Derived.Test.YtfeikcfhionjkaaHeapSortsW
import Derived.Test.YtfeikcfhionjkaaUntil3
set_option linter.unusedVariables false
set_option linter.unusedSimpArgs false
namespace Go.Proofs.Ytfeikcfhionjkaa.heapUntil
open Go.RowKit Go.Proofs.Ytfeikcfhionjkaa.B0 Go.Proofs.Ytfeikcfhionjkaa.Hp Go.Proofs.YtfeikcfhionjkaaW.PrintWords Go.Proofs.Ytfeikcfhionjkaa.heapSorts

def U (S : List (Int × Int)) (t : Int) : List (Int × Int) := S.filter fun p => decide (p.2 ≤ t)
theorem split_sorted {t : Int} : ∀ {S : List (Int × Int)}, S.Pairwise ltP → S = U S t ++ S.filter fun p => decide (t < p.2)
  | [], _ => rfl
  | x :: S, h => by
    have ih := split_sorted (t := t) (List.pairwise_cons.1 h).2
    by_cases hx : x.2 ≤ t
    · have h1 : ¬ t < x.2 := by omega
      unfold U at *
      rw [List.filter_cons, List.filter_cons, if_pos (by simpa using hx), if_neg (by simpa using h1), List.cons_append, ← ih]
    · have h1 : t < x.2 := by omega
      have hn : U S t = [] := by
        unfold U
        rw [List.filter_eq_nil_iff]
        intro y hy
        have := (List.pairwise_cons.1 h).1 y hy
        unfold ltP at this
        simp only [decide_eq_true_eq]; omega
      have ha : S.filter (fun p => decide (t < p.2)) = S := by
        rw [hn, List.nil_append] at ih; exact ih.symm
      unfold U at *
      rw [List.filter_cons, List.filter_cons, if_neg (by simpa using hx), if_pos (by simpa using h1), hn, ha, List.nil_append]
theorem U_split {S : List (Int × Int)} (h : S.Pairwise ltP) {lo hi : Int} (hl : lo ≤ hi) : U S hi = U S lo ++ (U S hi).filter fun p => decide (lo < p.2) := by
  have h1 := split_sorted (t := lo) (S := U S hi) (h.filter _)
  have h2 : U (U S hi) lo = U S lo := by
    unfold U
    rw [List.filter_filter]
    apply List.filter_congr
    intro x _
    by_cases hx : x.2 ≤ lo <;> simp [hx] <;> omega
  rw [h2] at h1
  exact h1
theorem U_all {S : List (Int × Int)} {t : Int} (h : ∀ x, x ∈ S → x.2 ≤ t) : U S t = S := by
  unfold U
  rw [List.filter_eq_self]
  intro x hx
  simpa using h x hx
theorem U_at {S : List (Int × Int)} (hn : (S.map Prod.fst).Nodup) {t : Int} {x : Int × Int} (hx : x ∈ U S t) : S.lookup x.1 = some x.2 ∧ x.2 ≤ t ∧ x ∈ S := by
  have h1 := List.mem_filter.1 hx
  obtain ⟨j, hj⟩ := List.mem_iff_getElem?.1 h1.1
  exact ⟨lookup_at hn hj, by simpa using h1.2, h1.1⟩
theorem mem_putS {S : List (Int × Int)} {id t : Int} {x : Int × Int} (h : x ∈ putS S id t) : x = (id, t) ∨ x ∈ S := by
  unfold putS at h
  rcases List.mem_cons.1 ((insS_perm _ _).mem_iff.1 h) with h | h
  · exact .inl h
  · exact .inr ((List.mem_filter.1 h).1)

theorem len_sv22 (r : Option (Nat × Nat)) (n : Nat) (h : r = none → n = 0) (ty : TypeId) (w : World) : (Builtin.len_ #[22] ty #[svOf r n]).run Try.prog w = .ok (.int .i64 n) w := by
  cases r with
  | none => rw [h rfl]; kernel_rfl
  | some p => simp [svOf, Builtin.len_, run_underlying Try.underlying22, goInt]

theorem own_at {w w' : World} {base : Nat} {r : Option (Nat × Nat)} {X : List (Int × Int)} (h : w.ownsRow base 27 1 (svOf r X.length) X.length (X.map fun p => Value.int .u64 p.1)) (hF : Fr [] w w') {j : Nat} {x : Int × Int} (hx : X[j]? = some x) :
    ∃ g c, r = some (g, c) ∧ w'.cell? ⟨g, j, none⟩ = some (.int .u64 x.1) := by
  have hj := (List.getElem?_eq_some_iff.1 hx).1
  cases r with
  | none => rcases h.2 with ⟨_, h0⟩ | ⟨g, c, cur, hv, _⟩
            · omega
            · simp [svOf] at hv
  | some p =>
    refine ⟨p.1, p.2, rfl, ?_⟩
    have h1 := World.ownsRow.cellAt (g := p.1) (cap := p.2) h j (by omega)
    rw [List.getElem?_map, hx] at h1
    have h2 : w.cell? ⟨p.1, j, none⟩ = some (.int .u64 x.1) := h1
    exact (hF.below.cell (p := ⟨p.1, j, none⟩) (World.block_lt_of_cell? w _ h2)).trans h2
theorem At_in {w : World} {q : Nat} {S : List (Int × Int)} {fp : List Nat} (h : QA w q S fp) {x : Int × Int} (hx : S.lookup x.1 = some x.2) : Calls Try.prog 24 #[.pointer (some ⟨q, 0, none⟩), .int .u64 x.1] w fun e w' => e = .returned (.tuple #[.int .u64 x.2, .bool true]) ∧ w = w' := by
  have := At_q h x.1
  unfold AtR at this
  rw [hx] at this
  exact this

def UntilC : Prop := ∀ (w : World) (q : Nat) (S : List (Int × Int)) (fp : List Nat) (h : QA w q S fp) (t : Int) (hlen : S.length < 1000000000000),
    Calls Try.prog 23 #[.pointer (some ⟨q, 0, none⟩), .int .u64 t] w fun e w' => ∃ v, e = .returned v ∧ w'.ownsRow w.heap.size 27 1 v (S.filter fun p => decide (p.2 ≤ t)).length ((S.filter fun p => decide (p.2 ≤ t)).map fun p => Value.int .u64 p.1) ∧ Fr [] w w'

set_option maxRecDepth 100000 in
set_option maxHeartbeats 8000000 in
theorem heapUntil_walk0 (hUQ : UntilC)
    (w : World) (A0 : Option Addr) (c0 : Nat) (l0 : List Int) (C0 : Kd.C (Kd.int .u64) w A0 l0.length l0) (_hc0 : l0.length ≤ c0) (m0 : l0.length ≤ maxLen) (W0 : ∀ x ∈ l0, (Lit.int .u64 x).wf = true) (A1 : Option Addr) (c1 : Nat) (l1 : List Int) (C1 : Kd.C (Kd.int .u64) w A1 l1.length l1) (_hc1 : l1.length ≤ c1) (m1 : l1.length ≤ maxLen) (W1 : ∀ x ∈ l1, (Lit.int .u64 x).wf = true) (a2 : Int) (w2 : (Lit.int .u64 a2).wf = true) (a3 : Int) (w3 : (Lit.int .u64 a3).wf = true) :
    Calls Try.prog 7 #[.slice A0 l0.length c0, .slice A1 l1.length c1, .int .u64 a2, .int .u64 a3] w fun e w' => e = .returned (.bool true) ∧ Below w.heap.size w w' := by
  have HUQ := Lib.hid hUQ; clear hUQ
  have K0 := Lib.hid C0; clear C0
  have K1 := Lib.hid C1; clear C1
  have HW1 := Lib.hid W1; clear W1
  clear W0 w2 w3
  unfold maxLen at m0 m1
  go_enter Try.func7, Try.ntmps7
  go_wp2_with fail
  refine (alive12 w).mono ?_
  rintro e wa ⟨rfl, hFa⟩
  have HFa := Lib.hid hFa; clear hFa
  by_cases h100 : (100 : Int) < l0.length
  · go_wp2_with fail
    go_ret
    exact ⟨rfl, HFa.out.below⟩
  by_cases hlt : (l1.length : Int) < l0.length
  · go_wp2_with fail
    go_ret
    exact ⟨rfl, HFa.out.below⟩
  go_wp2_with fail
  refine (New_c wa).mono ?_
  rintro e w0 ⟨q, fp0, rfl, hQ0, hF0, hn0⟩
  have HF0 : Hid (Fr [] w w0) := HFa.out.trans hF0
  have HN0 : Hid (∀ k, k ∈ fp0 → w.heap.size ≤ k) := fun k hk => Nat.le_trans HFa.out.size (hn0 k hk)
  have HQ0 := Lib.hid hQ0
  clear hF0 hn0 hQ0 HFa
  go_wp2_with fail
  go_loopw [10] (fun iv wr => ∃ (k : Nat) (S : List (Int × Int)) (fp : List Nat), iv = .int .i64 k ∧ k ≤ l0.length ∧ QA wr q S fp ∧ S.length ≤ k ∧ Hid (∀ x, x ∈ S → x.2 ≤ 18446744073709551615) ∧ Hid (∀ b, b ∈ fp → w.heap.size ≤ b) ∧ Hid (Fr [] w wr)) (fun iv _ => l0.length - (intOf iv).toNat)
  case atStart => exact ⟨0, [], fp0, rfl, Nat.zero_le _, HQ0.out, Nat.le_refl _, fun x hx => by simp at hx, HN0, HF0⟩
  case round =>
    obtain ⟨k, S, fp, rfl, hk, hQ, hSl, HT, HN, HF⟩ := hrel
    by_cases hkl : k < l0.length
    · have hki : (k : Int) < l0.length := by omega
      have hki1 : (k : Int) < l1.length := by omega
      obtain ⟨ad0, rfl, x0⟩ := C_int (Kd.C_below K0.out HF.out.below) k hkl
      obtain ⟨ad1, rfl, x1⟩ := C_int (Kd.C_below K1.out HF.out.below) k (by omega)
      have hb1 : Hid (l1.getD k 0 ≤ 18446744073709551615) := by
        have hk1 : k < l1.length := by omega
        have := HW1.out (l1.getD k 0) (by rw [List.getD_eq_getElem?_getD, List.getElem?_eq_getElem hk1]; exact List.getElem_mem _)
        have := (wf_u64 this).2
        show l1.getD k 0 ≤ 18446744073709551615
        omega
      generalize hv0 : l0.getD k 0 = v0 at *
      generalize hv1 : l1.getD k 0 = v1 at *
      clear hv0 hv1
      have HQ := Lib.hid hQ; clear hQ
      go_wp2_with fail
      refine wp_region_still_tail 9 (by kernel_rfl) (by kernel_rfl) ?_
      simp only [List.take_succ_cons, List.take_zero, List.drop_succ_cons, List.drop_zero]
      change wpStill _ _ wr.drew _ _ _
      repeat still_step
      refine wpStill_nil ?_
      change wpList _ _ _ _ _ wr.drew
      go_wp2_with fail
      refine (Put_q (HQ.out.fr (Fr.refl [] wr).drew (by simp)) v0 v1 (by omega)).mono ?_
      rintro e w2 ⟨rfl, fp2, hQ2, hn2, hF2⟩
      have hF3 : Fr [] w w2 := HF.out.drew.trans' hF2 (fun b hb => .inr (HN.out b hb))
      have hN2 : ∀ b, b ∈ fp2 → w.heap.size ≤ b := fun b hb => by
        rcases hn2 b hb with x | x
        · exact HN.out b x
        · have := HF.out.size; exact Nat.le_trans this x
      have HF3 := Lib.hid hF3; clear hF3
      have HN2 := Lib.hid hN2; clear hN2
      have HQ2 := Lib.hid hQ2; clear hQ2
      have HT2 : Hid (∀ x, x ∈ putS S v0 v1 → x.2 ≤ 18446744073709551615) := fun x hx => by
        rcases mem_putS hx with rfl | h
        · exact hb1.out
        · exact HT.out x h
      clear hn2 hF2 x0 x1
      go_wp2_with fail
      go_roundw
      case rel => exact ⟨k + 1, putS S v0 v1, fp2, by go_num, by omega, HQ2.out, by have := len_putS S v0 v1; omega, HT2, HN2, HF3⟩
      case measure => simp [intOf]; omega
    · have hss := QA.sorted hQ
      have HSS := Lib.hid hss; clear hss
      have hSb : S.length ≤ 100 := by omega
      have HQ := Lib.hid hQ; clear hQ
      clear HQ0 HF0 HN0
      obtain ⟨lo, e1⟩ : ∃ lo, (if a3 < a2 then a3 else a2) = lo := ⟨_, rfl⟩
      obtain ⟨hi, e2⟩ : ∃ hi, (if a2 < a3 then a3 else a2) = hi := ⟨_, rfl⟩
      have hlh : Hid (lo ≤ hi) := by show lo ≤ hi; rw [← e1, ← e2]; split <;> split <;> omega
      go_wp2_with fail
      refine (HUQ.out _ _ _ _ HQ.out lo (by omega)).mono ?_
      rintro e w2 ⟨v1, rfl, hO1, hF1⟩
      obtain ⟨X, hX⟩ : ∃ X, Hid (X = U S lo) := ⟨_, rfl⟩
      replace hO1 : w2.ownsRow wr.heap.size 27 1 v1 X.length (X.map fun p => Value.int .u64 p.1) := by rw [hX.out]; exact hO1
      obtain ⟨rx, rfl, hrx⟩ := own_sv hO1
      have lx := len_sv22 rx X.length hrx
      have HO1 := Lib.hid hO1; clear hO1
      have HF1 := Lib.hid hF1; clear hF1
      go_wp2_with fail
      refine (HUQ.out _ _ _ _ (HQ.out.fr HF1.out (by simp)) hi (by omega)).mono ?_
      rintro e w3 ⟨v2, rfl, hO2, hF2⟩
      obtain ⟨Y, hY⟩ : ∃ Y, Hid (Y = U S hi) := ⟨_, rfl⟩
      replace hO2 : w3.ownsRow w2.heap.size 27 1 v2 Y.length (Y.map fun p => Value.int .u64 p.1) := by rw [hY.out]; exact hO2
      obtain ⟨ry, rfl, hry⟩ := own_sv hO2
      have ly := len_sv22 ry Y.length hry
      have HO2 := Lib.hid hO2; clear hO2
      have HF2 := Lib.hid hF2; clear hF2
      have hXY : Hid (∃ Z, Y = X ++ Z ∧ ∀ z, z ∈ Z → lo < z.2) := by
        have := U_split HSS.out.1 hlh.out
        rw [← hX.out, ← hY.out] at this
        exact ⟨_, this, fun z hz => by simpa using (List.mem_filter.1 hz).2⟩
      have hle : ¬ (Y.length : Int) < X.length := by
        obtain ⟨Z, hZ, _⟩ := hXY.out
        rw [hZ, List.length_append]; omega
      have hdl : decide (Y.length < X.length) = false := by simp only [decide_eq_false_iff_not]; omega
      have hle2 : (X.length : Int) ≤ Y.length := by omega
      go_wp2_with fail
      refine (HUQ.out _ _ _ _ ((HQ.out.fr HF1.out (by simp)).fr HF2.out (by simp)) 18446744073709551615 (by omega)).mono ?_
      rintro e w4 ⟨v3, rfl, hO3, hF3⟩
      replace hO3 : w4.ownsRow w3.heap.size 27 1 v3 S.length (S.map fun p => Value.int .u64 p.1) := by
        have := U_all HT.out
        unfold U at this
        rw [this] at hO3; exact hO3
      obtain ⟨rz, rfl, hrz⟩ := own_sv hO3
      have lz := len_sv22 rz S.length hrz
      have HF3 := Lib.hid hF3; clear hF3
      clear hO3
      go_wp2_with fail
      refine (Len_q (((HQ.out.fr HF1.out (by simp)).fr HF2.out (by simp)).fr HF3.out (by simp))).mono ?_
      rintro e w5 ⟨rfl, rfl⟩
      have HQ4 : Hid (QA w4 q S fp) := ((HQ.out.fr HF1.out (by simp)).fr HF2.out (by simp)).fr HF3.out (by simp)
      have HF4 : Hid (Fr [] w w4) := ((HF.out.trans HF1.out).trans HF2.out).trans HF3.out
      have HX1 : Hid (Fr [] w2 w4) := HF2.out.trans HF3.out
      have HUX : Hid (∀ x, x ∈ X → S.lookup x.1 = some x.2 ∧ x.2 ≤ lo ∧ x ∈ S) := by rw [hX.out]; exact fun x hx => U_at HSS.out.2 hx
      have HUY : Hid (∀ x, x ∈ Y → S.lookup x.1 = some x.2 ∧ x.2 ≤ hi ∧ x ∈ S) := by rw [hY.out]; exact fun x hx => U_at HSS.out.2 hx
      have hXl : X.length ≤ 100 := by rw [hX.out]; exact Nat.le_trans (List.length_filter_le _ _) hSb
      have hYl : Y.length ≤ 100 := by rw [hY.out]; exact Nat.le_trans (List.length_filter_le _ _) hSb
      clear hX hY HT HQ HSS
      go_wp2_with fail
      go_loopw [13] (fun iv wt => ∃ (j : Nat), iv = .int .i64 j ∧ j ≤ X.length ∧ Hid (Fr [] w4 wt)) (fun iv _ => X.length - (intOf iv).toNat)
      case atStart => exact ⟨0, rfl, Nat.zero_le _, Fr.refl _ _⟩
      case round =>
        obtain ⟨j, rfl, hj, HFt⟩ := hrel
        by_cases hjl : j < X.length
        · have hji : (j : Int) < X.length := by omega
          obtain ⟨Z, hZ, _⟩ := hXY.out
          obtain ⟨⟨xi, xt⟩, hx⟩ : ∃ x, X[j]? = some x := ⟨_, List.getElem?_eq_getElem hjl⟩
          have hy : Y[j]? = some (xi, xt) := by rw [hZ, List.getElem?_append_left hjl]; exact hx
          have hjY : (j : Int) < Y.length := by omega
          obtain ⟨g, c, rfl, x0⟩ := own_at HO1.out (HX1.out.trans HFt.out) hx
          obtain ⟨g2, c2, rfl, y0⟩ := own_at HO2.out (HF3.out.trans HFt.out) hy
          obtain ⟨hlk, hxl, _⟩ := HUX.out _ (List.mem_of_getElem? hx)
          have HLK := Lib.hid hlk; clear hlk hx hy hZ
          simp only at x0 y0 hxl
          have hxd : decide (lo < xt) = false := by simp; omega
          rw [show svOf (some (g, c)) X.length = .slice (some ⟨g, 0, none⟩) X.length c from rfl, show svOf (some (g2, c2)) Y.length = .slice (some ⟨g2, 0, none⟩) Y.length c2 from rfl]
          have HAT : ∀ W : World, Hid (QA W q S fp) → Calls Try.prog 24 #[.pointer (some ⟨q, 0, none⟩), .int .u64 xi] W fun e w' => e = .returned (.tuple #[.int .u64 xt, .bool true]) ∧ W = w' := fun W h => At_in (x := (xi, xt)) h.out HLK.out
          have HATH := Lib.hid HAT; clear HAT
          go_wp2_with fail
          refine (HATH.out _ (HQ4.out.fr HFt.out (by simp))).mono ?_
          rintro e w5 ⟨rfl, rfl⟩
          clear HATH HLK
          go_wp2_with fail
          go_quiet (fail)
          go_wp2_with fail
          go_roundw
          case rel => exact ⟨j + 1, by go_num, by omega, HFt.out.drewN _⟩
          case measure => simp [intOf]; omega
        · have HFs : Hid (Fr [] w4 _) := HFt
          clear HFt
          go_wp2_with fail
          go_loopw [16] (fun iv wt => ∃ (j : Nat), iv = .int .i64 j ∧ X.length ≤ j ∧ j ≤ Y.length ∧ Hid (Fr [] w4 wt)) (fun iv _ => Y.length - (intOf iv).toNat)
          case atStart => exact ⟨X.length, rfl, Nat.le_refl _, by omega, HFs⟩
          case round =>
            obtain ⟨i, rfl, hi0, hi1, HFt⟩ := hrel
            by_cases hil : i < Y.length
            · have hii : (i : Int) < Y.length := by omega
              obtain ⟨Z, hZ, hlo⟩ := hXY.out
              obtain ⟨⟨xi, xt⟩, hy⟩ : ∃ x, Y[i]? = some x := ⟨_, List.getElem?_eq_getElem hil⟩
              have hxlo : lo < xt := by
                rw [hZ, List.getElem?_append_right hi0] at hy
                exact hlo _ (List.mem_of_getElem? hy)
              obtain ⟨g2, c2, rfl, y0⟩ := own_at HO2.out (HF3.out.trans HFt.out) hy
              obtain ⟨hlk, hxl, _⟩ := HUY.out _ (List.mem_of_getElem? hy)
              have HLK := Lib.hid hlk; clear hlk hy hZ hlo
              simp only at y0 hxl
              have hxd : decide (xt ≤ lo) = false := by simp; omega
              have hxd2 : decide (hi < xt) = false := by simp; omega
              rw [show svOf (some (g2, c2)) Y.length = .slice (some ⟨g2, 0, none⟩) Y.length c2 from rfl]
              have HAT : ∀ W : World, Hid (QA W q S fp) → Calls Try.prog 24 #[.pointer (some ⟨q, 0, none⟩), .int .u64 xi] W fun e w' => e = .returned (.tuple #[.int .u64 xt, .bool true]) ∧ W = w' := fun W h => At_in (x := (xi, xt)) h.out HLK.out
              have HATH := Lib.hid HAT; clear HAT
              go_wp2_with fail
              refine (HATH.out _ (HQ4.out.fr HFt.out (by simp))).mono ?_
              rintro e w5 ⟨rfl, rfl⟩
              go_wp2_with fail
              go_roundw
              case rel => exact ⟨i + 1, by go_num, by omega, by omega, HFt⟩
              case measure => simp [intOf]; omega
            · go_wp2_with fail
              go_ret
              exact ⟨rfl, (HF4.out.trans HFt.out).below⟩
end Go.Proofs.Ytfeikcfhionjkaa.heapUntil
