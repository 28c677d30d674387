/- container/heap's down over heap's items: it comes to 'downL' of the list. -/
import Derived.Test.YtfeikcfhionjkaaHp4
set_option linter.unusedVariables false
set_option linter.unusedSimpArgs false
namespace Go.Proofs.Ytfeikcfhionjkaa.Hp
open Go.RowKit Go.Proofs.Ytfeikcfhionjkaa.B0

def ltO (L : List E) (i k : Nat) : Bool := match L[i]?, L[k]? with | some x, some y => ltE x y | _, _ => false
def swp (L : List E) (i k : Nat) : List E := match L[i]?, L[k]? with | some x, some y => (L.set i y).set k x | _, _ => L
def child (n : Nat) (L : List E) (i : Nat) : Nat := if 2 * i + 2 < n ∧ ltO L (2 * i + 2) (2 * i + 1) = true then 2 * i + 2 else 2 * i + 1
theorem child_gt (n : Nat) (L : List E) (i : Nat) : i < child n L i := by unfold child; split <;> omega
theorem child_lt (n : Nat) (L : List E) (i : Nat) (h : 2 * i + 1 < n) : child n L i < n := by unfold child; split <;> omega
def downL (n : Nat) (L : List E) (i : Nat) : List E × Nat :=
  if h : 2 * i + 1 < n then (if ltO L (child n L i) i = true then downL n (swp L i (child n L i)) (child n L i) else (L, i)) else (L, i)
termination_by n - i
decreasing_by have := child_gt n L i; have := child_lt n L i h; omega

theorem ltO_some {L : List E} {i k : Nat} {x y : E} (hx : L[i]? = some x) (hy : L[k]? = some y) : ltO L i k = ltE x y := by simp [ltO, hx, hy]
theorem swp_some {L : List E} {i k : Nat} {x y : E} (hx : L[i]? = some x) (hy : L[k]? = some y) : swp L i k = (L.set i y).set k x := by simp [swp, hx, hy]
theorem length_swp (L : List E) (i k : Nat) : (swp L i k).length = L.length := by unfold swp; split <;> simp
theorem perm_swp (L : List E) (i k : Nat) (hik : i ≠ k) : (swp L i k).Perm L := by
  unfold swp
  split
  · rename_i x y hx hy; exact perm_swap hx hy hik
  · exact List.Perm.refl _
theorem downL_step {n : Nat} {L : List E} {i j : Nat} (h : 2 * i + 1 < n) (hj : child n L i = j) (hl : ltO L j i = true) : downL n L i = downL n (swp L i j) j := by
  subst hj; rw [downL, dif_pos h, if_pos hl]
theorem downL_stop {n : Nat} {L : List E} {i j : Nat} (hj : child n L i = j) (hl : ltO L j i = false) : downL n L i = (L, i) := by
  subst hj; rw [downL]; split
  · rw [if_neg (by simp [hl])]
  · rfl
theorem downL_end {n : Nat} {L : List E} {i : Nat} (h : ¬ 2 * i + 1 < n) : downL n L i = (L, i) := by rw [downL, dif_neg h]

theorem Less_o {w : World} {q mb : Nat} {r : Option (Nat × Nat)} {L : List E} (h : IRep w q mb r L) (a b : Int) (i k : Nat) (ea : a = i) (eb : b = k) (hi : i < L.length) (hk : k < L.length) :
    Calls Try.prog 72 #[svOf r L.length, .int .i64 a, .int .i64 b] w fun e w' => e = .returned (.bool (ltO L i k)) ∧ Below w.heap.size w w' := by
  rw [ltO_some (List.getElem?_eq_getElem hi) (List.getElem?_eq_getElem hk)]
  exact Less_c h a b i k ea eb _ _ (List.getElem?_eq_getElem hi) (List.getElem?_eq_getElem hk)
theorem Swap_o {w : World} {q mb : Nat} {r : Option (Nat × Nat)} {L : List E} (h : IRep w q mb r L) (a b : Int) (i k : Nat) (ea : a = i) (eb : b = k) (hi : i < L.length) (hk : k < L.length) (hik : i ≠ k) :
    Calls Try.prog 73 #[svOf r L.length, .int .i64 a, .int .i64 b] w fun e w' => e = .returned (.tuple #[]) ∧ IRep w' q mb r (swp L i k) ∧ Fr (foot r L) w w' := by
  rw [swp_some (List.getElem?_eq_getElem hi) (List.getElem?_eq_getElem hk)]
  exact Swap_c h a b i k ea eb _ _ (List.getElem?_eq_getElem hi) (List.getElem?_eq_getElem hk) hik

theorem foot_perm {r : Option (Nat × Nat)} {M L : List E} (hP : M.Perm L) : ∀ b, b ∈ foot r M → b ∈ foot r L := by
  intro b
  simp only [foot, List.mem_append, List.mem_map]
  rintro (hb | ⟨e, he, rfl⟩)
  · exact .inl hb
  · exact .inr ⟨e, hP.mem_iff.1 he, rfl⟩

theorem svOf_len {r : Option (Nat × Nat)} {n m : Nat} (h : n = m) : svOf r n = svOf r m := by rw [h]

set_option maxRecDepth 100000 in
set_option maxHeartbeats 4000000 in
theorem down_c {w : World} {q mb : Nat} {r : Option (Nat × Nat)} {L : List E} (h : IRep w q mb r L) (a b : Int) (j n : Nat) (ea : a = j) (eb : b = n) (hj : j < L.length) (hn : n ≤ L.length) (hL : L.length < 2305843009213693952) :
    Calls Try.prog 32 #[.iface 67 (.pointer (some ⟨q, 0, none⟩)), .int .i64 a, .int .i64 b] w fun e w' => e = .returned (.bool (decide (j < (downL n L j).2))) ∧ IRep w' q mb r (downL n L j).1 ∧ Fr (foot r L) w w' := by
  subst ea eb
  go_enter Try.func32, Try.ntmps32
  go_wp2_with fail
  go_loopw [7] (fun jv wr => ∃ (k : Nat) (M : List E), jv = .int .i64 k ∧ k < M.length ∧ n ≤ M.length ∧ Hid (M.length = L.length) ∧ IRep wr q mb r M ∧ Hid (downL n M k = downL n L j) ∧ Hid (M.Perm L) ∧ Fr (foot r L) w wr ∧ (k : Int) ≤ 2305843009213693952) (fun jv _ => n - (intOf jv).toNat)
  case atStart => exact ⟨j, L, rfl, hj, hn, rfl, h, rfl, List.Perm.refl _, Fr.refl _ _, by omega⟩
  case round =>
    obtain ⟨k, M, rfl, hk, hnM, hML, hM, hU, hP, hF, hkI⟩ := hrel
    have hb : M.length < 2305843009213693952 := by rw [hML.out]; exact hL
    have hk0 : (0 : Int) ≤ k := by omega
    have c0 := hM.c0
    by_cases h1 : 2 * k + 1 < n
    · have h1i : 2 * (k : Int) + 1 < (n : Int) := by omega
      have m1 := m_less c0
      by_cases h2 : 2 * k + 2 < n
      · have h2i : 2 * (k : Int) + 1 + 1 < (n : Int) := by omega
        go_wp2_with fail
        refine (Less_o hM _ _ (2 * k + 2) (2 * k + 1) (by omega) (by omega) (by omega) (by omega)).mono ?_
        rintro e w0 ⟨rfl, hbw⟩
        have hM0 := hM.below hbw
        have hF0 := hF.trans (Fr.of_below hbw _ (Nat.le_refl _))
        clear m1 c0 hM hF hbw
        have hM := hM0
        have hF := hF0
        clear hM0 hF0
        have c0 := hM.c0
        have m1 := m_less c0
        cases hl0 : ltO M (2 * k + 2) (2 * k + 1) with
        | true =>
          obtain ⟨J, HJv⟩ : ∃ J, Hid (J = 2 * k + 2) := ⟨_, rfl⟩
          have HJ : Hid (child n M k = J) := by show _ = _; rw [HJv.out]; unfold child; rw [if_pos ⟨h2, hl0⟩]
          have hJ0 : (2 * (k : Int) + 1 + 1) = J := by rw [HJv.out]; omega
          have hJ1 : k < J := by rw [HJv.out]; omega
          have hJ2 : J < n := by rw [HJv.out]; omega
          have HJ0 := Lib.hid hJ0; clear hJ0
          clear hl0
          go_wp2_with fail
          refine (Less_o hM _ _ J k (by rw [← HJ0.out]) (by omega) (by omega) hk).mono ?_
          rintro e w1 ⟨rfl, hbw⟩
          have hM1 := hM.below hbw
          have hF1 := hF.trans (Fr.of_below hbw _ (Nat.le_refl _))
          clear m1 c0 hM hF hbw
          have c1 := hM1.c0
          have m2 := m_swap c1
          cases hl : ltO M J k with
          | true =>
            have HL := Lib.hid hl; clear hl
            go_wp2_with fail
            refine (Swap_o hM1 _ _ k J (by omega) (by rw [← HJ0.out]) hk (by omega) (by omega)).mono ?_
            rintro e w2 ⟨rfl, hM2, hF2⟩
            have hF3 := hF1.trans (hF2.mono (foot_perm hP.out))
            clear m2 c1 hM1 hF1 hF2
            go_wp2_with fail
            go_roundw
            case rel =>
              refine ⟨J, _, by rw [← HJ0.out], by rw [length_swp]; omega, by rw [length_swp]; omega, ?_, hM2, ?_, ?_, hF3, by omega⟩
              · show _ = _; rw [length_swp]; exact hML.out
              · show _ = _
                rw [← downL_step h1 HJ.out HL.out]; exact hU.out
              · exact (perm_swp _ _ _ (by omega)).trans hP.out
            case measure => simp [intOf]; omega
          | false =>
            have HL := Lib.hid hl; clear hl
            go_wp2_with fail
            go_ret
            have := downL_stop HJ.out HL.out
            rw [hU.out] at this
            rw [this]
            exact ⟨by simp, hM1, hF1⟩
        | false =>
          obtain ⟨J, HJv⟩ : ∃ J, Hid (J = 2 * k + 1) := ⟨_, rfl⟩
          have HJ : Hid (child n M k = J) := by show _ = _; rw [HJv.out]; unfold child; rw [if_neg (by simp [hl0])]
          have hJ0 : (2 * (k : Int) + 1) = J := by rw [HJv.out]; omega
          have hJ1 : k < J := by rw [HJv.out]; omega
          have hJ2 : J < n := by rw [HJv.out]; omega
          have HJ0 := Lib.hid hJ0; clear hJ0
          clear hl0
          go_wp2_with fail
          refine (Less_o hM _ _ J k (by rw [← HJ0.out]) (by omega) (by omega) hk).mono ?_
          rintro e w1 ⟨rfl, hbw⟩
          have hM1 := hM.below hbw
          have hF1 := hF.trans (Fr.of_below hbw _ (Nat.le_refl _))
          clear m1 c0 hM hF hbw
          have c1 := hM1.c0
          have m2 := m_swap c1
          cases hl : ltO M J k with
          | true =>
            have HL := Lib.hid hl; clear hl
            go_wp2_with fail
            refine (Swap_o hM1 _ _ k J (by omega) (by rw [← HJ0.out]) hk (by omega) (by omega)).mono ?_
            rintro e w2 ⟨rfl, hM2, hF2⟩
            have hF3 := hF1.trans (hF2.mono (foot_perm hP.out))
            clear m2 c1 hM1 hF1 hF2
            go_wp2_with fail
            go_roundw
            case rel =>
              refine ⟨J, _, by rw [← HJ0.out], by rw [length_swp]; omega, by rw [length_swp]; omega, ?_, hM2, ?_, ?_, hF3, by omega⟩
              · show _ = _; rw [length_swp]; exact hML.out
              · show _ = _
                rw [← downL_step h1 HJ.out HL.out]; exact hU.out
              · exact (perm_swp _ _ _ (by omega)).trans hP.out
            case measure => simp [intOf]; omega
          | false =>
            have HL := Lib.hid hl; clear hl
            go_wp2_with fail
            go_ret
            have := downL_stop HJ.out HL.out
            rw [hU.out] at this
            rw [this]
            exact ⟨by simp, hM1, hF1⟩
      · have h2i : ¬ 2 * (k : Int) + 1 + 1 < (n : Int) := by omega
        obtain ⟨J, HJv⟩ : ∃ J, Hid (J = 2 * k + 1) := ⟨_, rfl⟩
        have HJ : Hid (child n M k = J) := by show _ = _; rw [HJv.out]; unfold child; rw [if_neg (by omega)]
        have hJ0 : (2 * (k : Int) + 1) = J := by rw [HJv.out]; omega
        have hJ1 : k < J := by rw [HJv.out]; omega
        have hJ2 : J < n := by rw [HJv.out]; omega
        have HJ0 := Lib.hid hJ0; clear hJ0
        go_wp2_with fail
        refine (Less_o hM _ _ J k (by rw [← HJ0.out]) (by omega) (by omega) hk).mono ?_
        rintro e w1 ⟨rfl, hbw⟩
        have hM1 := hM.below hbw
        have hF1 := hF.trans (Fr.of_below hbw _ (Nat.le_refl _))
        clear m1 c0 hM hF hbw
        have c1 := hM1.c0
        have m2 := m_swap c1
        cases hl : ltO M J k with
        | true =>
          have HL := Lib.hid hl; clear hl
          go_wp2_with fail
          refine (Swap_o hM1 _ _ k J (by omega) (by rw [← HJ0.out]) hk (by omega) (by omega)).mono ?_
          rintro e w2 ⟨rfl, hM2, hF2⟩
          have hF3 := hF1.trans (hF2.mono (foot_perm hP.out))
          clear m2 c1 hM1 hF1 hF2
          go_wp2_with fail
          go_roundw
          case rel =>
            refine ⟨J, _, by rw [← HJ0.out], by rw [length_swp]; omega, by rw [length_swp]; omega, ?_, hM2, ?_, ?_, hF3, by omega⟩
            · show _ = _; rw [length_swp]; exact hML.out
            · show _ = _
              rw [← downL_step h1 HJ.out HL.out]; exact hU.out
            · exact (perm_swp _ _ _ (by omega)).trans hP.out
          case measure => simp [intOf]; omega
        | false =>
          have HL := Lib.hid hl; clear hl
          go_wp2_with fail
          go_ret
          have := downL_stop HJ.out HL.out
          rw [hU.out] at this
          rw [this]
          exact ⟨by simp, hM1, hF1⟩
    · have h1i : ¬ 2 * (k : Int) + 1 < (n : Int) := by omega
      go_wp2_with fail
      go_ret
      have := downL_end (L := M) h1
      rw [hU.out] at this
      rw [this]
      exact ⟨by simp, hM, hF⟩
end Go.Proofs.Ytfeikcfhionjkaa.Hp
