/- TombPlays: the law's walk. -/
import Derived.Test.YtfeikcfhionjkaaRef14
set_option linter.unusedVariables false
set_option linter.unusedSimpArgs false
namespace Go.Proofs.Ytfeikcfhionjkaa.tombPlays
open Go.RowKit Go.Proofs.Ytfeikcfhionjkaa.B0 Go.Proofs.Ytfeikcfhionjkaa.Hp Go.Proofs.YtfeikcfhionjkaaW.PrintWords Go.Proofs.Ytfeikcfhionjkaa.Pk

theorem len_yput' {m : Int} {S : List (Int × Int)} {id t : Int} : (yput m S id t).length ≤ S.length + 1 := by
  have := len_putS S id t
  unfold yput
  split
  · omega
  · rw [List.length_tail]; omega

theorem yputR_form (m : Int) (S : List (Int × Int)) (id t : Int) : ∃ who is, yputR m S id t = .tuple #[.int .u64 who, .bool is, .int .i64 0] := by
  have hl := len_putS S id t
  unfold yputR
  split
  · exact ⟨_, _, rfl⟩
  · cases hp : putS S id t with
    | nil => rw [hp] at hl; simp at hl
    | cons x R => exact ⟨x.1, true, rfl⟩
theorem cell_fr {F : List Nat} {w w' : World} {a : Addr} {v : Value} (hf : Fr F w w') (h : w.cell? a = some v) (ha : a.block ∉ F) : w'.cell? a = some v :=
  (World.cell?_of_block (w := w) (hf.block a.block (World.block_lt_of_cell? w _ h) ha)).trans h
theorem block_add (a : Addr) (n : Nat) : (a.add n).block = a.block := by unfold Addr.add; split <;> rfl

theorem isSome_find (S : List (Int × Int)) (id : Int) : (S.lookup id).isSome = decide (findS S id ≥ 0) := by
  rw [tombKeeps.lookup_isSome, findS_ge]

set_option maxRecDepth 100000 in
set_option maxHeartbeats 8000000 in
theorem tombPlays_walk (w : World) (a0 : Int) (w0 : (Lit.int .i64 a0).wf = true) (A1 : Option Addr) (c1 : Nat) (l1 : List S41) (C1 : Kd.C k41 w A1 l1.length l1) (_hc1 : l1.length ≤ c1) (m1 : l1.length ≤ maxLen) (W1 : ∀ x ∈ l1, W41 x) (a2 : Int) (w2 : (Lit.int .u64 a2).wf = true) :
    Calls Try.prog 4 #[.int .i64 a0, .slice A1 l1.length c1, .int .u64 a2] w fun e w' => e = .returned (.bool true) ∧ Below w.heap.size w w' := by
  have K1 := Lib.hid C1; clear C1
  clear w2 W1 w0
  unfold maxLen at m1
  go_enter Try.func4, Try.ntmps4
  go_wp2_with fail
  refine (alive14 w).mono ?_
  rintro e wa ⟨rfl, hFa⟩
  have HFa := Lib.hid hFa; clear hFa
  by_cases h200 : (200 : Int) < l1.length
  · go_wp2_with fail
    go_ret
    exact ⟨rfl, HFa.out.below⟩
  by_cases hlo : a0 < 0
  · go_wp2_with fail
    refine (TNew_no a0 wa (.inl hlo)).mono ?_
    rintro e wb ⟨rfl, rfl⟩
    go_wp2_with fail
    go_ret
    exact ⟨rfl, HFa.out.below⟩
  by_cases hhi : 65536 < a0
  · go_wp2_with fail
    refine (TNew_no a0 wa (.inr hhi)).mono ?_
    rintro e wb ⟨rfl, rfl⟩
    go_wp2_with fail
    go_ret
    exact ⟨rfl, HFa.out.below⟩
  have h0 : 0 ≤ a0 := by omega
  go_wp2_with fail
  refine (TNew_c a0 wa (by omega) (by omega)).mono ?_
  rintro e wb ⟨y, fp0, rfl, hY0, hF0, hn0⟩
  have HF0 : Hid (Fr [] w wb) := HFa.out.trans hF0
  have HN0 : Hid (∀ k, k ∈ fp0 → w.heap.size ≤ k) := fun k hk => Nat.le_trans HFa.out.size (hn0 k hk)
  have HY0 := Lib.hid hY0
  clear hF0 hn0 hY0 HFa
  go_wp2_with fail
  go_loopw [9, 10] (fun mv iv wr => ∃ (k : Nat) (S : List (Int × Int)) (fp : List Nat) (Am : Option Addr) (cm : Nat), iv = .int .i64 k ∧ mv = .slice Am S.length cm ∧ k ≤ l1.length ∧ Hid (YA wr y a0 S fp) ∧ Hid (SL wr Am cm S) ∧ (S.length : Int) ≤ a0 ∧ S.length ≤ k ∧ Hid (∀ ad, Am = some ad → ad.block ∉ fp) ∧ Hid (∀ b, b ∈ fp → w.heap.size ≤ b) ∧ Hid (Fr [] w wr)) (fun _ iv _ => l1.length - (intOf iv).toNat)
  case atStart => exact ⟨0, [], fp0, none, 0, rfl, rfl, Nat.zero_le _, HY0, ⟨⟨rfl, by simp, fun h => by simp at h⟩, by simp⟩, by simp; omega, Nat.le_refl _, fun ad h => by (cases h), HN0, HF0⟩
  case round =>
    obtain ⟨k, S, fp, Am, cm, rfl, rfl, hk, HY, HS, hSl, hSk, HD, HN, HF⟩ := hrel
    by_cases hkl : k < l1.length
    · have hki : (k : Int) < l1.length := by omega
      obtain ⟨ad, rfl, x0, x1⟩ := at_T41 (Kd.C_below K1.out HF.out.below) (k : Int) (by omega) hki
      simp only [Int.toNat_natCast] at x0 x1
      generalize hgx : rd_T41 l1 (k : Int) = x at *
      have HX := Lib.hid hgx; clear hgx
      obtain ⟨v0, v1⟩ := x
      simp only at x0 x1
      have hab : ad.block < w.heap.size := by
        obtain ⟨ad2, e2, y0, _⟩ := at_T41 K1.out (k : Int) (by omega) hki
        cases e2
        have := World.block_lt_of_cell? w _ y0
        rwa [block_add] at this
      have hna : ad.block ∉ fp := fun hh => by have := HN.out _ hh; omega
      obtain ⟨who, is, hR⟩ := yputR_form a0 S v0 v1
      have HR := Lib.hid hR; clear hR
      have HNA := Lib.hid hna; clear hna
      have HAB := Lib.hid hab; clear hab
      have hkk : (k : Int) ≤ 200 := by omega
      go_wp2_with fail
      go_region_held3 (fun w' => w'.cell? (ad.add (k * 2)) = some (.int .u64 v0) ∧ w'.cell? ⟨(ad.add (k * 2)).block, (ad.add (k * 2)).off + 1, none⟩ = some (.int .u64 v1))
        ((first | go_keep | exact ⟨cell_fr hF2 (by assumption) (by rw [block_add]; exact HNA.out), cell_fr hF2 (by assumption) (by show (ad.add (k * 2)).block ∉ fp; rw [block_add]; exact HNA.out)⟩))
        ((go_at_call 18; refine (TPut_q (HY.out.fr (Fr.refl [] wr).drew (by simp)) v0 v1 (by omega) (by omega)).mono ?_; rintro e w2 ⟨he, fp2, hY2, hn2, hF2⟩; rw [HR.out] at he; subst he))
      have hF3 : Fr [] w w2 := HF.out.drew.trans' hF2 (fun b hb => .inr (HN.out b hb))
      have hSL : SL w2 Am cm S := HS.out.fr ((Fr.refl fp wr).drew.trans hF2) HD.out
      have hDA : ∀ ad, Am = some ad → S.length ≠ 0 → ad.block ∉ fp2 := fun ad e hne hh => by
        rcases hn2 _ hh with h | h
        · exact HD.out ad e h
        · obtain ⟨ad2, e2, hc⟩ := HS.out.1.2.2 (by omega)
          rw [e] at e2; cases e2
          obtain ⟨c, h1, h2, h3⟩ := hc 0 ((S.map cv)[0]'(by simp; omega)) (List.getElem?_eq_getElem _)
          obtain ⟨u, hu⟩ : ∃ u, c[0]? = some u := ⟨_, List.getElem?_eq_getElem (by rw [h1]; exact Nat.zero_lt_succ _)⟩
          have := World.block_lt_of_cell? wr _ (h3 0 u hu)
          rw [block_add] at this
          have h4 : wr.drew.heap.size = wr.heap.size := rfl
          omega
      have hN2 : ∀ b, b ∈ fp2 → w.heap.size ≤ b := fun b hb => by
        rcases hn2 b hb with h | h
        · exact HN.out b h
        · have := HF.out.size; exact Nat.le_trans this h
      have z0 : w2.cell? (ad.add (k * 2)) = some (.int .u64 v0) := cell_fr hF3 (by
        obtain ⟨ad2, e2, y0, _⟩ := at_T41 K1.out (k : Int) (by omega) hki
        cases e2
        rw [HX.out] at y0
        simpa using y0) (by simp)
      have z1 : w2.cell? ⟨(ad.add (k * 2)).block, (ad.add (k * 2)).off + 1, none⟩ = some (.int .u64 v1) := cell_fr hF3 (by
        obtain ⟨ad2, e2, _, y1⟩ := at_T41 K1.out (k : Int) (by omega) hki
        cases e2
        rw [HX.out] at y1
        simpa using y1) (by simp)
      have HF3 := Lib.hid hF3; clear hF3
      have HSL := Lib.hid hSL; clear hSL
      have HDA := Lib.hid hDA; clear hDA
      have HN2 := Lib.hid hN2; clear hN2
      have HY2 := Lib.hid hY2; clear hY2
      clear hn2 hF2 x0 x1 HY HS HF
      go_wp2_with fail
      refine (Put14_r w2 Am cm S v0 v1 a0 HSL.out (by omega) h0).mono ?_
      rintro e w3 ⟨A', c', who', is', rfl, hR2, hS3, hA3, hB3⟩
      rw [HR.out] at hR2
      simp only [Value.tuple.injEq, Array.mk.injEq, List.cons.injEq, Value.int.injEq, Value.bool.injEq, true_and, and_true] at hR2
      obtain ⟨rfl, rfl⟩ := hR2
      have YY := HY2.out.fr (Fr.of_below hB3 [] (Nat.le_refl _)) (by simp)
      have hF4 : Fr [] w w3 := HF3.out.trans (Fr.of_below hB3 [] (Nat.le_refl _))
      have hD3 : ∀ ad, A' = some ad → ad.block ∉ fp2 := fun ad e hh => by
        have := (hA3 ad e).1
        have := tombOrder.YA.lt HY2.out _ hh
        omega
      have HF4 := Lib.hid hF4; clear hF4
      have HD3 := Lib.hid hD3; clear hD3
      have HS3 := Lib.hid hS3; clear hS3
      have hl1 : ((yput a0 S v0 v1).length : Int) ≤ a0 := tombKeeps.len_yput hSl
      have hl2 : (yput a0 S v0 v1).length ≤ k + 1 := Nat.le_trans len_yput' (by omega)
      generalize yput a0 S v0 v1 = S2 at *
      clear hA3 hB3 z0 z1 HDA HSL
      go_wp2_with fail
      refine (TLen_q YY).mono ?_
      rintro e w5 ⟨rfl, rfl⟩
      go_wp2_with fail
      refine (TLen_q YY).mono ?_
      rintro e w5 ⟨rfl, rfl⟩
      have HYY := Lib.hid YY; clear YY
      go_wp2_with fail
      go_loopw [17] (fun jv wt => ∃ (j : Nat), jv = .int .i64 j ∧ j ≤ k + 1 ∧ Hid (Fr [] w3 wt)) (fun jv _ => k + 1 - (intOf jv).toNat)
      case atStart => exact ⟨0, rfl, Nat.zero_le _, Fr.refl _ _⟩
      case round =>
        obtain ⟨j, rfl, hj, HT⟩ := hrel
        rename_i wt
        by_cases hjk : j ≤ k
        · have hji : (j : Int) ≤ k := by omega
          have hjl : (j : Int) < l1.length := by omega
          obtain ⟨ad2, e2, x0, x1⟩ := at_T41 (Kd.C_below K1.out (HF4.out.trans HT.out).below) (j : Int) (by omega) hjl
          cases e2
          simp only [Int.toNat_natCast] at x0 x1
          generalize (rd_T41 l1 (j : Int)).f0 = u at *
          have hEQ := isSome_find S2 u
          have HEQ := Lib.hid hEQ; clear hEQ
          have HYT := Lib.hid (HYY.out.fr HT.out (by simp))
          have HST := Lib.hid (HS3.out.below HT.out.below)
          clear x1
          cases hb : (S2.lookup u).isSome with
          | true =>
            have hge : (0 : Int) ≤ findS S2 u := by have := HEQ.out; rw [hb] at this; simpa using this.symm
            go_wp2_with fail
            go_quiet ((first | (go_at_call 21; exact Calls.quiet_of_same ((THas_q (HYT.out.fr ((Fr.refl [] _).drewN _) (by simp)) u).mono (fun _ _ h => ⟨h.1, h.2.symm⟩))) | (go_at_call 22; exact Calls.quiet_of (Find_r _ A' c' S2 u (HST.out.below (Below_drewN (Below.refl _ _) _)) (by omega)))))
            go_wp2_with fail
            go_roundw
            case rel => exact ⟨j + 1, by go_num, by omega, HT.out.drewN _⟩
            case measure => simp [intOf]; omega
          | false =>
            have hge : findS S2 u < (0 : Int) := by have := HEQ.out; rw [hb] at this; have := this.symm; simp at this; omega
            go_wp2_with fail
            go_quiet ((first | (go_at_call 21; exact Calls.quiet_of_same ((THas_q (HYT.out.fr ((Fr.refl [] _).drewN _) (by simp)) u).mono (fun _ _ h => ⟨h.1, h.2.symm⟩))) | (go_at_call 22; exact Calls.quiet_of (Find_r _ A' c' S2 u (HST.out.below (Below_drewN (Below.refl _ _) _)) (by omega)))))
            go_wp2_with fail
            go_roundw
            case rel => exact ⟨j + 1, by go_num, by omega, HT.out.drewN _⟩
            case measure => simp [intOf]; omega
        · have HYT := Lib.hid (HYY.out.fr HT.out (by simp))
          have HST := Lib.hid (HS3.out.below HT.out.below)
          have hEQ := isSome_find S2 a2
          have HEQ := Lib.hid hEQ; clear hEQ
          cases hb : (S2.lookup a2).isSome with
          | true =>
            have hge : (0 : Int) ≤ findS S2 a2 := by have := HEQ.out; rw [hb] at this; simpa using this.symm
            have HB := Lib.hid hb; clear hb
            go_wp2_with fail
            refine (THas_q HYT.out a2).mono ?_
            rintro e w6 ⟨rfl, rfl⟩
            rw [HB.out]
            go_wp2_with fail
            refine (Find_r _ A' c' S2 a2 HST.out (by omega)).mono ?_
            rintro e w6 ⟨rfl, nd, rfl⟩
            go_wp2_with fail
            go_roundw
            case rel => exact ⟨k + 1, S2, fp2, A', c', by go_num, rfl, by omega, HYT.out.fr ((Fr.refl [] _).drewN _) (by simp), HST.out.below (Below_drewN (Below.refl _ _) _), hl1, hl2, HD3, HN2, (HF4.out.trans HT.out).drewN _⟩
            case measure => simp [intOf]; omega
          | false =>
            have hge : findS S2 a2 < (0 : Int) := by have := HEQ.out; rw [hb] at this; have := this.symm; simp at this; omega
            have HB := Lib.hid hb; clear hb
            go_wp2_with fail
            refine (THas_q HYT.out a2).mono ?_
            rintro e w6 ⟨rfl, rfl⟩
            rw [HB.out]
            go_wp2_with fail
            refine (Find_r _ A' c' S2 a2 HST.out (by omega)).mono ?_
            rintro e w6 ⟨rfl, nd, rfl⟩
            go_wp2_with fail
            go_roundw
            case rel => exact ⟨k + 1, S2, fp2, A', c', by go_num, rfl, by omega, HYT.out.fr ((Fr.refl [] _).drewN _) (by simp), HST.out.below (Below_drewN (Below.refl _ _) _), hl1, hl2, HD3, HN2, (HF4.out.trans HT.out).drewN _⟩
            case measure => simp [intOf]; omega
    · go_wp2_with fail
      go_ret
      exact ⟨rfl, HF.out.below⟩
end Go.Proofs.Ytfeikcfhionjkaa.tombPlays
