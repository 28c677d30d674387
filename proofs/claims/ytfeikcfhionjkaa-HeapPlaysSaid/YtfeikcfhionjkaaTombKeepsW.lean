/- tallyroomlaw14.alive; and TombKeeps: the law's walk. -/
import Derived.Test.YtfeikcfhionjkaaTomb
import Derived.Test.YtfeikcfhionjkaaPkOp
set_option linter.unusedVariables false
set_option linter.unusedSimpArgs false
namespace Go.Proofs.Ytfeikcfhionjkaa.Hp
open Go.RowKit Go.Proofs.Ytfeikcfhionjkaa.B0

set_option maxRecDepth 100000 in
set_option maxHeartbeats 4000000 in
theorem alive14 (w : World) : Calls Try.prog 16 #[] w fun e w' => e = .returned (.bool true) ∧ Fr [] w w' := by
  go_enter Try.func16, Try.ntmps16
  go_wp2_with fail
  refine (TNew_c 1 w (by omega) (by omega)).mono ?_
  rintro e w0 ⟨y, fp0, rfl, hY0, hF0, hn0⟩
  have H0 := Lib.hid hF0; clear hF0
  have N0 := Lib.hid hn0; clear hn0
  go_wp2_with fail
  refine (TPut_q hY0 5 9 (by omega) (by decide)).mono ?_
  rintro e w1 ⟨rfl, fp1, hY1, hn1, hF1⟩
  rw [show yput 1 [] 5 9 = [(5, 9)] from by decide] at hY1
  rw [show yputR 1 [] 5 9 = .tuple #[.int .u64 0, .bool false, .int .i64 0] from by kernel_rfl]
  have H1 := Lib.hid hF1; clear hF1
  have N1 := Lib.hid hn1; clear hn1
  clear hY0
  go_wp2_with fail
  refine (TPut_q hY1 6 8 (by omega) (by decide)).mono ?_
  rintro e w2 ⟨rfl, fp2, hY2, hn2, hF2⟩
  rw [show yput 1 [(5, 9)] 6 8 = [(5, 9)] from by decide] at hY2
  rw [show yputR 1 [(5, 9)] 6 8 = .tuple #[.int .u64 6, .bool true, .int .i64 0] from by kernel_rfl]
  have H2 := Lib.hid hF2; clear hF2
  have N2 := Lib.hid hn2; clear hn2
  clear hY1
  go_wp2_with fail
  refine (TNew_no (-1) w2 (.inl (by omega))).mono ?_
  rintro e w3 ⟨rfl, rfl⟩
  go_wp2_with fail
  refine (THas_q hY2 5).mono ?_
  rintro e w3 ⟨rfl, rfl⟩
  rw [show (List.lookup (5 : Int) [((5 : Int), (9 : Int))]).isSome = true from by decide]
  go_wp2_with fail
  refine (THas_q hY2 6).mono ?_
  rintro e w3 ⟨rfl, rfl⟩
  rw [show (List.lookup (6 : Int) [((5 : Int), (9 : Int))]).isSome = false from by decide]
  clear hY2
  go_wp2_with fail
  go_ret
  refine ⟨rfl, ?_⟩
  have a1 : Fr [] w w1 := H0.out.trans' H1.out (fun k hk => .inr (N0.out k hk))
  have b1 : ∀ k, k ∈ fp1 → w.heap.size ≤ k := fun k hk => by
    rcases N1.out k hk with x | x
    · exact N0.out k x
    · have := H0.out.size; omega
  exact a1.trans' H2.out (fun k hk => .inr (b1 k hk))
end Go.Proofs.Ytfeikcfhionjkaa.Hp

namespace Go.Proofs.Ytfeikcfhionjkaa.tombKeeps
open Go.RowKit Go.Proofs.Ytfeikcfhionjkaa.B0 Go.Proofs.Ytfeikcfhionjkaa.Hp Go.Proofs.YtfeikcfhionjkaaW.PrintWords Go.Proofs.Ytfeikcfhionjkaa.Pk

theorem mem_putS {S : List (Int × Int)} {id t : Int} {x : Int × Int} (h : x ∈ putS S id t) : x = (id, t) ∨ x ∈ S := by
  unfold putS at h
  rcases List.mem_cons.1 ((insS_perm _ _).mem_iff.1 h) with h | h
  · exact .inl h
  · exact .inr ((List.mem_filter.1 h).1)
theorem mem_yput {m : Int} {S : List (Int × Int)} {id t : Int} {x : Int × Int} (h : x ∈ yput m S id t) : x = (id, t) ∨ x ∈ S := by
  unfold yput at h
  split at h
  · exact mem_putS h
  · exact mem_putS (List.mem_of_mem_tail h)
theorem len_yput {m : Int} {S : List (Int × Int)} {id t : Int} (h : (S.length : Int) ≤ m) : ((yput m S id t).length : Int) ≤ m := by
  have := len_putS S id t
  unfold yput
  split
  · assumption
  · rw [List.length_tail]; omega
theorem nodup_putS {S : List (Int × Int)} (h : (S.map Prod.fst).Nodup) (id t : Int) : ((putS S id t).map Prod.fst).Nodup := by
  have hp := (insS_perm (id, t) (delS S id)).map Prod.fst
  refine hp.nodup_iff.2 ?_
  rw [List.map_cons, List.nodup_cons]
  refine ⟨not_mem_delS S id, ?_⟩
  exact (List.filter_sublist.map _).nodup h
theorem lookup_isSome {S : List (Int × Int)} {id : Int} : (S.lookup id).isSome = decide (id ∈ S.map Prod.fst) := by
  induction S with
  | nil => rfl
  | cons a S ih =>
    simp only [List.lookup, List.map_cons, List.mem_cons]
    by_cases h : id = a.1
    · subst h; simp
    · have : (id == a.1) = false := by simp [h]
      simp [this, ih, h]
/-- who comes last with the greatest time is remembered. -/
theorem keeps {m : Int} {S : List (Int × Int)} {id : Int} (hm : 1 ≤ m) (hl : (S.length : Int) ≤ m) (hs : S.Pairwise ltP) (hn : (S.map Prod.fst).Nodup) (ht : ∀ x, x ∈ S → x.2 ≤ 999) :
    ((yput m S id 1000).lookup id).isSome = true ∧ ∃ g b, yputR m S id 1000 = .tuple #[.int .u64 g, .bool b, .int .i64 0] ∧ (b = true → g ≠ id) := by
  have hmem : (id, 1000) ∈ putS S id 1000 := (insS_perm _ _).mem_iff.2 (by simp)
  have hsor := putS_sorted hs id 1000
  have hnod := nodup_putS hn id 1000
  have hlen := (len_putS S id 1000).1
  by_cases hle : ((putS S id 1000).length : Int) ≤ m
  · refine ⟨?_, 0, false, by unfold yputR; rw [if_pos hle], fun h => by cases h⟩
    have e : yput m S id 1000 = putS S id 1000 := by unfold yput; rw [if_pos hle]
    rw [e, lookup_isSome, decide_eq_true_eq]
    exact List.mem_map.2 ⟨_, hmem, rfl⟩
  · have e : yput m S id 1000 = (putS S id 1000).tail := by unfold yput; rw [if_neg hle]
    cases hp : putS S id 1000 with
    | nil => rw [hp] at hmem; simp at hmem
    | cons x R =>
      have e2 : yputR m S id 1000 = .tuple #[.int .u64 x.1, .bool true, .int .i64 0] := by unfold yputR; rw [if_neg hle, hp]
      rw [hp] at hmem hsor hnod hle
      have hR : R ≠ [] := by rintro rfl; simp at hle; omega
      have hne : x ≠ (id, 1000) := by
        rintro rfl
        obtain ⟨z, hz⟩ := List.exists_mem_of_ne_nil R hR
        have h1 := (List.pairwise_cons.1 hsor).1 z hz
        have hz2 : z ∈ putS S id 1000 := by rw [hp]; simp [hz]
        rcases mem_putS hz2 with rfl | h2
        · unfold ltP at h1; simp at h1
        · have := ht z h2; unfold ltP at h1; simp at h1; omega
      have hin : (id, 1000) ∈ R := by
        rcases List.mem_cons.1 hmem with h | h
        · exact absurd h.symm hne
        · exact h
      refine ⟨?_, x.1, true, e2, fun _ hh => ?_⟩
      · rw [e, hp, lookup_isSome, decide_eq_true_eq]
        exact List.mem_map.2 ⟨_, hin, rfl⟩
      · rw [List.map_cons, List.nodup_cons] at hnod
        exact hnod.1 (by rw [hh]; exact List.mem_map.2 ⟨_, hin, rfl⟩)

theorem YA.sorted {w : World} {y : Nat} {m : Int} {S : List (Int × Int)} {fp : List Nat} (h : YA w y m S fp) : S.Pairwise ltP ∧ (S.map Prod.fst).Nodup := by
  obtain ⟨q, fq, _, h2, _⟩ := h
  exact QA.sorted h2

set_option maxRecDepth 100000 in
set_option maxHeartbeats 8000000 in
theorem tombKeeps_walk (w : World) (a0 : Int) (w0 : (Lit.int .u8 a0).wf = true) (A1 : Option Addr) (c1 : Nat) (l1 : List S41) (C1 : Kd.C k41 w A1 l1.length l1) (_hc1 : l1.length ≤ c1) (m1 : l1.length ≤ maxLen) (W1 : ∀ x ∈ l1, W41 x) (a2 : Int) (w2 : (Lit.int .u64 a2).wf = true) :
    Calls Try.prog 5 #[.int .u8 a0, .slice A1 l1.length c1, .int .u64 a2] w fun e w' => e = .returned (.bool true) ∧ Below w.heap.size w w' := by
  have K1 := Lib.hid C1; clear C1
  have HW1 := Lib.hid W1; clear W1
  obtain ⟨b0, b1⟩ := wf_u8 w0
  clear w0 w2
  unfold maxLen at m1
  go_enter Try.func5, Try.ntmps5
  go_wp2_with fail
  refine (alive14 w).mono ?_
  rintro e wa ⟨rfl, hFa⟩
  have HFa := Lib.hid hFa; clear hFa
  by_cases h200 : (200 : Int) < l1.length
  · go_wp2_with fail
    go_ret
    exact ⟨rfl, HFa.out.below⟩
  go_wp2_with fail
  refine (TNew_c (1 + a0) wa (by omega) (by omega)).mono ?_
  rintro e wb ⟨y, fp0, rfl, hY0, hF0, hn0⟩
  have HF0 : Hid (Fr [] w wb) := HFa.out.trans hF0
  have HN0 : Hid (∀ k, k ∈ fp0 → w.heap.size ≤ k) := fun k hk => Nat.le_trans HFa.out.size (hn0 k hk)
  have HY0 := Lib.hid hY0
  clear hF0 hn0 hY0 HFa
  go_wp2_with fail
  go_loopw [9] (fun iv wr => ∃ (k : Nat) (S : List (Int × Int)) (fp : List Nat), iv = .int .i64 k ∧ k ≤ l1.length ∧ YA wr y (1 + a0) S fp ∧ (S.length : Int) ≤ 1 + a0 ∧ Hid (∀ x, x ∈ S → x.2 ≤ 999) ∧ Hid (∀ b, b ∈ fp → w.heap.size ≤ b) ∧ Hid (Fr [] w wr)) (fun iv _ => l1.length - (intOf iv).toNat)
  case atStart => exact ⟨0, [], fp0, rfl, Nat.zero_le _, HY0.out, by simp; omega, fun x hx => by simp at hx, HN0, HF0⟩
  case round =>
    obtain ⟨k, S, fp, rfl, hk, hY, hSl, HT, HN, HF⟩ := hrel
    by_cases hkl : k < l1.length
    · have hki : (k : Int) < l1.length := by omega
      obtain ⟨ad, rfl, x0, x1⟩ := at_T41 (Kd.C_below K1.out HF.out.below) (k : Int) (by omega) hki
      have hx : rd_T41 l1 (k : Int) ∈ l1 := by
        unfold rd_T41
        rw [Int.toNat_natCast, List.getD_eq_getElem?_getD, List.getElem?_eq_getElem hkl]
        exact List.getElem_mem _
      have hb0 := (wf_u64 (HW1.out _ hx).2).1
      simp only [Int.toNat_natCast] at x0 x1
      generalize rd_T41 l1 (k : Int) = x at *
      obtain ⟨v0, v1⟩ := x
      simp only at x0 x1 hb0
      clear hx
      have HY := Lib.hid hY; clear hY
      go_wp2_with fail
      refine wp_region_still_tail 12 (by kernel_rfl) (by kernel_rfl) ?_
      simp only [List.take_succ_cons, List.take_zero, List.drop_succ_cons, List.drop_zero]
      change wpStill _ _ wr.drew _ _ _
      repeat still_step
      refine wpStill_nil ?_
      change wpList _ _ _ _ _ wr.drew
      go_wp2_with fail
      refine (TPut_q (HY.out.fr (Fr.refl [] wr).drew (by simp)) v0 (v1 % 1000) (by omega) (by omega)).mono ?_
      rintro e w2 ⟨rfl, fp2, hY2, hn2, hF2⟩
      have hF3 : Fr [] w w2 := HF.out.drew.trans' hF2 (fun b hb => .inr (HN.out b hb))
      have hN2 : ∀ b, b ∈ fp2 → w.heap.size ≤ b := fun b hb => by
        rcases hn2 b hb with x | x
        · exact HN.out b x
        · have := HF.out.size; exact Nat.le_trans this x
      have HF3 := Lib.hid hF3; clear hF3
      have HN2 := Lib.hid hN2; clear hN2
      have HY2 := Lib.hid hY2; clear hY2
      have HL2 := Lib.hid (len_yput (id := v0) (t := v1 % 1000) hSl)
      have HT2 : Hid (∀ x, x ∈ yput (1 + a0) S v0 (v1 % 1000) → x.2 ≤ 999) := fun x hx => by
        rcases mem_yput hx with rfl | h
        · show v1 % 1000 ≤ 999; omega
        · exact HT.out x h
      generalize yput (1 + a0) S v0 (v1 % 1000) = S2 at *
      generalize yputR (1 + a0) S v0 (v1 % 1000) = R2 at *
      clear hn2 hF2 x0 x1
      go_wp2_with fail
      go_roundw
      case rel => exact ⟨k + 1, S2, fp2, by go_num, by omega, HY2.out, HL2.out, HT2, HN2, HF3⟩
      case measure => simp [intOf]; omega
    · obtain ⟨hsor, hnod⟩ := YA.sorted hY
      obtain ⟨hfin, g, b, hR, hg⟩ := keeps (id := a2) (by omega) hSl hsor hnod HT.out
      have HFIN := Lib.hid hfin; clear hfin
      have HR := Lib.hid hR; clear hR
      clear hsor hnod
      have HL2 := len_yput (id := a2) (t := 1000) hSl
      go_wp2_with fail
      refine (TPut_q hY a2 1000 (by omega) (by omega)).mono ?_
      rintro e w2 ⟨rfl, fp2, hY2, hn2, hF2⟩
      rw [HR.out]
      have HF3 : Hid (Fr [] w w2) := HF.out.trans' hF2 (fun b hb => .inr (HN.out b hb))
      have hlen : ((yput (1 + a0) S a2 1000).length : Int) ≤ 1 + a0 := HL2
      clear HL2 hn2 hF2
      generalize yput (1 + a0) S a2 1000 = S2 at *
      have hlen' : ((S2.length : Int) ≤ 1 + a0) = True := by simp [hlen]
      cases b with
      | false =>
        clear hg
        go_wp2_with fail
        refine ((TNil w2 1 1).1).mono ?_
        rintro e w3 ⟨rfl, rfl⟩
        go_wp2_with fail
        refine (THas_q hY2 a2).mono ?_
        rintro e w3 ⟨rfl, rfl⟩
        rw [HFIN.out]
        go_wp2_with fail
        refine (TLen_q hY2).mono ?_
        rintro e w3 ⟨rfl, rfl⟩
        go_wp2_with fail
        refine ((TNil w2 1 1).2.1).mono ?_
        rintro e w3 ⟨rfl, rfl⟩
        go_wp2_with fail
        refine ((TNil w2 1 1).2.2).mono ?_
        rintro e w3 ⟨rfl, rfl⟩
        go_wp2_with fail
        go_ret
        exact ⟨rfl, HF3.out.below⟩
      | true =>
        have hne : (g != a2) = true := by simp [hg rfl]
        have hne' : (g == a2) = false := by simp [hg rfl]
        clear hg
        go_wp2_with fail
        refine ((TNil w2 1 1).1).mono ?_
        rintro e w3 ⟨rfl, rfl⟩
        go_wp2_with fail
        refine (THas_q hY2 a2).mono ?_
        rintro e w3 ⟨rfl, rfl⟩
        rw [HFIN.out]
        go_wp2_with fail
        refine (TLen_q hY2).mono ?_
        rintro e w3 ⟨rfl, rfl⟩
        go_wp2_with fail
        refine ((TNil w2 1 1).2.1).mono ?_
        rintro e w3 ⟨rfl, rfl⟩
        go_wp2_with fail
        refine ((TNil w2 1 1).2.2).mono ?_
        rintro e w3 ⟨rfl, rfl⟩
        go_wp2_with fail
        go_ret
        exact ⟨rfl, HF3.out.below⟩
end Go.Proofs.Ytfeikcfhionjkaa.tombKeeps
