/- tomb's yard: what its methods answer and leave, as a sorted list. -/
import Derived.Test.YtfeikcfhionjkaaHeapAlive
set_option linter.unusedVariables false
set_option linter.unusedSimpArgs false
namespace Go.Proofs.Ytfeikcfhionjkaa.Hp
open Go.RowKit Go.Proofs.Ytfeikcfhionjkaa.B0

def YA (w : World) (y : Nat) (most : Int) (S : List (Int × Int)) (fp : List Nat) : Prop :=
  ∃ q fq, w.heap[y]? = some (.cells #[.int .i64 most, .pointer (some ⟨q, 0, none⟩)] 71 (0, 0)) ∧ QA w q S fq ∧ y ∉ fq ∧ fp = y :: fq

theorem YA.fr {w w' : World} {y : Nat} {most : Int} {S : List (Int × Int)} {fp F : List Nat} (h : YA w y most S fp) (hf : Fr F w w') (hd : ∀ k, k ∈ fp → k ∉ F) : YA w' y most S fp := by
  obtain ⟨q, fq, h1, h2, h3, rfl⟩ := h
  exact ⟨q, fq, hf.get h1 (hd y (by simp)), h2.fr hf (fun k hk => hd k (by simp [hk])), h3, rfl⟩

set_option maxHeartbeats 1000000 in
theorem TNew_c (most : Int) (w : World) (h0 : 0 ≤ most) (h1 : most ≤ 65536) : Calls Try.prog 17 #[.int .i64 most] w fun e w' => ∃ y fp, e = .returned (.tuple #[.pointer (some ⟨y, 0, none⟩), .int .i64 0]) ∧ YA w' y most [] fp ∧ Fr [] w w' ∧ (∀ k, k ∈ fp → w.heap.size ≤ k) := by
  go_enter Try.func17, Try.ntmps17
  go_wp2_with fail
  refine (New_c w).mono ?_
  rintro e w0 ⟨q, fp0, rfl, hQ0, hF0, hn0⟩
  have HQ := Lib.hid hQ0; clear hQ0
  have HF := Lib.hid hF0; clear hF0
  have HN := Lib.hid hn0; clear hn0
  go_wp2_with fail
  go_ret2
  refine ⟨w0.heap.size, _, rfl, ⟨q, fp0, allocN w0 _, HQ.out.fr ((Fr.refl [] w0).alloc _) (by simp), ?_, rfl⟩, HF.out.alloc _, ?_⟩
  · intro hh; have := HQ.out.lt _ hh; omega
  · intro k hk
    rcases List.mem_cons.1 hk with rfl | hk
    · exact HF.out.size
    · exact HN.out k hk
theorem TNew_no (most : Int) (w : World) (h : most < 0 ∨ 65536 < most) : Calls Try.prog 17 #[.int .i64 most] w fun e w' => e = .returned (.tuple #[.pointer none, .int .i64 1]) ∧ w = w' := by
  by_cases h0 : most < 0
  · clear h
    go_enter Try.func17, Try.ntmps17
    go_wp2_with fail
    go_ret2
    exact ⟨rfl, rfl⟩
  · have h1 : 65536 < most := by omega
    clear h
    go_enter Try.func17, Try.ntmps17
    go_wp2_with fail
    go_ret2
    exact ⟨rfl, rfl⟩

set_option maxHeartbeats 1000000 in
theorem TLen_q {w : World} {y : Nat} {most : Int} {S : List (Int × Int)} {fp : List Nat} (h : YA w y most S fp) : Calls Try.prog 20 #[.pointer (some ⟨y, 0, none⟩)] w fun e w' => e = .returned (.int .i64 S.length) ∧ w = w' := by
  obtain ⟨q, fq, h1, h2, h3, rfl⟩ := h
  have c1 : w.cell? ⟨y, 1, none⟩ = some (.pointer (some ⟨q, 0, none⟩)) := cellB h1 1
  have H2 := Lib.hid h2; clear h2
  clear h1 h3
  go_enter Try.func20, Try.ntmps20
  go_wp2_with fail
  refine (Len_q H2.out).mono ?_
  rintro e w1 ⟨rfl, rfl⟩
  go_wp2_with fail
  go_ret
  exact ⟨rfl, rfl⟩

set_option maxHeartbeats 1000000 in
theorem THas_q {w : World} {y : Nat} {most : Int} {S : List (Int × Int)} {fp : List Nat} (h : YA w y most S fp) (id : Int) : Calls Try.prog 21 #[.pointer (some ⟨y, 0, none⟩), .int .u64 id] w fun e w' => e = .returned (.bool (S.lookup id).isSome) ∧ w = w' := by
  obtain ⟨q, fq, h1, h2, h3, rfl⟩ := h
  have c1 : w.cell? ⟨y, 1, none⟩ = some (.pointer (some ⟨q, 0, none⟩)) := cellB h1 1
  have H2 := Lib.hid h2; clear h2
  clear h1 h3
  cases hl : S.lookup id with
  | none =>
    have hA : AtR S id = .tuple #[.int .u64 0, .bool false] := by unfold AtR; rw [hl]
    have HA := Lib.hid hA; clear hA
    clear hl
    go_enter Try.func21, Try.ntmps21
    go_wp2_with fail
    refine (At_q H2.out id).mono ?_
    rintro e w1 ⟨rfl, rfl⟩
    rw [HA.out]
    go_wp2_with fail
    go_ret
    exact ⟨rfl, rfl⟩
  | some t =>
    have hA : AtR S id = .tuple #[.int .u64 t, .bool true] := by unfold AtR; rw [hl]
    have HA := Lib.hid hA; clear hA
    clear hl
    go_enter Try.func21, Try.ntmps21
    go_wp2_with fail
    refine (At_q H2.out id).mono ?_
    rintro e w1 ⟨rfl, rfl⟩
    rw [HA.out]
    go_wp2_with fail
    go_ret
    exact ⟨rfl, rfl⟩

/-- what a Put of the yard leaves, and answers. -/
def yput (most : Int) (S : List (Int × Int)) (id t : Int) : List (Int × Int) := if ((putS S id t).length : Int) ≤ most then putS S id t else (putS S id t).tail
def yputR (most : Int) (S : List (Int × Int)) (id t : Int) : Value :=
  if ((putS S id t).length : Int) ≤ most then .tuple #[.int .u64 0, .bool false, .int .i64 0] else
  match putS S id t with | [] => .nilFunc | x :: _ => .tuple #[.int .u64 x.1, .bool true, .int .i64 0]

theorem QA.sorted {w : World} {q : Nat} {S : List (Int × Int)} {fp : List Nat} (h : QA w q S fp) : S.Pairwise ltP ∧ (S.map Prod.fst).Nodup := by
  obtain ⟨mb, r, L, M, h1, rfl⟩ := h
  exact ⟨h1.so, h1.idsS⟩
theorem delS_head {x : Int × Int} {S : List (Int × Int)} (h : ((x :: S).map Prod.fst).Nodup) : delS (x :: S) x.1 = S := by
  rw [List.map_cons, List.nodup_cons] at h
  unfold delS
  rw [List.filter_cons]
  simp only [decide_true, Bool.not_true, Bool.false_eq_true, if_false]
  rw [List.filter_eq_self]
  intro a ha
  have : a.1 ≠ x.1 := fun hh => h.1 (by rw [← hh]; exact List.mem_map.2 ⟨a, ha, rfl⟩)
  simp [this]
theorem len_putS (S : List (Int × Int)) (id t : Int) : (putS S id t).length ≤ S.length + 1 ∧ 0 < (putS S id t).length := by
  unfold putS
  rw [(insS_perm _ _).length_eq]
  have := List.length_filter_le (fun p : Int × Int => !decide (p.1 = id)) S
  unfold delS
  simp only [List.length_cons]; omega

set_option maxRecDepth 100000 in
set_option maxHeartbeats 4000000 in
theorem TPut_q {w : World} {y : Nat} {most : Int} {S : List (Int × Int)} {fp : List Nat} (h : YA w y most S fp) (id t : Int) (h0 : 0 ≤ most) (hS : S.length < 1000000) :
    Calls Try.prog 18 #[.pointer (some ⟨y, 0, none⟩), .int .u64 id, .int .u64 t] w fun e w' => e = .returned (yputR most S id t) ∧ ∃ fp', YA w' y most (yput most S id t) fp' ∧ (∀ k, k ∈ fp' → k ∈ fp ∨ w.heap.size ≤ k) ∧ Fr fp w w' := by
  obtain ⟨q, fq, h1, h2, h3, rfl⟩ := h
  have c0 : w.cell? ⟨y, 0, none⟩ = some (.int .i64 most) := cellB h1 0
  have c1 : w.cell? ⟨y, 1, none⟩ = some (.pointer (some ⟨q, 0, none⟩)) := cellB h1 1
  have H2 := Lib.hid h2; clear h2
  have H1 := Lib.hid h1; clear h1
  have ly := lt_of_get H1.out
  have hl := len_putS S id t
  go_enter Try.func18, Try.ntmps18
  go_wp2_with fail
  refine (Put_q H2.out id t (by omega)).mono ?_
  rintro e w1 ⟨rfl, fq1, hQ1, hn1, hF1⟩
  have hy1 := hF1.get H1.out h3
  have d0 : w1.cell? ⟨y, 0, none⟩ = some (.int .i64 most) := cellB hy1 0
  have d1 : w1.cell? ⟨y, 1, none⟩ = some (.pointer (some ⟨q, 0, none⟩)) := cellB hy1 1
  have hyn : y ∉ fq1 := fun hh => by
    rcases hn1 y hh with x | x
    · exact h3 x
    · omega
  have HQ1 := Lib.hid hQ1; clear hQ1
  have HN1 := Lib.hid hn1; clear hn1
  have HF1 := Lib.hid hF1; clear hF1
  have HY1 := Lib.hid hy1; clear hy1
  have HYN := Lib.hid hyn; clear hyn
  have H3 := Lib.hid h3; clear h3
  clear c0 c1 ly
  by_cases hle : ((putS S id t).length : Int) ≤ most
  · have e1 : yput most S id t = putS S id t := by unfold yput; rw [if_pos hle]
    have e2 : yputR most S id t = .tuple #[.int .u64 0, .bool false, .int .i64 0] := by unfold yputR; rw [if_pos hle]
    have E1 := Lib.hid e1; clear e1
    have E2 := Lib.hid e2; clear e2
    go_wp2_with fail
    go_quiet ((go_at_call 13; exact Calls.quiet_of_same ((Len_q (HQ1.out.fr ((Fr.refl [] w1).drewN _) (by simp))).mono (fun _ _ h => ⟨h.1, h.2.symm⟩))))
    go_wp2_with fail
    go_ret3
    refine ⟨by rw [E2.out]; rfl, y :: fq1, ⟨q, fq1, HY1.out, by rw [E1.out]; exact HQ1.out.fr ((Fr.refl [] w1).drewN _) (by simp), HYN.out, rfl⟩, ?_, (HF1.out.mono (by simp; intro k hk; exact .inr hk)).drewN _⟩
    intro k hk
    rcases List.mem_cons.1 hk with rfl | hk
    · exact .inl (by simp)
    · rcases HN1.out k hk with x | x
      · exact .inl (by simp [x])
      · exact .inr x
  · obtain ⟨x, R, hx⟩ : ∃ x R, putS S id t = x :: R := by
      cases hp : putS S id t with
      | nil => rw [hp] at hl; simp at hl
      | cons x R => exact ⟨x, R, rfl⟩
    have e1 : yput most S id t = R := by unfold yput; rw [if_neg hle, hx]; rfl
    have e2 : yputR most S id t = .tuple #[.int .u64 x.1, .bool true, .int .i64 0] := by unfold yputR; rw [if_neg hle, hx]
    have HQx : Hid (QA w1 q (x :: R) fq1) := by rw [← hx]; exact HQ1.out
    have hdel : delS (x :: R) x.1 = R := delS_head (QA.sorted HQx.out).2
    have hRl : (x :: R).length < 1000000000000 := by rw [← hx]; omega
    have HD := Lib.hid hdel; clear hdel
    have E1 := Lib.hid e1; clear e1
    have E2 := Lib.hid e2; clear e2
    have hle' : most < (putS S id t).length := by omega
    have HX := Lib.hid hx; clear hx
    go_wp2_with fail
    go_quiet ((go_at_call 13; exact Calls.quiet_of_same ((Len_q (HQ1.out.fr ((Fr.refl [] w1).drewN _) (by simp))).mono (fun _ _ h => ⟨h.1, h.2.symm⟩))))
    go_wp2_with fail
    refine (First_q (HQx.out.fr ((Fr.refl [] w1).drewN _) (by simp))).mono ?_
    rintro e w2 ⟨rfl, nd, rfl⟩
    rw [show FirstR (x :: R) = .tuple #[.int .u64 x.1, .int .u64 x.2, .bool true] from rfl]
    go_wp2_with fail
    refine (Drop_q (HQx.out.fr ((Fr.refl [] w1).drewN _) (by simp)) x.1 hRl).mono ?_
    rintro e w3 ⟨rfl, fq2, hQ2, hn2, hF2⟩
    rw [HD.out] at hQ2
    have HQ2 := Lib.hid hQ2; clear hQ2
    have HN2 := Lib.hid hn2; clear hn2
    have HF2 := Lib.hid hF2; clear hF2
    go_wp2_with fail
    go_ret3
    have hFa : Fr fq1 w1 w3 := ((Fr.refl fq1 w1).drewN _).trans HF2.out
    refine ⟨by rw [E2.out]; rfl, y :: fq2, ⟨q, fq2, hFa.get HY1.out HYN.out, by rw [E1.out]; exact HQ2.out, fun hh => HYN.out (HN2.out y hh), rfl⟩, ?_, ?_⟩
    · intro k hk
      rcases List.mem_cons.1 hk with rfl | hk
      · exact .inl (by simp)
      · rcases HN1.out k (HN2.out k hk) with x | x
        · exact .inl (by simp [x])
        · exact .inr x
    · refine (HF1.out.mono (by simp; intro k hk; exact .inr hk)).trans' hFa ?_
      intro k hk
      rcases HN1.out k hk with x | x
      · exact .inl (by simp [x])
      · exact .inr x

set_option maxHeartbeats 1000000 in
theorem TNil (w : World) (id t : Int) : Calls Try.prog 18 #[.pointer none, .int .u64 id, .int .u64 t] w (fun e w' => e = .returned (.tuple #[.int .u64 0, .bool false, .int .i64 3]) ∧ w = w') ∧
    Calls Try.prog 21 #[.pointer none, .int .u64 id] w (fun e w' => e = .returned (.bool false) ∧ w = w') ∧
    Calls Try.prog 20 #[.pointer none] w (fun e w' => e = .returned (.int .i64 0) ∧ w = w') := by
  refine ⟨?_, ?_, ?_⟩
  · go_enter Try.func18, Try.ntmps18
    go_wp2_with fail
    go_ret3
    exact ⟨rfl, rfl⟩
  · go_enter Try.func21, Try.ntmps21
    go_wp2_with fail
    go_ret
    exact ⟨rfl, rfl⟩
  · go_enter Try.func20, Try.ntmps20
    go_wp2_with fail
    go_ret
    exact ⟨rfl, rfl⟩
end Go.Proofs.Ytfeikcfhionjkaa.Hp
