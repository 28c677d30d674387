/- HeapPlays: the law's walk; Until's contract as a premise. -/
import Derived.Test.YtfeikcfhionjkaaHeapUntilV
import Derived.Test.YtfeikcfhionjkaaRefS
import Derived.Test.YtfeikcfhionjkaaKn
import Derived.Deep.CutBlock
import Derived.Deep.DeepCutAuto
set_option linter.unusedVariables false
set_option linter.unusedSimpArgs false
namespace Go.Proofs.Ytfeikcfhionjkaa.heapPlays
open Go.RowKit Go.Proofs.Ytfeikcfhionjkaa.B0 Go.Proofs.Ytfeikcfhionjkaa.Hp Go.Proofs.YtfeikcfhionjkaaW.PrintWords Go.Proofs.Ytfeikcfhionjkaa.heapSorts Go.Proofs.Ytfeikcfhionjkaa.heapUntil Go.Proofs.Ytfeikcfhionjkaa.Kn Go.Proofs.Ytfeikcfhionjkaa.Pk

theorem findS_neg (S : List (Int × Int)) (id : Int) : decide (findS S id < 0) = !decide (id ∈ S.map Prod.fst) := by
  have := findS_ge S id
  by_cases h : id ∈ S.map Prod.fst
  · simp only [h, decide_true, decide_eq_true_eq] at *; simp; omega
  · simp only [h, decide_false, decide_eq_false_iff_not] at *; simp; omega

/-- what At and Find tell of one id, and where its time lies. -/
theorem tail_find {w : World} {A : Option Addr} {c : Nat} {S : List (Int × Int)} (h : SL w A c S) (hn : (S.map Prod.fst).Nodup) (id : Int) :
    (AtR S id = .tuple #[.int .u64 0, .bool false] ∧ findS S id = -1) ∨ ∃ (i : Nat) (t : Int) (ad : Addr), AtR S id = .tuple #[.int .u64 t, .bool true] ∧ findS S id = i ∧ i < S.length ∧ A = some ad ∧ w.cell? ⟨(ad.add (i * 2)).block, (ad.add (i * 2)).off + 1, none⟩ = some (.int .u64 t) := by
  by_cases hm : id ∈ S.map Prod.fst
  · right
    have hi : (S.map Prod.fst).idxOf id < (S.map Prod.fst).length := List.idxOf_lt_length_iff.2 hm
    have hi' : (S.map Prod.fst).idxOf id < S.length := by simpa using hi
    obtain ⟨x, hx⟩ : ∃ x, S[(S.map Prod.fst).idxOf id]? = some x := ⟨_, List.getElem?_eq_getElem hi'⟩
    have hxid : x.1 = id := by
      have h1 := List.getElem_idxOf hi
      rw [List.getElem_map] at h1
      rw [← h1]
      rw [(List.getElem?_eq_some_iff.1 hx).2]
    have hlk : S.lookup id = some x.2 := by rw [← hxid]; exact lookup_at hn hx
    have hC : Kd.C k41 w A (S.map cv).length (S.map cv) := h.len
    obtain ⟨ad, rfl, _, y1⟩ := at_T41 hC ((S.map Prod.fst).idxOf id : Nat) (by omega) (by rw [List.length_map]; omega)
    refine ⟨(S.map Prod.fst).idxOf id, x.2, ad, ?_, ?_, hi', rfl, ?_⟩
    · unfold AtR; rw [hlk]
    · unfold findS; rw [if_pos hm]
    · rw [Int.toNat_natCast] at y1
      rw [y1]
      unfold rd_T41
      rw [Int.toNat_natCast, List.getD_eq_getElem?_getD, List.getElem?_map, hx]
      rfl
  · left
    refine ⟨?_, by unfold findS; rw [if_neg hm]⟩
    unfold AtR
    rw [lookup_none hm]

theorem sl_at {w : World} {A : Option Addr} {c : Nat} {S : List (Int × Int)} (h : SL w A c S) {j : Nat} {x : Int × Int} (hx : S[j]? = some x) : ∃ ad, A = some ad ∧ w.cell? (ad.add (j * 2)) = some (.int .u64 x.1) ∧ w.cell? ⟨(ad.add (j * 2)).block, (ad.add (j * 2)).off + 1, none⟩ = some (.int .u64 x.2) := by
  have hj := (List.getElem?_eq_some_iff.1 hx).1
  have hC : Kd.C k41 w A (S.map cv).length (S.map cv) := h.len
  obtain ⟨ad, rfl, y0, y1⟩ := at_T41 hC (j : Nat) (by omega) (by rw [List.length_map]; omega)
  have e : rd_T41 (S.map cv) (j : Nat) = cv x := by
    unfold rd_T41
    rw [Int.toNat_natCast, List.getD_eq_getElem?_getD, List.getElem?_map, hx]
    rfl
  rw [Int.toNat_natCast, e] at y0 y1
  exact ⟨ad, rfl, y0, y1⟩

set_option maxRecDepth 100000 in
set_option maxHeartbeats 8000000 in
theorem heapPlays_walk0 (hUQ : UntilC) (w : World) (A0 : Option Addr) (c0 : Nat) (l0 : List S54) (C0 : Kd.C k54 w A0 l0.length l0) (_hc0 : l0.length ≤ c0) (m0 : l0.length ≤ maxLen) (W0 : ∀ x ∈ l0, W54 x) :
    Calls Try.prog 8 #[.slice A0 l0.length c0] w fun e w' => e = .returned (.bool true) ∧ Below w.heap.size w w' := by
  have HUQ := Lib.hid hUQ; clear hUQ
  have K0 := Lib.hid C0; clear C0 W0
  unfold maxLen at m0
  go_enter Try.func8, Try.ntmps8
  go_wp2_with fail
  refine (alive12 w).mono ?_
  rintro e wa ⟨rfl, hFa⟩
  have HFa := Lib.hid hFa; clear hFa
  by_cases h200 : (200 : Int) < l0.length
  · go_wp2_with fail
    go_ret
    exact ⟨rfl, HFa.out.below⟩
  go_wp2_with fail
  refine (New_c wa).mono ?_
  rintro e w0 ⟨q, fp0, rfl, hQ0, hF0, hn0⟩
  have HF0 : Hid (Fr [] w w0) := HFa.out.trans hF0
  have HN0 : Hid (∀ k, k ∈ fp0 → w.heap.size ≤ k) := fun k hk => Nat.le_trans HFa.out.size (hn0 k hk)
  have HQ0 := Lib.hid hQ0
  clear hF0 hn0 hQ0 HFa
  go_wp2_with fail
  go_loopw [4, 5] (fun mv iv wr => ∃ (k : Nat) (S : List (Int × Int)) (fp : List Nat) (Am : Option Addr) (cm : Nat), iv = .int .i64 k ∧ mv = .slice Am S.length cm ∧ k ≤ l0.length ∧ Hid (QA wr q S fp) ∧ Hid (SL wr Am cm S) ∧ S.length ≤ k ∧ Hid (∀ ad, Am = some ad → ∃ g o, ad = ⟨g, o, none⟩ ∧ g ∉ fp ∧ g < wr.heap.size) ∧ Hid (∀ b, b ∈ fp → w.heap.size ≤ b) ∧ Hid (Fr [] w wr)) (fun _ iv _ => l0.length - (intOf iv).toNat)
  case atStart => exact ⟨0, [], fp0, none, 0, rfl, rfl, Nat.zero_le _, HQ0, ⟨⟨rfl, by simp, fun h => by simp at h⟩, by simp⟩, Nat.le_refl _, fun ad h => by (cases h), HN0, HF0⟩
  case round =>
    obtain ⟨k, S, fp, Am, cm, rfl, rfl, hk, HQ, HS, hSk, HD, HN, HF⟩ := hrel
    by_cases hkl : k < l0.length
    · have hki : (k : Int) < l0.length := by omega
      obtain ⟨ad, rfl, x0, x1, x2⟩ := at_T54 (Kd.C_below K0.out HF.out.below) (k : Int) (by omega) hki
      simp only [Int.toNat_natCast] at x0 x1 x2
      generalize rd_T54 l0 (k : Int) = x at *
      obtain ⟨ki, id, at_⟩ := x
      simp only at x0 x1 x2
      have hkk : (k : Int) ≤ 200 := by omega
      have hSI : S.length < 1000000 := by omega
      go_upto_block 2 with fail
      refine (Find_r _ Am cm S id (HS.out.below ((Below.refl _ _).alloc (Nat.le_refl _) _)) (by omega)).mono ?_
      rintro e w1 ⟨rfl, nd, rfl⟩
      obtain ⟨w1, hw1⟩ : ∃ w1, Hid (w1 = (wr.alloc (Obj.cells #[Value.int IntKind.i64 ki, Value.int IntKind.u64 id, Value.int IntKind.u64 at_] 54)).drewN nd) := ⟨_, rfl⟩
      rw [← hw1.out]
      have hga : w1.heap[wr.heap.size]? = some (.cells #[Value.int IntKind.i64 ki, Value.int IntKind.u64 id, Value.int IntKind.u64 at_] 54 (0, 0)) := by rw [hw1.out]; exact allocN wr _
      have hF1 : Fr [] wr w1 := by rw [hw1.out]; exact ((Fr.refl _ _).alloc _).drewN _
      obtain ⟨ga, hgae⟩ : ∃ ga, Hid (ga = wr.heap.size) := ⟨_, rfl⟩
      rw [← hgae.out] at hga ⊢
      have HGA := Lib.hid hga
      have HQ1 : Hid (QA w1 q S fp) := HQ.out.fr hF1 (by simp)
      have HS1 : Hid (SL w1 Am cm S) := HS.out.fr hF1 (by simp)
      have HF1 : Hid (Fr [] w w1) := HF.out.trans hF1
      have HD1 : Hid (∀ ad, Am = some ad → ∃ g o, ad = ⟨g, o, none⟩ ∧ g ∉ fp ∧ g < w1.heap.size) := fun ad e => by
        obtain ⟨g, o, h1, h2, h3⟩ := HD.out ad e
        exact ⟨g, o, h1, h2, by have := hF1.size; omega⟩
      have HNG : Hid (ga ∉ fp) := fun hh => by have := HQ.out.lt _ hh; rw [hgae.out] at this; omega
      have g0 : w1.cell? ⟨ga, 0, none⟩ = some (.int .i64 ki) := cellB hga 0
      have g1 : w1.cell? ⟨ga, 1, none⟩ = some (.int .u64 id) := cellB hga 1
      have g2 : w1.cell? ⟨ga, 2, none⟩ = some (.int .u64 at_) := cellB hga 2
      have fl := findS_neg S id
      have fg := findS_ge S id
      obtain ⟨b, hb⟩ : ∃ b, Hid (decide (id ∈ S.map Prod.fst) = b) := ⟨_, rfl⟩
      rw [hb.out] at fl fg
      obtain ⟨kf, hkf⟩ : ∃ kf, Hid (findS S id = kf) := ⟨_, rfl⟩
      rw [hkf.out] at fl fg ⊢
      clear HQ HS HF HD hF1 hw1 hgae hga x0 x1 x2
      go_upto_block 2 with fail
      go_cut [4] (fun mv wx => ∃ (S' : List (Int × Int)) (fp' : List Nat) (Am' : Option Addr) (cm' : Nat), mv = .slice Am' S'.length cm' ∧ Hid (QA wx q S' fp') ∧ Hid (SL wx Am' cm' S') ∧ S'.length ≤ k + 1 ∧ Hid (∀ ad, Am' = some ad → ∃ g o, ad = ⟨g, o, none⟩ ∧ g ∉ fp' ∧ g < wx.heap.size) ∧ Hid (∀ b, b ∈ fp' → w.heap.size ≤ b) ∧ Hid (Fr [] w wx) ∧ Hid (wx.heap[ga]? = some (.cells #[Value.int IntKind.i64 ki, Value.int IntKind.u64 id, Value.int IntKind.u64 at_] 54 (0, 0))))
      case rest =>
        as_aux_lemma =>
          obtain ⟨S', fp', Am', cm', rfl, HQ, HS, hSk', HD, HN', HF, HGA'⟩ := hcut
          clear fl fg g0 g1 g2 HQ1 HS1 HF1 HD1 HNG HGA hb hkf
          have HSS := Lib.hid (heapSorts.QA.sorted HQ.out)
          have hl2 : (S'.length : Int) ≤ 201 := by omega
          have hfin := tail_find HS.out HSS.out.2 id
          cases hS' : S' with
          | nil =>
            subst hS'
            have hA : AtR [] id = .tuple #[.int .u64 0, .bool false] := rfl
            have hFI : findS [] id = -1 := rfl
            clear hfin hl2
            go_wp2_with fail
            refine (First_q HQ.out).mono ?_
            rintro e w3 ⟨rfl, n3, rfl⟩
            rw [show FirstR [] = .tuple #[.int .u64 0, .int .u64 0, .bool false] from rfl]
            have QX : QA (wc.drewN n3) q [] fp' := HQ.out.fr ((Fr.refl [] _).drewN _) (by simp)
            have g1 : (wc.drewN n3).cell? ⟨ga, 1, none⟩ = some (.int .u64 id) := cellB (w := wc) HGA'.out 1
            go_wp2_with fail
            refine (Len_q QX).mono ?_
            rintro e w4 ⟨rfl, rfl⟩
            go_wp2_with fail
            refine (At_q QX id).mono ?_
            rintro e w5 ⟨rfl, rfl⟩
            rw [hA]
            clear hA
            go_wp2_with fail
            refine (Find_r _ Am' cm' [] id (HS.out.fr ((Fr.refl [] _).drewN _) (by simp)) (by simp)).mono ?_
            rintro e w5 ⟨rfl, n4, rfl⟩
            rw [hFI]
            clear hFI
            go_wp2_with fail
            go_roundw
            case rel => exact ⟨k + 1, [], fp', Am', cm', by go_num, rfl, by omega, HQ.out.fr ((Fr.refl [] wc).drewN _) (by simp), HS.out.fr ((Fr.refl [] wc).drewN _) (by simp), by omega, HD.out, HN', HF.out.drewN _⟩
            case measure => simp [intOf]; omega
          | cons x R =>
            subst hS'
            obtain ⟨ad0, rfl, x0, x1⟩ := HS.out.head
            have hgf := HD.out _ rfl
            obtain ⟨xi, xt⟩ := x
            simp only at x0 x1
            have hlc : (((xi, xt) :: R).length : Int) = R.length + 1 := by simp
            have hrl : (R.length : Int) ≤ 200 := by simp at hSk'; omega
            have hcm : (R.length : Int) + 1 ≤ cm' := by have := HS.out.2; simp at this; omega
            have HFIN := Lib.hid hfin; clear hfin
            have HGF := Lib.hid hgf; clear hgf
            have HSK := Lib.hid hSk'; clear hSk'
            clear hl2
            go_wp2_with fail
            refine (First_q HQ.out).mono ?_
            rintro e w3 ⟨rfl, n3, rfl⟩
            rw [show FirstR ((xi, xt) :: R) = .tuple #[.int .u64 xi, .int .u64 xt, .bool true] from rfl]
            have QX : Hid (QA (wc.drewN n3) q ((xi, xt) :: R) fp') := HQ.out.fr ((Fr.refl [] _).drewN _) (by simp)
            have g1 : (wc.drewN n3).cell? ⟨ga, 1, none⟩ = some (.int .u64 id) := cellB (w := wc) HGA'.out 1
            replace x0 : (wc.drewN n3).cell? ad0 = some (.int .u64 xi) := x0
            replace x1 : (wc.drewN n3).cell? ⟨ad0.block, ad0.off + 1, none⟩ = some (.int .u64 xt) := x1
            go_wp2_with fail
            refine (Len_q QX.out).mono ?_
            rintro e w4 ⟨rfl, rfl⟩
            rcases HFIN.out with ⟨hA, hFI⟩ | ⟨i, t, ad1, hA, hFI, hil, had, y1⟩
            · have HA := Lib.hid hA; clear hA
              have HFI := Lib.hid hFI; clear hFI HFIN
              go_wp2_with fail
              refine (At_q QX.out id).mono ?_
              rintro e w5 ⟨rfl, rfl⟩
              rw [HA.out]
              go_wp2_with fail
              refine (Find_r _ (some ad0) cm' ((xi, xt) :: R) id (HS.out.fr ((Fr.refl [] _).drewN _) (by simp)) (by simp; omega)).mono ?_
              rintro e w5 ⟨rfl, n4, rfl⟩
              rw [HFI.out]
              go_wp2_with fail
              go_roundw
              case rel => exact ⟨k + 1, (xi, xt) :: R, fp', some ad0, cm', by go_num, rfl, by omega, HQ.out.fr ((Fr.refl [] wc).drewN _) (by simp), HS.out.fr ((Fr.refl [] wc).drewN _) (by simp), HSK.out, fun ad e => by (cases e; exact HGF.out), HN', HF.out.drewN _⟩
              case measure => simp [intOf]; omega
            · have HA := Lib.hid hA; clear hA
              have HFI := Lib.hid hFI; clear hFI HFIN
              cases had
              have hil1 : (i : Int) < R.length + 1 := by simp at hil; omega
              have hil2 : (i : Int) < 1000000 := by omega
              have hi0 : (0 : Int) ≤ (i : Int) := by omega
              have hid : decide ((0 : Int) ≤ (i : Int)) = true := by simp
              replace y1 : (wc.drewN n3).cell? ⟨(ad0.add (i * 2)).block, (ad0.add (i * 2)).off + 1, none⟩ = some (.int .u64 t) := y1
              clear hil
              go_wp2_with fail
              refine (At_q QX.out id).mono ?_
              rintro e w5 ⟨rfl, rfl⟩
              rw [HA.out]
              go_wp2_with fail
              refine (Find_r _ (some ad0) cm' ((xi, xt) :: R) id (HS.out.fr ((Fr.refl [] _).drewN _) (by simp)) (by simp; omega)).mono ?_
              rintro e w5 ⟨rfl, n4, rfl⟩
              rw [HFI.out]
              replace y1 : wc.cell? ⟨(ad0.add (i * 2)).block, (ad0.add (i * 2)).off + 1, none⟩ = some (.int .u64 t) := y1
              go_wp2_with fail
              go_roundw
              case rel => exact ⟨k + 1, (xi, xt) :: R, fp', some ad0, cm', by go_num, rfl, by omega, HQ.out.fr ((Fr.refl [] wc).drewN _) (by simp), HS.out.fr ((Fr.refl [] wc).drewN _) (by simp), HSK.out, fun ad e => by (cases e; exact HGF.out), HN', HF.out.drewN _⟩
              case measure => simp [intOf]; omega
      case first =>
        have HFL := Lib.hid fl
        have hSl2 : (S.length : Int) ≤ 200 := by omega
        by_cases h0 : ki = 0
        · as_aux_lemma =>
            subst h0
            go_wp2_with fail
            refine (Put_q HQ1.out id at_ (by omega)).mono ?_
            rintro e w2 ⟨rfl, fp2, hQ2, hn2, hF2⟩
            have hnb : decide (id ∉ S.map Prod.fst) = !b := by rw [← hb.out]; exact decide_not
            rw [hnb]
            have hga2 : w2.heap[ga]? = _ := hF2.get HGA.out HNG.out
            have g1' : w2.cell? ⟨ga, 1, none⟩ = some (.int .u64 id) := cellB hga2 1
            have g2' : w2.cell? ⟨ga, 2, none⟩ = some (.int .u64 at_) := cellB hga2 2
            have HGA2 := Lib.hid hga2; clear hga2
            have HS2 : Hid (SL w2 Am cm S) := HS1.out.fr hF2 (fun ad e => by
              obtain ⟨g, o, rfl, h, _⟩ := HD1.out ad e; exact h)
            have HF2 : Hid (Fr [] w w2) := HF1.out.trans' hF2 (fun b hb => .inr (HN.out b hb))
            have HN2 : Hid (∀ b, b ∈ fp2 → w.heap.size ≤ b) := fun b hb => by
              rcases hn2 b hb with h | h
              · exact HN.out b h
              · have := HF1.out.size; exact Nat.le_trans this h
            have HQ2 := Lib.hid hQ2
            clear hQ2 hn2 hF2 g0 g1 g2 hnb
            cases b <;> simp only [Bool.not_false, Bool.not_true] at fl fg ⊢
            all_goals
              go_wp2_with fail
              refine (Put_r w2 Am cm S id at_ HS2.out (by omega)).mono ?_
              rintro e w3 ⟨A', c', rfl, hS3, hA3, hB3⟩
              go_wp2_with fail
              go_meet
              case rel =>
                have hF3 : Fr [] w2 w3 := Fr.of_below hB3 [] (Nat.le_refl _)
                refine ⟨putS S id at_, fp2, A', c', rfl, HQ2.out.fr hF3 (by simp), hS3, by have := heapSorts.len_putS S id at_; omega, fun ad e => ?_, HN2, HF2.out.trans hF3, hF3.get HGA2.out (by simp)⟩
                obtain ⟨g, h1, h2, h3⟩ := hA3 ad e
                refine ⟨g, 0, h1, fun hh => ?_, h3⟩
                have := HQ2.out.lt _ hh
                omega
        by_cases h1 : ki = 1
        · as_aux_lemma =>
            subst h1
            clear h0
            go_wp2_with fail
            refine (Drop_q HQ1.out id (by omega)).mono ?_
            rintro e w2 ⟨rfl, fp2, hQ2, hn2, hF2⟩
            rw [hb.out]
            have hga2 : w2.heap[ga]? = _ := hF2.get HGA.out HNG.out
            have g1' : w2.cell? ⟨ga, 1, none⟩ = some (.int .u64 id) := cellB hga2 1
            have HGA2 := Lib.hid hga2; clear hga2
            have HS2 : Hid (SL w2 Am cm S) := HS1.out.fr hF2 (fun ad e => by
              obtain ⟨g, o, rfl, h, _⟩ := HD1.out ad e; exact h)
            have HF2 : Hid (Fr [] w w2) := HF1.out.trans' hF2 (fun b hb => .inr (HN.out b hb))
            have HN2 : Hid (∀ b, b ∈ fp2 → w.heap.size ≤ b) := fun b hb => HN.out b (hn2 b hb)
            have HQ2 := Lib.hid hQ2
            clear hQ2 hn2 hF2 g0 g1 g2
            cases b <;> simp only [Bool.not_false, Bool.not_true] at fl fg ⊢
            all_goals
              go_wp2_with fail
              refine (Drop_r w2 Am cm S id HS2.out (by omega)).mono ?_
              rintro e w3 ⟨A', c', rfl, hS3, hA3, hB3⟩
              go_wp2_with fail
              go_meet
              case rel =>
                have hF3 : Fr [] w2 w3 := Fr.of_below hB3 [] (Nat.le_refl _)
                refine ⟨delS S id, fp2, A', c', rfl, HQ2.out.fr hF3 (by simp), hS3, by have := List.length_filter_le (fun p : Int × Int => !decide (p.1 = id)) S; unfold delS; omega, fun ad e => ?_, HN2, HF2.out.trans hF3, hF3.get HGA2.out (by simp)⟩
                obtain ⟨g, h1, h2, h3⟩ := hA3 ad e
                refine ⟨g, 0, h1, fun hh => ?_, h3⟩
                have := HQ2.out.lt _ hh
                omega
        by_cases h2 : ki = 2
        · as_aux_lemma =>
            subst h2
            clear h0 h1 fl fg HFL
            have HSS := Lib.hid (heapSorts.QA.sorted HQ1.out)
            go_wp2_with fail
            refine (HUQ.out _ _ _ _ HQ1.out at_ (by omega)).mono ?_
            rintro e w2 ⟨v1, rfl, hO1, hF1⟩
            obtain ⟨X, hX⟩ : ∃ X, Hid (X = U S at_) := ⟨_, rfl⟩
            replace hO1 : w2.ownsRow w1.heap.size 27 1 v1 X.length (X.map fun p => Value.int .u64 p.1) := by rw [hX.out]; exact hO1
            obtain ⟨rx, rfl, hrx⟩ := own_sv hO1
            have lx := len_sv22 rx X.length hrx
            have HO1 := Lib.hid hO1; clear hO1
            have HFU := Lib.hid hF1; clear hF1
            have hXZ : Hid (∃ Z, S = X ++ Z ∧ (∀ z, z ∈ X → z.2 ≤ at_) ∧ ∀ z, z ∈ Z → at_ < z.2) := by
              have := split_sorted (t := at_) HSS.out.1
              rw [← hX.out] at this
              exact ⟨_, this, fun z hz => by rw [hX.out] at hz; simpa using (List.mem_filter.1 hz).2, fun z hz => by simpa using (List.mem_filter.1 hz).2⟩
            have hXS : X.length ≤ S.length := by
              obtain ⟨Z, hZ, _⟩ := hXZ.out
              rw [hZ, List.length_append]; omega
            have hXS2 : (X.length : Int) ≤ 200 := by omega
            clear hX g0 g1
            go_wp2_with fail
            go_loopw [9] (fun iv wt => ∃ (j : Nat), iv = .int .i64 j ∧ j ≤ X.length ∧ Hid (Fr [] w2 wt)) (fun iv _ => X.length - (intOf iv).toNat)
            case atStart => exact ⟨0, rfl, Nat.zero_le _, Fr.refl _ _⟩
            case round =>
              obtain ⟨j, rfl, hj, HFt⟩ := hrel
              by_cases hjs : j < S.length
              · have hjs1 : (j : Int) < S.length := by omega
                obtain ⟨Z, hZ, hlo, hhi⟩ := hXZ.out
                obtain ⟨⟨xi, xt⟩, hx⟩ : ∃ x, S[j]? = some x := ⟨_, List.getElem?_eq_getElem hjs⟩
                have HFq : Fr [] w1 wr := HFU.out.trans HFt.out
                obtain ⟨ad0, rfl, y0, y1⟩ := sl_at (HS1.out.fr HFq (by simp)) hx
                simp only at y0 y1
                have g2' : wr.cell? ⟨ga, 2, none⟩ = some (.int .u64 at_) := cellB (HFq.get HGA.out (by simp)) 2
                have hcm : (S.length : Int) ≤ cm := by have := HS1.out.2; omega
                clear HFq g2
                by_cases hjx : j < X.length
                · have hjx1 : (j : Int) < X.length := by omega
                  have hxx : X[j]? = some (xi, xt) := by rw [hZ, List.getElem?_append_left hjx] at hx; exact hx
                  have hle : xt ≤ at_ := hlo _ (List.mem_of_getElem? hxx)
                  obtain ⟨gx, cx, rfl, x0⟩ := own_at HO1.out HFt.out hxx
                  rw [show svOf (some (gx, cx)) X.length = .slice (some ⟨gx, 0, none⟩) X.length cx from rfl]
                  have h80 : ¬ ((X.length : Int) ≤ j) := by omega
                  clear hx hxx hZ hlo hhi lx
                  go_wp2_with fail
                  go_quiet (fail)
                  go_wp2_with fail
                  go_quiet (fail)
                  go_wp2_with fail
                  go_roundw
                  case rel => exact ⟨j + 1, by go_num, by omega, HFt.out.drewN _⟩
                  case measure => simp [intOf]; omega
                · obtain rfl : j = X.length := by omega
                  have hjxn : ¬ (X.length : Int) < X.length := by omega
                  have hgt : at_ < xt := by
                    rw [hZ, List.getElem?_append_right (by omega)] at hx
                    exact hhi _ (List.mem_of_getElem? hx)
                  have hgt' : ¬ xt ≤ at_ := by omega
                  clear hx hZ hlo hhi
                  go_wp2_with fail
                  go_quiet (fail)
                  go_wp2_with fail
                  go_meet
                  case rel => exact ⟨S, fp, some ad0, cm, rfl, (HQ1.out.fr HFU.out (by simp)).fr (HFt.out.drewN _) (by simp), (HS1.out.fr HFU.out (by simp)).fr (HFt.out.drewN _) (by simp), by omega, fun ad e => by (obtain ⟨g, o, h1, h2, h3⟩ := HD1.out ad e; exact ⟨g, o, h1, h2, by have := HFU.out.size; have := HFt.out.size; show g < wr.heap.size; omega⟩), HN, (HF1.out.trans HFU.out).trans (HFt.out.drewN _), (HFU.out.trans HFt.out).get HGA.out (by simp)⟩
              · have hjs1 : ¬ (j : Int) < S.length := by omega
                obtain rfl : j = X.length := by omega
                go_wp2_with fail
                go_quiet (fail)
                go_wp2_with fail
                go_meet
                case rel => exact ⟨S, fp, Am, cm, rfl, (HQ1.out.fr HFU.out (by simp)).fr (HFt.out.drewN _) (by simp), (HS1.out.fr HFU.out (by simp)).fr (HFt.out.drewN _) (by simp), by omega, fun ad e => by (obtain ⟨g, o, h1, h2, h3⟩ := HD1.out ad e; exact ⟨g, o, h1, h2, by have := HFU.out.size; have := HFt.out.size; show g < wr.heap.size; omega⟩), HN, (HF1.out.trans HFU.out).trans (HFt.out.drewN _), (HFU.out.trans HFt.out).get HGA.out (by simp)⟩
        by_cases h3 : ki = 3
        · as_aux_lemma =>
            subst h3
            clear h0 h1 h2
            cases hS' : S with
            | nil =>
              subst hS'
              go_wp2_with fail
              refine (First_q HQ1.out).mono ?_
              rintro e w3 ⟨rfl, n3, rfl⟩
              rw [show FirstR [] = .tuple #[.int .u64 0, .int .u64 0, .bool false] from rfl]
              go_wp2_with fail
              go_meet
              case rel => exact ⟨[], fp, Am, cm, rfl, HQ1.out.fr ((Fr.refl [] _).drewN _) (by simp), HS1.out.fr ((Fr.refl [] _).drewN _) (by simp), by simp, HD1.out, HN, HF1.out.drewN _, HGA.out⟩
            | cons x R =>
              subst hS'
              obtain ⟨ad0, rfl, _, _⟩ := HS1.out.head
              obtain ⟨g, o, rfl, hgf, hgl⟩ := HD1.out _ rfl
              obtain ⟨xi, xt⟩ := x
              have hrl : (R.length : Int) ≤ 200 := by simp at hSl2; omega
              have hcm : (R.length : Int) + 1 ≤ cm := by have := HS1.out.2; simp at this; omega
              have HGF := Lib.hid hgf; clear hgf
              have HGL := Lib.hid hgl; clear hgl hSl2 fl fg HFL
              have hdel : delS ((xi, xt) :: R) xi = R := heapSorts.delS_head (x := (xi, xt)) (heapSorts.QA.sorted HQ1.out).2
              have HSK := Lib.hid hSk; clear hSk hSI
              go_wp2_with fail
              refine (First_q HQ1.out).mono ?_
              rintro e w3 ⟨rfl, n3, rfl⟩
              rw [show FirstR ((xi, xt) :: R) = .tuple #[.int .u64 xi, .int .u64 xt, .bool true] from rfl]
              have QX : Hid (QA (w1.drewN n3) q ((xi, xt) :: R) fp) := HQ1.out.fr ((Fr.refl [] _).drewN _) (by simp)
              have HDEL := Lib.hid hdel; clear hdel
              go_wp2_with fail
              refine (Drop_q QX.out xi (by simp; omega)).mono ?_
              rintro e w2 ⟨rfl, fp2, hQ2, hn2, hF2⟩
              rw [HDEL.out] at hQ2
              have hF2' : Fr fp w1 w2 := ((Fr.refl fp w1).drewN n3).trans hF2
              have HQ2 := Lib.hid hQ2
              have HS2 : Hid (SL w2 (some ⟨g, o, none⟩) cm ((xi, xt) :: R)) := HS1.out.fr hF2' (fun ad e => by (cases e; exact HGF.out))
              have HF2 : Hid (Fr [] w w2) := HF1.out.trans' hF2' (fun b hb => .inr (HN.out b hb))
              have HN2 : Hid (∀ b, b ∈ fp2 → w.heap.size ≤ b) := fun b hb => HN.out b (hn2 b hb)
              have HGA2 : Hid (w2.heap[ga]? = _) := hF2'.get HGA.out HNG.out
              have HG2 : Hid (g ∉ fp2 ∧ g < w2.heap.size) := ⟨fun hh => HGF.out (hn2 _ hh), by have := hF2'.size; have := HGL.out; omega⟩
              clear hQ2 hn2 hF2 hF2' g0 g1 g2 QX HDEL
              by_cases hc1 : cm = 1
              · subst hc1
                have hR0 : R.length = 0 := by omega
                have hRn : R = [] := List.eq_nil_of_length_eq_zero hR0
                subst hRn
                simp only [List.length_nil, Nat.zero_add] at *
                go_wp2_with fail
                go_meet
                case rel => exact ⟨[], fp2, some ⟨g, o, none⟩, 0, rfl, HQ2.out, ⟨⟨rfl, by simp, fun h => by simp at h⟩, by simp⟩, by simp, fun ad e => by (cases e; exact ⟨g, o, rfl, HG2.out⟩), HN2, HF2.out, HGA2.out⟩
              · have hci1 : (1 : Int) < (cm : Int) := by omega
                go_wp2_with fail
                go_meet
                case rel => exact ⟨R, fp2, some ⟨g, o + 2, none⟩, cm - 1, rfl, HQ2.out, HS2.out.tail, by have := HSK.out; simp at this; omega, fun ad e => by (cases e; exact ⟨g, o + 2, rfl, HG2.out⟩), HN2, HF2.out, HGA2.out⟩
        · as_aux_lemma =>
            have z0 : (ki == 0) = false := by simp [h0]
            have z1 : (ki == 1) = false := by simp [h1]
            have z2 : (ki == 2) = false := by simp [h2]
            have z3 : (ki == 3) = false := by simp [h3]
            clear h0 h1 h2 h3
            go_wp2_with fail
            go_meet
            case rel => exact ⟨S, fp, Am, cm, rfl, HQ1.out, HS1.out, by omega, HD1.out, HN, HF1.out, HGA.out⟩
    · go_wp2_with fail
      go_ret
      exact ⟨rfl, HF.out.below⟩
end Go.Proofs.Ytfeikcfhionjkaa.heapPlays
