/- ForestKeeps: the law's walk. -/
import Derived.Test.YtamcchdblglfoaaMgForestKeeps15
import Derived.Test.YtamcchdblglfoaaMgForestKeeps16
set_option linter.unusedVariables false
set_option linter.unusedSimpArgs false
namespace Go.Proofs.Ytamcchdblglfoaa.forestKeeps
open Go.RowKit Go.Proofs.Ytamcchdblglfoaa.B0 Go.Proofs.Ytamcchdblglfoaa.Pf Go.Proofs.YtamcchdblglfoaaW.PrintWords Go.Proofs.YtamcchdblglfoaaW.PrintLast Go.Proofs.Ytamcchdblglfoaa.Ft
theorem u8_wf {a : Int} (h : (Lit.int .u8 a).wf = true) : 0 ≤ a ∧ a < 256 := by
  have h : IntKind.u8.min ≤ a ∧ a ≤ IntKind.u8.max := by simpa [Lit.wf] using h
  rw [show IntKind.u8.min = 0 from by decide, show IntKind.u8.max = 255 from by decide] at h
  omega
def T5_23 : Bool × List (List Nat × List Nat) := (true, [([], []), ([0], [0]), ([], []), ([2], [2]), ([3], [3]), ([4], [4]), ([1, 5], [1, 5]), ([6], [6]), ([7], [7]), ([8, 7], [7, 8]), ([9, 7], [7, 9]), ([7], [7]), ([10, 11, 7], [7, 10, 11]), ([7, 12], [7, 12]), ([13, 7], [13]), ([14], [14]), ([15, 14], [14, 15]), ([16, 14], [14, 16]), ([14], [14]), ([18, 14], [14, 18]), ([19, 14], [14, 19]), ([17, 20, 14], [14, 17, 20]), ([14, 21], [14, 21]), ([22, 14], [22]), ([23], [23]), ([23], [23]), ([25, 23], [23, 25]), ([26, 23], [23, 26]), ([24, 27, 23], [23, 24, 27]), ([23, 28], [23, 28]), ([29, 23], [29]), ([30], [30]), ([31, 30], [30, 31]), ([32, 30, 30], [30, 32]), ([33], [33]), ([34, 33], [33, 34]), ([33], [33]), ([35, 36, 33], [33, 35, 36]), ([37, 33], [33, 37]), ([38, 33], [33, 38]), ([39, 33], [33, 39]), ([33, 40, 30], [30, 33, 40]), ([30, 41], [30, 41]), ([42, 33], [42]), ([43], [43]), ([44, 43], [43, 44]), ([45, 43], [43, 45]), ([46, 43], [43, 46]), ([43, 47], [43, 47]), ([48, 43, 0, 1, 2, 3, 4, 5, 6, 7, 8, 9, 10, 11, 12, 13, 14, 15, 16, 17, 18, 19, 20, 21, 22, 23, 24, 25, 26, 27, 28, 29, 30, 31, 32, 33, 34, 35, 36, 37, 38, 39, 40, 41, 42, 43, 44, 45, 46, 47, 48], [48])])
def B5_23 : List Nat := [0, 1, 0, 4, 12, 28, 63, 127, 255, 511, 1023, 255, 4095, 8191, 16383, 32767, 65535, 131071, 32767, 294911, 819199, 2097151, 4194303, 8388607, 16777215, 16777215, 50331647, 117440511, 268435455, 536870911, 1073741823, 2147483647, 4294967295, 8589934591, 17179869183, 34359738367, 17179869183, 137438953471, 274877906943, 549755813887, 1099511627775, 2199023255551, 4398046511103, 8796093022207, 17592186044415, 35184372088831, 70368744177663, 140737488355327, 281474976710655, 562949953421311]
theorem tab5_23 : rtab .any (opsOf Try.f5 23) = T5_23 := by kernel_rfl
theorem bits5_23 : waitsOk T5_23.2 B5_23 = true := by kernel_rfl
set_option maxRecDepth 100000 in
set_option maxHeartbeats 8000000 in
theorem forestKeeps_walk (w : World) (A0 : Option Addr) (c0 : Nat) (l0 : List S57) (C0 : Kd.C k57 w A0 l0.length l0) (_hc0 : l0.length ≤ c0) (m0 : l0.length ≤ maxLen) (W0 : ∀ x ∈ l0, W57 x) (a1 : Int) (w1 : (Lit.int .u8 a1).wf = true) (a2 : Int) (w2 : (Lit.int .u8 a2).wf = true) :
    Calls Try.prog 5 #[.slice A0 l0.length c0, .int .u8 a1, .int .u8 a2] w fun e w' => e = .returned (.bool true) ∧ Below w.heap.size w w' := by
  have K0 := Lib.hid C0; clear C0
  have b1 := u8_wf w1
  have b2 := u8_wf w2
  obtain ⟨r, hr, hrf⟩ := far_f l0
  have hfar := fun (W : World) (hW : Below w.heap.size w W) => Lib.hid (tallyroomlaw17_far.calls 200 A0 c0 l0 r W (Kd.C_below K0.out hW) _hc0 hr)
  have HRF := Lib.hid hrf
  clear hr hrf
  obtain ⟨n, hn⟩ : ∃ n, Hid (l0.length = n) := ⟨_, Lib.hid rfl⟩
  have hofs := fun (h : r = false) (W : World) (hW : Below w.heap.size w W) => Lib.hid (tallyroomlaw06_Ofs.calls 2000 A0 c0 l0 (l0.map ofS) W (Kd.C_below K0.out hW) _hc0 (Ofs_f l0 (by have := (HRF.out h).1; omega) (fun x hx => by have := (HRF.out h).2 x hx; omega)))
  rw [hn.out] at hfar hofs ⊢
  go_enter Try.func5, Try.ntmps5
  go_wp2_with fail
  refine (alive17_c w).mono ?_
  rintro e wA ⟨rfl, hbA⟩
  have HA := Lib.hid hbA; clear hbA
  go_wp2_with fail
  refine (hfar wA HA.out).out.mono ?_
  rintro e wB ⟨rfl, hbB⟩
  have HB := Lib.hid (HA.out.trans (hbB.mono HA.out.size)); clear hbB
  cases r with
  | true =>
    go_wp2_with fail
    go_ret
    exact ⟨rfl, HB.out⟩
  | false =>
    have hn30 : n ≤ 30 := by have := (HRF.out (by simp)).1; rw [hn.out] at this; exact this
    go_wp2_with fail
    refine (hofs (by simp) wB HB.out).out.mono ?_
    rintro e wC ⟨v, rfl, hsv, hbC⟩
    obtain ⟨AO, cO, rfl, _, hCO⟩ := Kd.S_reads hsv
    obtain ⟨L, hL⟩ : ∃ L, Hid (l0.map ofS = L) := ⟨_, Lib.hid rfl⟩
    rw [hL.out] at hCO ⊢
    have hLn : L.length = n := by rw [← hL.out, List.length_map, hn.out]
    have HC := Lib.hid (And.intro (HB.out.trans (hbC.mono HB.out.size)) hCO)
    have hLa : ∀ s ∈ L, s.f9.length ≤ 1000000 := by
      intro s hs
      rw [← hL.out, List.mem_map] at hs
      obtain ⟨x, hx, rfl⟩ := hs
      have := (HRF.out (by simp)).2 x hx
      show (x.f9.map ofA).length ≤ _
      rw [List.length_map]; omega
    have hbld := fun (keep : Bool) (most : Int) (hm : most ≤ 1000) (W : World) (hW : Below wC.heap.size wC W) => Lib.hid (Build_c W AO cO L keep most (Kd.C_below HC.out.2 hW) (by omega) hLa (by omega))
    rw [hLn] at hbld ⊢
    clear hsv hbC hCO
    go_wp2_with fail
    refine (hbld true _ (by omega) wC (Below.refl _ _)).out.mono ?_
    rintro e wD ⟨hbD, X, hp1, hs1, hc1⟩
    rcases hc1 with ⟨hok, hm1, Na, Da, An, cn, Ad, cd, htA, rfl, hCa, -, -, -⟩ | ⟨hok, rfl⟩
    · have HD : Hid (Below wC.heap.size wC wD ∧ okX (X.map fun p => p.s) ∧ TreeX X true (1 + a1) Na Da ∧ Kd.C k47 wD An Na.length Na) := ⟨hbD, hok, htA, hCa⟩
      have hXn : X.length = n := by have e := hp1.length_eq; rw [List.length_map, hLn] at e; exact e
      clear hok hbD htA hCa
      obtain ⟨na, hna⟩ : ∃ x, Hid (Na.length = x) := ⟨_, Lib.hid rfl⟩
      obtain ⟨da, hda⟩ : ∃ x, Hid (Da.length = x) := ⟨_, Lib.hid rfl⟩
      rw [hna.out, hda.out]
      obtain ⟨ta, hta⟩ : ∃ x, Hid (wD.heap.size = x) := ⟨_, Lib.hid rfl⟩
      obtain ⟨wa, hwa⟩ : ∃ x, Hid (wD.alloc (.cells #[.slice An na cn, .slice Ad da cd] 28) = x) := ⟨_, Lib.hid rfl⟩
      have HWa : Hid (Below wC.heap.size wC wa ∧ wa.heap[ta]? = some (.cells #[.slice An na cn, .slice Ad da cd] 28 (0, 0)) ∧ Kd.C k47 wa An na Na) := by
        rw [← hwa.out, ← hta.out]
        refine ⟨HD.out.1.alloc HD.out.1.size _, allocN _ _, ?_⟩
        have := Kd.C_below HD.out.2.2.2 ((Below.refl _ wD).alloc (Nat.le_refl _) (.cells #[.slice An na cn, .slice Ad da cd] 28))
        rw [hna.out] at this; exact this
      go_upto_region 7 with fail
      rw [hwa.out, hta.out]
      go_wp2_with fail
      refine (hbld false _ (by omega) _ HWa.out.1).out.mono ?_
      rintro e wE ⟨hbE, X2, hp2, hs2, hc2⟩
      have hX2 := sorted_one hp2 hp1 hs2 hs1
      rcases hc2 with ⟨_, _, Nb, Db, An2, cn2, Ad2, cd2, htB, rfl, hCb, -, -, -⟩ | ⟨hno, _⟩
      rotate_left
      · exact absurd ⟨by rw [hX2]; exact HD.out.2.1, by omega⟩ hno
      have HE : Hid (Below wC.heap.size wC wE ∧ Below wa.heap.size wa wE ∧ TreeX (XN (X.map fun p => p.s)) false (1 + a1) Nb Db ∧ Kd.C k47 wE An2 Nb.length Nb) := ⟨HWa.out.1.trans (hbE.mono HWa.out.1.size), hbE, by have := htB.norm; rw [hX2] at this; exact this, hCb⟩
      clear hbE htB hCb
      obtain ⟨nb, hnb⟩ : ∃ x, Hid (Nb.length = x) := ⟨_, Lib.hid rfl⟩
      obtain ⟨db, hdb⟩ : ∃ x, Hid (Db.length = x) := ⟨_, Lib.hid rfl⟩
      rw [hnb.out, hdb.out]
      obtain ⟨tb, htb⟩ : ∃ x, Hid (wE.heap.size = x) := ⟨_, Lib.hid rfl⟩
      obtain ⟨wb, hwb⟩ : ∃ x, Hid (wE.alloc (.cells #[.slice An2 nb cn2, .slice Ad2 db cd2] 28) = x) := ⟨_, Lib.hid rfl⟩
      have HWb : Hid (Below wC.heap.size wC wb ∧ Below wa.heap.size wa wb ∧ wb.heap[tb]? = some (.cells #[.slice An2 nb cn2, .slice Ad2 db cd2] 28 (0, 0)) ∧ Kd.C k47 wb An2 nb Nb) := by
        rw [← hwb.out, ← htb.out]
        refine ⟨HE.out.1.alloc HE.out.1.size _, HE.out.2.1.alloc HE.out.2.1.size _, allocN _ _, ?_⟩
        have := Kd.C_below HE.out.2.2.2 ((Below.refl _ wE).alloc (Nat.le_refl _) (.cells #[.slice An2 nb cn2, .slice Ad2 db cd2] 28))
        rw [hnb.out] at this; exact this
      go_upto_region 8 with fail
      rw [hwb.out, htb.out]
      go_wp2_with fail
      refine (hbld false _ (by omega) _ HWb.out.1).out.mono ?_
      rintro e wF ⟨hbF, X3, hp3, hs3, hc3⟩
      have hX3 := sorted_one hp3 hp1 hs3 hs1
      rcases hc3 with ⟨_, _, Nc, Dc, An3, cn3, Ad3, cd3, htC, rfl, -, -, -, -⟩ | ⟨hno, _⟩
      rotate_left
      · exact absurd ⟨by rw [hX3]; exact HD.out.2.1, by omega⟩ hno
      have HF : Hid (Below wC.heap.size wC wF ∧ Below wb.heap.size wb wF ∧ TreeX (XN (X.map fun p => p.s)) false (1 + a1 + a2) Nc Dc) := ⟨HWb.out.1.trans (hbF.mono HWb.out.1.size), hbF, by have := htC.norm; rw [hX3] at this; exact this⟩
      clear hbF htC
      obtain ⟨nc, hnc⟩ : ∃ x, Hid (Nc.length = x) := ⟨_, Lib.hid rfl⟩
      obtain ⟨dc, hdc⟩ : ∃ x, Hid (Dc.length = x) := ⟨_, Lib.hid rfl⟩
      rw [hnc.out, hdc.out]
      obtain ⟨tc, htc⟩ : ∃ x, Hid (wF.heap.size = x) := ⟨_, Lib.hid rfl⟩
      obtain ⟨wc, hwc⟩ : ∃ x, Hid (wF.alloc (.cells #[.slice An3 nc cn3, .slice Ad3 dc cd3] 28) = x) := ⟨_, Lib.hid rfl⟩
      have hbc : Below wb.heap.size wb wc := by rw [← hwc.out]; exact HF.out.2.1.alloc HF.out.2.1.size _
      have hac : Below wa.heap.size wa wc := HWb.out.2.1.trans (hbc.mono HWb.out.2.1.size)
      have HWc : Hid (Below w.heap.size w wc ∧ wc.heap[ta]? = some (.cells #[.slice An na cn, .slice Ad da cd] 28 (0, 0)) ∧ wc.heap[tb]? = some (.cells #[.slice An2 nb cn2, .slice Ad2 db cd2] 28 (0, 0)) ∧ wc.heap[tc]? = some (.cells #[.slice An3 nc cn3, .slice Ad3 dc cd3] 28 (0, 0)) ∧ Kd.C k47 wc An na Na ∧ Kd.C k47 wc An2 nb Nb) := by
        refine ⟨HC.out.1.trans ((HWa.out.1.trans (hac.mono HWa.out.1.size)).mono HC.out.1.size), (hac.block _ (lt_of_get HWa.out.2.1)).trans HWa.out.2.1, (hbc.block _ (lt_of_get HWb.out.2.2.1)).trans HWb.out.2.2.1, ?_, Kd.C_below HWa.out.2.2 hac, Kd.C_below HWb.out.2.2.2 hbc⟩
        rw [← hwc.out, ← htc.out]; exact allocN _ _
      have hLAW := keeps_law HD.out.2.2.1.norm HE.out.2.2.1 HF.out.2.2 (by omega)
      have hXl : (XN (X.map fun p => p.s)).length = n := by simp [XN, hXn]
      rw [hXl, hna.out, hda.out, hdb.out, hdc.out] at hLAW
      have HLAW := Lib.hid hLAW
      have hda0 : da = 0 := hLAW.1
      subst hda0
      have hnan : na = n := hLAW.2.2.2.2.2.2
      clear hbc hac hLAW hXl
      subst hnan
      go_upto_region 9 with fail
      rw [hwc.out, htc.out]
      have c0 : wc.cell? ⟨ta, 0, none⟩ = some (.slice An na cn) := cell0 HWc.out.2.1 rfl
      go_wp2_with fail
      go_loopw [15, 14] (fun iv ov wr => ∃ i q : Nat, iv = .int .i64 i ∧ ov = .int .i64 q ∧ i ≤ na ∧ q ≤ i ∧ Hid (q = (Na.take i).countP (fun x => x.f3)) ∧ wc = wr) (fun iv _ _ => na - (intOf iv).toNat)
      case atStart => exact ⟨0, 0, rfl, rfl, Nat.zero_le _, Nat.le_refl _, Lib.hid rfl, rfl⟩
      case round =>
        obtain ⟨i, q, rfl, rfl, hi, hq, HQ, rfl⟩ := hrel
        by_cases hlt : i < na
        · have hki : (i : Int) < (na : Int) := by omega
          obtain ⟨x, hx⟩ : ∃ x, Na[i]? = some x := ⟨_, List.getElem?_eq_getElem (by rw [hna.out]; exact hlt)⟩
          obtain ⟨ad, A9, c9, rfl, d0, d1, d2, d3, d4, d5, d6, d7, d8, d9, d10, d11, d12, _, _⟩ := at_T47 HWc.out.2.2.2.2.1 (i : Int) (by omega) hki
          rw [rdNd hx, Int.toNat_natCast] at d12
          clear d0 d1 d2 d3 d4 d5 d6 d7 d8 d9 d10 d11
          obtain ⟨b3, hb3⟩ : ∃ b, Hid (x.f3 = b) := ⟨_, Lib.hid rfl⟩
          rw [hb3.out] at d12
          have HQ2 : Hid ((Na.take (i + 1)).countP (fun x => x.f3) = q + (if b3 then 1 else 0)) := by
            refine Lib.hid ?_
            rw [take_snoc hx, List.countP_append, HQ.out]
            simp [hb3.out]
          have hin : i + 1 ≤ na := hlt
          clear hx
          cases b3 with
          | true =>
            go_wp2_with fail
            go_roundw
            case rel => exact ⟨i + 1, q + 1, by go_num, by go_num, by omega, by omega, by rw [HQ2.out]; exact Lib.hid rfl, by first | rfl | trivial⟩
            case measure => simp [intOf]; omega
          | false =>
            go_wp2_with fail
            go_roundw
            case rel => exact ⟨i + 1, q, by go_num, rfl, by omega, by omega, by rw [HQ2.out]; exact Lib.hid rfl, by first | rfl | trivial⟩
            case measure => simp [intOf]; omega
        · have hin : i = na := by omega
          have hqa : q = Na.countP (fun x => x.f3) := by rw [HQ.out, List.take_of_length_le (by rw [hna.out]; omega)]
          have HQA := Lib.hid hqa
          clear hqa
          subst hin
          have e0 : wc.cell? ⟨tb, 0, none⟩ = some (.slice An2 nb cn2) := cell0 HWc.out.2.2.1 rfl
          go_wp2_with fail
          have hnb1 : nb ≤ 1000 := by
            obtain ⟨_, nsb, gsb, _, _, hl, _, _, e, _⟩ := HE.out.2.2.1
            have := nodesM_len gsb nsb gsb
            rw [← e, hnb.out, hl] at this
            simp [XN, hXn] at this
            omega
          go_loopw [16] (fun iv wr => ∃ j : Nat, iv = .int .i64 j ∧ j ≤ nb ∧ wc = wr) (fun iv _ => nb - (intOf iv).toNat)
          case atStart => exact ⟨0, rfl, Nat.zero_le _, rfl⟩
          case round =>
            obtain ⟨j, rfl, hj, rfl⟩ := hrel
            by_cases hlt : j < nb
            · have hkj : (j : Int) < (nb : Int) := by omega
              obtain ⟨x, hx⟩ : ∃ x, Nb[j]? = some x := ⟨_, List.getElem?_eq_getElem (by rw [hnb.out]; exact hlt)⟩
              obtain ⟨ad, A9, c9, rfl, d0, d1, d2, d3, d4, d5, d6, d7, d8, d9, d10, d11, d12, _, _⟩ := at_T47 HWc.out.2.2.2.2.2 (j : Int) (by omega) hkj
              rw [rdNd hx, Int.toNat_natCast, HLAW.out.2.1 x (List.mem_of_getElem? hx)] at d12
              clear d0 d1 d2 d3 d4 d5 d6 d7 d8 d9 d10 d11 hx
              go_wp2_with fail
              go_roundw
              case rel => exact ⟨j + 1, by go_num, by omega, by first | rfl | trivial⟩
              case measure => simp [intOf]; omega
            · have hjn : j = nb := by omega
              subst hjn
              have c1 : wc.cell? ⟨ta, 1, none⟩ = some (.slice Ad 0 cd) := cell0 HWc.out.2.1 rfl
              go_wp2_with fail
              refine (Root_c wc An i cn Ad 0 cd Na HWc.out.2.2.2.2.1 (by omega)).mono ?_
              rintro e wG ⟨rfl, hbG⟩
              have HG : Hid (Below w.heap.size w wG ∧ Below wc.heap.size wc wG) := ⟨HWc.out.1.trans (hbG.mono HWc.out.1.size), hbG⟩
              have hla := HLAW.out
              rw [← HQA.out] at hla
              have rr := rootF_range Na i (by rw [hna.out]; exact Nat.le_refl _)
              clear hbG c0 c1 e0
              have c0 : wG.cell? ⟨ta, 0, none⟩ = some (.slice An i cn) := cell0 ((HG.out.2.block _ (lt_of_get HWc.out.2.1)).trans HWc.out.2.1) rfl
              have c1 : wG.cell? ⟨ta, 1, none⟩ = some (.slice Ad 0 cd) := cell0 ((HG.out.2.block _ (lt_of_get HWc.out.2.1)).trans HWc.out.2.1) rfl
              have e1 : wG.cell? ⟨tb, 1, none⟩ = some (.slice Ad2 db cd2) := cell0 ((HG.out.2.block _ (lt_of_get HWc.out.2.2.1)).trans HWc.out.2.2.1) rfl
              have i1 : wG.cell? ⟨tc, 1, none⟩ = some (.slice Ad3 dc cd3) := cell0 ((HG.out.2.block _ (lt_of_get HWc.out.2.2.2.1)).trans HWc.out.2.2.2.1) rfl
              obtain ⟨bq, hbq, hbd⟩ : ∃ b, ((q : Int) == 0) = b ∧ ((db : Int) == 0) = b := by
                by_cases h : q = 0
                · have := hla.2.2.1.1 h
                  exact ⟨true, by simp [h], by simp [this]⟩
                · have : db ≠ 0 := fun h2 => h (hla.2.2.1.2 h2)
                  exact ⟨false, by simp [h], by simp [this]⟩
              have hge : (q : Int) ≤ (db : Int) := by have := hla.2.2.2.1; omega
              have hle : (dc : Int) ≤ (db : Int) := by have := hla.2.2.2.2.1; omega
              have HLA := Lib.hid hla
              clear hla
              rcases rr with ⟨er, hno⟩ | ⟨k, er, hk, y, hy, hy1⟩
              · have hi0 : i = 0 := by
                  rcases Nat.eq_zero_or_pos i with h | h
                  · exact h
                  · obtain ⟨z, hz, hz1⟩ := HLA.out.2.2.2.2.2.1 (by omega)
                    obtain ⟨j2, hj2⟩ := List.mem_iff_getElem?.1 hz
                    have hj3 := (List.getElem?_eq_some_iff.1 hj2).1
                    exact absurd hz1 (hno j2 z (by rw [← hna.out]; exact hj3) hj2)
                clear hno
                subst hi0
                rw [er]
                cases bq
                all_goals go_wp2_with fail
                all_goals go_ret
                all_goals exact ⟨rfl, HG.out.1⟩
              · rw [er]
                have hkv : (if 0 < (k : Int) then (k : Int) else 0) = (k : Int) := by split <;> omega
                have hkb : ((k : Int) != -1) = true := by rw [bne_iff_ne]; omega
                rw [hkv, hkb]
                have hki : (k : Int) < (i : Int) := by omega
                have hpos : (0 : Int) < (i : Int) := by omega
                obtain ⟨ad, A9, c9, rfl, d0, d1, d2, d3, d4, d5, d6, d7, d8, d9, d10, d11, d12, _, _⟩ := at_T47 (Kd.C_below HWc.out.2.2.2.2.1 HG.out.2) (k : Int) (by omega) hki
                rw [rdNd hy, Int.toNat_natCast, hy1] at d10
                clear d0 d1 d2 d3 d4 d5 d6 d7 d8 d9 d11 d12 er hkv hkb hy
                cases bq
                all_goals go_wp2_with fail
                all_goals go_ret
                all_goals exact ⟨rfl, HG.out.1⟩
    · have HD : Hid (Below wC.heap.size wC wD ∧ ¬ okX (X.map fun p => p.s)) := ⟨hbD, fun h => hok ⟨h, by omega⟩⟩
      clear hok hbD
      go_wp2_with fail
      refine (hbld false _ (by omega) _ (HD.out.1.alloc HD.out.1.size _)).out.mono ?_
      rintro e wE ⟨hbE, X2, hp2, hs2, hc2⟩
      rcases hc2 with ⟨hok2, _⟩ | ⟨_, rfl⟩
      · rw [sorted_one hp2 hp1 hs2 hs1] at hok2
        exact absurd hok2 HD.out.2
      have HE : Hid (Below wC.heap.size wC wE) := (HD.out.1.alloc HD.out.1.size _).trans (hbE.mono (HD.out.1.alloc HD.out.1.size _).size)
      clear hbE
      go_wp2_with fail
      refine (hbld false _ (by omega) _ (HE.out.alloc HE.out.size _)).out.mono ?_
      rintro e wF ⟨hbF, X3, hp3, hs3, hc3⟩
      rcases hc3 with ⟨hok3, _⟩ | ⟨_, rfl⟩
      · rw [sorted_one hp3 hp1 hs3 hs1] at hok3
        exact absurd hok3 HD.out.2
      have HF : Hid (Below wC.heap.size wC wF) := (HE.out.alloc HE.out.size _).trans (hbF.mono (HE.out.alloc HE.out.size _).size)
      clear hbF
      go_wp2_with fail
      go_ret
      exact ⟨rfl, (HC.out.1.trans (HF.out.mono HC.out.1.size)).alloc (Nat.le_trans HC.out.1.size HF.out.size) _⟩
end Go.Proofs.Ytamcchdblglfoaa.forestKeeps
