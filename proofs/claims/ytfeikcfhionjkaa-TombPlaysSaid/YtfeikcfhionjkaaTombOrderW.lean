/- TombOrder: the law's walk. -/
import Derived.Test.YtfeikcfhionjkaaTombOrdP
set_option linter.unusedVariables false
set_option linter.unusedSimpArgs false
namespace Go.Proofs.Ytfeikcfhionjkaa.tombOrder
open Go.RowKit Go.Proofs.Ytfeikcfhionjkaa.B0 Go.Proofs.Ytfeikcfhionjkaa.Hp Go.Proofs.YtfeikcfhionjkaaW.PrintWords

theorem YA.lt {w : World} {y : Nat} {m : Int} {S : List (Int × Int)} {fp : List Nat} (h : YA w y m S fp) : ∀ k, k ∈ fp → k < w.heap.size := by
  obtain ⟨q, fq, h1, h2, h3, rfl⟩ := h
  intro k hk
  rcases List.mem_cons.1 hk with rfl | hk
  · exact lt_of_get h1
  · exact h2.lt k hk
def Dis (a b : List Nat) : Prop := ∀ k, k ∈ a → k ∉ b
theorem Dis.symm {a b : List Nat} (h : Dis a b) : Dis b a := fun k hk hk' => h k hk' hk
theorem Dis.step {a a' b : List Nat} {N : Nat} (h : Dis a b) (ha : ∀ k, k ∈ a' → k ∈ a ∨ N ≤ k) (hb : ∀ k, k ∈ b → k < N) : Dis a' b := fun k hk hk' => by
  rcases ha k hk with x | x
  · exact h k x hk'
  · have := hb k hk'; omega
theorem Dis.new {a b : List Nat} {N : Nat} (ha : ∀ k, k ∈ a → N ≤ k) (hb : ∀ k, k ∈ b → k < N) : Dis a b := fun k hk hk' => by have := ha k hk; have := hb k hk'; omega
theorem low_step {a a' : List Nat} {B N : Nat} (h : ∀ k, k ∈ a → B ≤ k) (ha : ∀ k, k ∈ a' → k ∈ a ∨ N ≤ k) (hN : B ≤ N) : ∀ k, k ∈ a' → B ≤ k := fun k hk => by
  rcases ha k hk with x | x
  · exact h k x
  · omega

structure Three (w0 w : World) (ya yb yc : Nat) (m m' : Nat) (l : List Int) (b j : Nat) (fa fb fc : List Nat) : Prop where
  a : YA w ya m (cont m l (fun i => i) j) fa
  b : YA w yb m (cont m l (turn l.length b) j) fb
  c : YA w yc m' (cont m' l (fun i => i) j) fc
  ab : Dis fa fb
  ac : Dis fa fc
  bc : Dis fb fc
  la : ∀ k, k ∈ fa → w0.heap.size ≤ k
  lb : ∀ k, k ∈ fb → w0.heap.size ≤ k
  lc : ∀ k, k ∈ fc → w0.heap.size ≤ k
  fr : Fr [] w0 w

set_option maxRecDepth 100000 in
set_option maxHeartbeats 8000000 in
theorem tombOrder_walk (w : World) (A0 : Option Addr) (c0 : Nat) (l0 : List Int) (C0 : Kd.C (Kd.int .u64) w A0 l0.length l0) (_hc0 : l0.length ≤ c0) (m0 : l0.length ≤ maxLen) (_W0 : ∀ x ∈ l0, (Lit.int .u64 x).wf = true) (a1 : Int) (w1 : (Lit.int .u8 a1).wf = true) (a2 : Int) (w2 : (Lit.int .u8 a2).wf = true) (a3 : Int) (w3 : (Lit.int .u8 a3).wf = true) :
    Calls Try.prog 6 #[.slice A0 l0.length c0, .int .u8 a1, .int .u8 a2, .int .u8 a3] w fun e w' => e = .returned (.bool true) ∧ Below w.heap.size w w' := by
  have K0 := Lib.hid C0; clear C0
  obtain ⟨b1, b1'⟩ := wf_u8 w1
  obtain ⟨b2, b2'⟩ := wf_u8 w2
  obtain ⟨b3, b3'⟩ := wf_u8 w3
  clear w1 w2 w3 _W0
  obtain ⟨m, rfl⟩ := Int.eq_ofNat_of_zero_le b1
  obtain ⟨d, rfl⟩ := Int.eq_ofNat_of_zero_le b2
  obtain ⟨t, rfl⟩ := Int.eq_ofNat_of_zero_le b3
  unfold maxLen at m0
  go_enter Try.func6, Try.ntmps6
  go_wp2_with fail
  refine (alive14 w).mono ?_
  rintro e wa ⟨rfl, hFa⟩
  have HFa := Lib.hid hFa; clear hFa
  by_cases h200 : (60 : Int) < l0.length
  · go_wp2_with fail
    go_ret
    exact ⟨rfl, HFa.out.below⟩
  have hn60 : (l0.length : Int) ≤ 60 := by omega
  go_wp2_with fail
  refine (TNew_c (m : Int) wa (by omega) (by omega)).mono ?_
  rintro e wb ⟨ya, fa, rfl, hYa, hF1, hn1⟩
  have HYa := Lib.hid hYa; clear hYa
  have HF1 := Lib.hid hF1; clear hF1
  have HN1 := Lib.hid hn1; clear hn1
  go_wp2_with fail
  refine (TNew_c (m : Int) wb (by omega) (by omega)).mono ?_
  rintro e wc ⟨yb, fb, rfl, hYb, hF2, hn2⟩
  have HYb := Lib.hid hYb; clear hYb
  have HF2 := Lib.hid hF2; clear hF2
  have HN2 := Lib.hid hn2; clear hn2
  go_wp2_with fail
  refine (TNew_c ((m : Int) + d) wc (by omega) (by omega)).mono ?_
  rintro e wd ⟨yc, fc, rfl, hYc, hF3, hn3⟩
  have HF3 := Lib.hid hF3; clear hF3
  have HN3 := Lib.hid hn3; clear hn3
  have hT : Three w wd ya yb yc m (m + d) l0 t 0 fa fb fc := by
    have la := YA.lt HYa.out
    have lb := YA.lt HYb.out
    have s1 := HFa.out.size
    have s2 := HF1.out.size
    have s3 := HF2.out.size
    have z : ∀ m f, cont m l0 f 0 = [] := fun m f => by simp [cont, sorted]
    have e1 : ((m + d : Nat) : Int) = (m : Int) + d := by omega
    refine ⟨by rw [z]; exact (HYa.out.fr HF2.out (by simp)).fr HF3.out (by simp), by rw [z]; exact HYb.out.fr HF3.out (by simp), by rw [z, e1]; exact hYc, ?_, ?_, ?_, ?_, ?_, ?_, ((HFa.out.trans HF1.out).trans HF2.out).trans HF3.out⟩
    · exact (Dis.new HN2.out la).symm
    · exact (Dis.new HN3.out (fun k hk => Nat.lt_of_lt_of_le (la k hk) s3)).symm
    · exact (Dis.new HN3.out lb).symm
    · exact fun k hk => Nat.le_trans s1 (HN1.out k hk)
    · exact fun k hk => Nat.le_trans (Nat.le_trans s1 s2) (HN2.out k hk)
    · exact fun k hk => Nat.le_trans (Nat.le_trans (Nat.le_trans s1 s2) s3) (HN3.out k hk)
  have HT0 := Lib.hid hT
  clear HF3 HN3 hYc HYa HF1 HN1 HYb HF2 HN2 hT HFa
  go_wp2_with fail
  go_loopw [15] (fun iv wr => ∃ (j : Nat) (fa fb fc : List Nat), iv = .int .i64 j ∧ j ≤ l0.length ∧ Hid (Three w wr ya yb yc m (m + d) l0 t j fa fb fc)) (fun iv _ => l0.length - (intOf iv).toNat)
  case atStart => exact ⟨0, fa, fb, fc, rfl, Nat.zero_le _, HT0⟩
  case round =>
    obtain ⟨j, fa, fb, fc, rfl, hj, HT⟩ := hrel
    by_cases hjl : j < l0.length
    · have hji : (j : Int) < l0.length := by omega
      obtain ⟨s, hs⟩ : ∃ s, s = turn l0.length t j := ⟨_, rfl⟩
      have hsl : s < l0.length := by rw [hs]; exact turn_lt hjl
      have hsi : (s : Int) < l0.length := by omega
      have hmod : ((l0.length : Int) - 1 - j + t) % (l0.length : Int) = s := by
        rw [hs]; unfold turn
        rw [Int.natCast_emod]
        congr 1
        omega
      have hnn : (0 : Int) ≤ (l0.length : Int) - 1 - j + t := by omega
      have hn0 : (0 : Int) < (l0.length : Int) := by omega
      obtain ⟨ad, rfl, x0⟩ := C_int (Kd.C_below K0.out HT.out.fr.below) j hjl
      obtain ⟨ad', e', x1⟩ := C_int (Kd.C_below K0.out HT.out.fr.below) s hsl
      cases e'
      have HS := Lib.hid hs; clear hs
      have hla := len_cont m l0 (fun i => i) j
      have hlb := len_cont m l0 (turn l0.length t) j
      have hlc := len_cont (m + d) l0 (fun i => i) j
      have HLA := Lib.hid hla; clear hla
      have HLB := Lib.hid hlb; clear hlb
      have HLC := Lib.hid hlc; clear hlc
      have SA := Lib.hid (cont_step (m := m) (n := l0.length) (l := l0) (f := fun i => i) (fun i j _ _ h => h) hjl)
      have SB := Lib.hid (cont_step (m := m) (n := l0.length) (l := l0) (f := turn l0.length t) turn_inj hjl)
      have SC := Lib.hid (cont_step (m := m + d) (n := l0.length) (l := l0) (f := fun i => i) (fun i j _ _ h => h) hjl)
      generalize hv0 : l0.getD j 0 = v0 at *
      generalize hv1 : l0.getD s 0 = v1 at *
      have HV0 := Lib.hid hv0; clear hv0
      have HV1 := Lib.hid hv1; clear hv1
      go_wp2_with fail
      refine (TPut_q HT.out.a (j : Int) v0 (by omega) (by rw [HLA.out]; omega)).mono ?_
      rintro e wx ⟨rfl, fa', hYa, hna, hFa⟩
      have hFx : Fr [] w wx := HT.out.fr.trans' hFa (fun b hb => .inr (HT.out.la b hb))
      have hbx : YA wx yb m (cont m l0 (turn l0.length t) j) fb := HT.out.b.fr hFa HT.out.ab.symm
      have hcx : YA wx yc ((m + d : Nat) : Int) (cont (m + d) l0 (fun i => i) j) fc := HT.out.c.fr hFa HT.out.ac.symm
      have dab : Dis fa' fb := HT.out.ab.step hna (YA.lt HT.out.b)
      have dac : Dis fa' fc := HT.out.ac.step hna (YA.lt HT.out.c)
      have lla := low_step HT.out.la hna HT.out.fr.size
      have y1 : wx.cell? (ad.add s) = some (.int .u64 v1) := by
        obtain ⟨ad2, e2, x2⟩ := C_int (Kd.C_below K0.out hFx.below) s hsl
        cases e2; rw [HV1.out] at x2; exact x2
      have G1 := Lib.hid hFx; clear hFx
      have G2 := Lib.hid hbx; clear hbx
      have G3 := Lib.hid hcx; clear hcx
      have G4 := Lib.hid dab; clear dab
      have G5 := Lib.hid dac; clear dac
      have G6 := Lib.hid lla; clear lla
      have G7 := Lib.hid hYa; clear hYa
      clear hna hFa x0 x1
      generalize yputR (m : Int) (cont m l0 (fun i => i) j) (j : Int) v0 = R1 at *
      go_wp2_with fail
      refine (TPut_q G2.out (s : Int) v1 (by omega) (by rw [HLB.out]; omega)).mono ?_
      rintro e wy ⟨rfl, fb', hYb, hnb, hFb⟩
      have hFx : Fr [] w wy := G1.out.trans' hFb (fun b hb => .inr (HT.out.lb b hb))
      have hax := G7.out.fr hFb G4.out
      have hcx := G3.out.fr hFb HT.out.bc.symm
      have dab : Dis fa' fb' := (G4.out.symm.step hnb (YA.lt G7.out)).symm
      have dbc : Dis fb' fc := HT.out.bc.step hnb (YA.lt G3.out)
      have llb := low_step HT.out.lb hnb G1.out.size
      have y2 : wy.cell? (ad.add j) = some (.int .u64 v0) := by
        obtain ⟨ad2, e2, x2⟩ := C_int (Kd.C_below K0.out hFx.below) j hjl
        cases e2; rw [HV0.out] at x2; exact x2
      have J1 := Lib.hid hFx; clear hFx
      have J2 := Lib.hid hYb; clear hYb
      have J3 := Lib.hid hcx; clear hcx
      have J4 := Lib.hid dab; clear dab
      have J5 := Lib.hid dbc; clear dbc
      have J6 := Lib.hid llb; clear llb
      have J7 := Lib.hid hax; clear hax
      clear hnb hFb y1
      generalize yputR (m : Int) (cont m l0 (turn l0.length t) j) (s : Int) v1 = R2 at *
      go_wp2_with fail
      refine (TPut_q J3.out (j : Int) v0 (by omega) (by rw [HLC.out]; omega)).mono ?_
      rintro e wz ⟨rfl, fc', hYc, hnc, hFc⟩
      have hT3 : Three w wz ya yb yc m (m + d) l0 t (j + 1) fa' fb' fc' := by
        refine ⟨?_, ?_, ?_, J4.out, (G5.out.symm.step hnc (YA.lt J7.out)).symm, (J5.out.symm.step hnc (YA.lt J2.out)).symm, G6.out, J6.out, low_step HT.out.lc hnc J1.out.size, J1.out.trans' hFc (fun b hb => .inr (HT.out.lc b hb))⟩
        · rw [← SA.out]; exact J7.out.fr hFc G5.out
        · rw [← SB.out, ← HS.out, HV1.out]; exact J2.out.fr hFc J5.out
        · rw [← SC.out]; exact hYc
      have HT3 := Lib.hid hT3; clear hT3
      clear hYc hnc hFc y2
      generalize yputR ((m + d : Nat) : Int) (cont (m + d) l0 (fun i => i) j) (j : Int) v0 = R3 at *
      go_wp2_with fail
      go_roundw
      case rel => exact ⟨j + 1, fa', fb', fc', by go_num, by omega, HT3⟩
      case measure => simp [intOf]; omega
    · obtain rfl : j = l0.length := by omega
      clear HT0
      have hsame := cont_same m l0 l0.length t
      have hYa := HT.out.a
      have hYb := HT.out.b
      have hYc := HT.out.c
      rw [hsame] at hYb
      have hmore : ∀ id, ((cont m l0 (fun i => i) l0.length).lookup id).isSome = true → ((cont (m + d) l0 (fun i => i) l0.length).lookup id).isSome = true := fun id h => look_more (by omega) h
      have hlc := len_cont m l0 (fun i => i) l0.length
      have HM := Lib.hid hmore; clear hmore
      have HLC := Lib.hid hlc; clear hlc
      have HA := Lib.hid hYa; clear hYa
      have HB := Lib.hid hYb; clear hYb
      have HC := Lib.hid hYc; clear hYc
      have HFR := Lib.hid HT.out.fr
      clear hsame HT
      generalize cont m l0 (fun i => i) l0.length = S at *
      generalize cont (m + d) l0 (fun i => i) l0.length = S' at *
      go_wp2_with fail
      go_loopw [17] (fun iv wt => ∃ (k : Nat), iv = .int .i64 k ∧ k ≤ l0.length ∧ wt = wr) (fun iv _ => l0.length - (intOf iv).toNat)
      case atStart => exact ⟨0, rfl, Nat.zero_le _, rfl⟩
      case round =>
        obtain ⟨k, rfl, hk, rfl⟩ := hrel
        by_cases hkl : k < l0.length
        · have hki : (k : Int) < l0.length := by omega
          go_wp2_with fail
          refine (THas_q HA.out (k : Int)).mono ?_
          rintro e w5 ⟨rfl, rfl⟩
          cases hb : (S.lookup (k : Int)).isSome with
          | false =>
            have HBB := Lib.hid hb; clear hb
            go_wp2_with fail
            refine (THas_q HB.out (k : Int)).mono ?_
            rintro e w5 ⟨rfl, rfl⟩
            rw [HBB.out]
            go_wp2_with fail
            go_roundw
            case rel => exact ⟨k + 1, by go_num, by omega, by first | rfl | trivial⟩
            case measure => simp [intOf]; omega
          | true =>
            have HBB := Lib.hid hb; clear hb
            go_wp2_with fail
            refine (THas_q HB.out (k : Int)).mono ?_
            rintro e w5 ⟨rfl, rfl⟩
            rw [HBB.out]
            go_wp2_with fail
            refine (THas_q HC.out (k : Int)).mono ?_
            rintro e w5 ⟨rfl, rfl⟩
            rw [HM.out _ HBB.out]
            go_wp2_with fail
            go_roundw
            case rel => exact ⟨k + 1, by go_num, by omega, by first | rfl | trivial⟩
            case measure => simp [intOf]; omega
        · by_cases hmn : m ≤ l0.length
          · have hmi : (m : Int) ≤ l0.length := by omega
            have heq : (S.length : Int) = m := by rw [HLC.out]; omega
            have HEQ := Lib.hid heq; clear heq
            go_wp2_with fail
            refine (TLen_q HA.out).mono ?_
            rintro e w5 ⟨rfl, rfl⟩
            rw [HEQ.out]
            go_wp2_with fail
            all_goals go_ret
            all_goals (refine ⟨?_, HFR.out.below⟩)
            all_goals (try simp)
            all_goals omega
          · have hmi : (l0.length : Int) < m := by omega
            have heq : (S.length : Int) = l0.length := by rw [HLC.out]; omega
            have HEQ := Lib.hid heq; clear heq
            go_wp2_with fail
            refine (TLen_q HA.out).mono ?_
            rintro e w5 ⟨rfl, rfl⟩
            rw [HEQ.out]
            go_wp2_with fail
            all_goals go_ret
            all_goals (refine ⟨?_, HFR.out.below⟩)
            all_goals (try simp)
            all_goals omega
end Go.Proofs.Ytfeikcfhionjkaa.tombOrder
