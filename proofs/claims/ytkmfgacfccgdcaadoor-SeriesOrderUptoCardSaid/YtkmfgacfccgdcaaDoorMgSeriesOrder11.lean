/- SeriesOrder: the law's walk (arguments of at most 1048576 letters together); the sort's contract is a premise. -/
import Derived.Test.YtkmfgacfccgdcaaDoorMgSeriesOrder10
import Derived.Test.YtkmfgacfccgdcaaDoorMgSeriesOrder2
import Derived.Deep.Cut
import Derived.Deep.DeepCutAuto
set_option linter.unusedVariables false
set_option linter.unusedSimpArgs false
namespace Go.Proofs.YtkmfgacfccgdcaaDoor.seriesOrder
open Go.RowKit Go.Proofs.YtkmfgacfccgdcaaDoor.B0 Go.Proofs.YtkmfgacfccgdcaaDoor.Ps Go.Proofs.YtkmfgacfccgdcaaDoorW.PrintWords Go.Proofs.YtkmfgacfccgdcaaDoorW.PrintLast Go.Proofs.YtkmfgacfccgdcaaDoor.Bld Go.Proofs.YtkmfgacfccgdcaaDoor.Sr

def RowsAt (w : World) (A : Option Addr) (l : List (List ByteArray)) : Prop := ∀ i (h : i < l.length), ∃ ad, A = some ad ∧ ∃ Ai ci, w.cell? (ad.add i) = some (.slice Ai l[i].length ci) ∧ l[i].length ≤ ci ∧ RS w Ai l[i].length l[i]
theorem rows_of_C {w : World} {A : Option Addr} {n : Nat} {l : List (List ByteArray)} (h : Kd.C (Kd.slice 9 Kd.string) w A n l) : RowsAt w A l := by
  intro i hi
  obtain ⟨h1, h2, h3⟩ := h
  obtain ⟨ad, e, hc⟩ := h3 (by omega)
  obtain ⟨c, hl, ⟨Ai, ci, rfl, hk, hC⟩, hcell⟩ := hc i _ (List.getElem?_eq_getElem hi)
  refine ⟨ad, e, Ai, ci, ?_, hk, Kd.reads_of_C (enc := Value.string) (d := ByteArray.empty) (h1 := fun _ => rfl) hC⟩
  have := hcell 0 _ rfl
  simpa [Kd.slice] using this
theorem RowsAt.fr {w w' : World} {A : Option Addr} {l : List (List ByteArray)} (h : RowsAt w A l) (hf : Fr [] w w') : RowsAt w' A l := by
  intro i hi
  obtain ⟨ad, e, Ai, ci, h1, h2, h3⟩ := h i hi
  have hlt : (ad.add i).block < w.heap.size := World.block_lt_of_cell? w _ h1
  exact ⟨ad, e, Ai, ci, by rw [World.cell?_of_block (hf.block _ hlt (by simp))]; exact h1, h2, h3.fr hf (by simp)⟩
theorem tot_le {l : List (List ByteArray)} (i : Nat) (h : i < l.length) : tot l[i] ≤ (l.map tot).sum := by
  induction l generalizing i with
  | nil => simp at h
  | cons x l ih =>
    cases i with
    | zero => simp
    | succ i => have := ih i (by simpa using h); simp at this ⊢; omega
theorem fr_drewN {w w' : World} (h : ∃ m, w' = w.drewN m) : Fr [] w w' := by obtain ⟨m, rfl⟩ := h; exact (Fr.refl [] w).drewN m
/-- two tables, apart. -/
def Two (w wr : World) (t u : Nat) (L M : List (List ByteArray)) : Prop :=
  ∃ ft fu, TA wr t 100 L ft ∧ TA wr u 100 M fu ∧ Fr [] w wr ∧ (∀ k, k ∈ ft → w.heap.size ≤ k) ∧ (∀ k, k ∈ fu → w.heap.size ≤ k) ∧ ∀ k, k ∈ ft → k ∉ fu
theorem Two.fr {w w1 w2 : World} {t u : Nat} {L M : List (List ByteArray)} (h : Two w w1 t u L M) (hf : Fr [] w1 w2) : Two w w2 t u L M := by
  obtain ⟨ft, fu, h1, h2, h3, h4⟩ := h
  exact ⟨ft, fu, h1.fr hf (by simp), h2.fr hf (by simp), h3.trans hf, h4⟩
theorem Two.f {w w1 : World} {t u : Nat} {L M : List (List ByteArray)} (h : Two w w1 t u L M) : Fr [] w w1 := by obtain ⟨ft, fu, h1, h2, h3, h4⟩ := h; exact h3
theorem Two.swap {w w1 : World} {t u : Nat} {L M : List (List ByteArray)} (h : Two w w1 t u L M) : Two w w1 u t M L := by
  obtain ⟨ft, fu, h1, h2, h3, h4, h5, h6⟩ := h
  exact ⟨fu, ft, h2, h1, h3, h5, h4, fun k hk hh => h6 k hh hk⟩
theorem Two.step {w w1 w2 : World} {t u : Nat} {L L' M : List (List ByteArray)} {ft fu : List Nat} (h1 : TA w1 t 100 L ft) (h2 : TA w1 u 100 M fu) (h3 : Fr [] w w1) (h4 : ∀ k, k ∈ ft → w.heap.size ≤ k) (h5 : ∀ k, k ∈ fu → w.heap.size ≤ k) (h6 : ∀ k, k ∈ ft → k ∉ fu)
    (hx : ∃ fp', TA w2 t 100 L' fp' ∧ Fr ft w1 w2 ∧ (∀ k, k ∈ fp' → k ∈ ft ∨ w1.heap.size ≤ k)) : Two w w2 t u L' M := by
  obtain ⟨fp', k1, k2, k3⟩ := hx
  refine ⟨fp', fu, k1, h2.fr k2 (fun k hk hh => h6 k hh hk), h3.trans' k2 (fun k hk => .inr (h4 k hk)), fun k hk => ?_, h5, fun k hk hh => ?_⟩
  · rcases k3 k hk with h | h
    · exact h4 k h
    · have := h3.size; omega
  · rcases k3 k hk with h | h
    · exact h6 k h hh
    · have := h2.lt k hh; omega

set_option maxRecDepth 100000 in
set_option maxHeartbeats 8000000 in
theorem seriesOrder_walk0 (hS : SortC) (hN : SortN) (w : World) (ht : tabP w) (A0 : Option Addr) (c0 : Nat) (l0 : List (List ByteArray)) (C0 : Kd.C (Kd.slice 9 Kd.string) w A0 l0.length l0) (hc0 : l0.length ≤ c0) (m0 : l0.length ≤ maxLen) (W0 : ∀ x ∈ l0, x.length ≤ maxLen ∧ ∀ s ∈ x, s.size ≤ maxLen) (a1 : Int) (w1 : (Lit.int .u8 a1).wf = true)
    (A2 : Option Addr) (c2 : Nat) (l2 : List ByteArray) (C2 : Kd.C Kd.string w A2 l2.length l2) (hc2 : l2.length ≤ c2) (m2 : l2.length ≤ maxLen) (W2 : ∀ x ∈ l2, x.size ≤ maxLen)
    (A3 : Option Addr) (c3 : Nat) (l3 : List ByteArray) (C3 : Kd.C Kd.string w A3 l3.length l3) (hc3 : l3.length ≤ c3) (m3 : l3.length ≤ maxLen) (W3 : ∀ x ∈ l3, x.size ≤ maxLen)
    (A4 : Option Addr) (c4 : Nat) (l4 : List ByteArray) (C4 : Kd.C Kd.string w A4 l4.length l4) (hc4 : l4.length ≤ c4) (m4 : l4.length ≤ maxLen) (W4 : ∀ x ∈ l4, x.size ≤ maxLen) (hb : (l0.map tot1).sum + tot1 l2 + tot1 l3 + tot1 l4 ≤ 1048576) :
    Calls Tryd.prog 5 #[.slice A0 l0.length c0, .int .u8 a1, .slice A2 l2.length c2, .slice A3 l3.length c3, .slice A4 l4.length c4] w fun e w' => e = .returned (.bool true) ∧ Below w.heap.size w w' := by
  have HR := Lib.hid (rows_of_C C0)
  have HB : Hid ((l0.map tot).sum ≤ 1048576) := Lib.hid (by have := sum_le1 l0; omega)
  have hl2m : l2.length ≤ 1048576 := by have := tot_le1 l2; omega
  have hl3m : l3.length ≤ 1048576 := by have := tot_le1 l3; omega
  have hl4m : l4.length ≤ 1048576 := by have := tot_le1 l4; omega
  have HT := Lib.hid ht
  have R2 : Hid (RS w A2 l2.length l2) := Kd.reads_of_C (enc := Value.string) (d := ByteArray.empty) (h1 := fun _ => rfl) C2
  have R3 : Hid (RS w A3 l3.length l3) := Kd.reads_of_C (enc := Value.string) (d := ByteArray.empty) (h1 := fun _ => rfl) C3
  have R4 : Hid (RS w A4 l4.length l4) := Kd.reads_of_C (enc := Value.string) (d := ByteArray.empty) (h1 := fun _ => rfl) C4
  have HC2 := Lib.hid hc2; have HC3 := Lib.hid hc3; have HC4 := Lib.hid hc4
  obtain ⟨b0, b255⟩ := wf_u8 w1
  clear C0 hc0 m0 W0 w1 C2 hc2 m2 W2 C3 hc3 m3 W3 C4 hc4 m4 W4 hb ht
  obtain ⟨by_, rfl⟩ := Int.eq_ofNat_of_zero_le b0
  go_enter Tryd.func5, Tryd.ntmps5
  go_wp2_with fail
  refine (alive20 w HT.out).mono ?_
  rintro e w1 ⟨rfl, hB1⟩
  have F1 : Hid (Fr [] w w1) := Fr.of_below hB1 [] (Nat.le_refl _)
  clear hB1
  by_cases h60 : (60 : Int) < l0.length
  · go_wp2_with fail
    go_ret
    exact ⟨rfl, F1.out.below⟩
  have hd60 : decide ((60 : Int) < l0.length) = false := decide_eq_false h60
  have hl60 : l0.length ≤ 60 := by omega
  clear h60
  by_cases h100 : (100 : Int) < (l2.length : Int) + l3.length + l4.length
  · go_wp2_with fail
    go_ret
    exact ⟨rfl, F1.out.below⟩
  have hd100 : decide ((100 : Int) < (l2.length : Int) + l3.length + l4.length) = false := decide_eq_false h100
  have hl100 : l2.length + l3.length + l4.length ≤ 100 := by omega
  clear h100
  go_wp2_with fail
  refine (New_c 100 w1 (by omega) (by omega)).mono ?_
  rintro e w2 ⟨t, ft, rfl, hT, hF, hn⟩
  have T2 := Lib.hid hT; have F2 := Lib.hid hF; have N2 := Lib.hid hn
  clear hT hF hn
  go_wp2_with fail
  refine (New_c 100 w2 (by omega) (by omega)).mono ?_
  rintro e w3 ⟨u, fu, rfl, hT, hF, hn⟩
  have S0 : Hid (Two w w3 t u [] []) := ⟨ft, fu, T2.out.fr hF (by simp), hT, (F1.out.trans F2.out).trans hF, fun k hk => Nat.le_trans F1.out.size (N2.out k hk), fun k hk => Nat.le_trans (F1.out.trans F2.out).size (hn k hk), fun k hk hh => by have := T2.out.lt k hk; have := hn k hh; omega⟩
  clear hT hF hn T2 F2 N2
  go_wp2_with fail
  go_loopw [15] (fun iv wr => ∃ (k : Nat) (L M : List (List ByteArray)), iv = .int .i64 k ∧ k ≤ l0.length ∧ Hid (Two w wr t u L M ∧ InS L (fun i => l0.getD i []) k ∧ InS M (fun i => l0.getD (turn l0.length by_ i) []) k)) (fun iv _ => l0.length - (intOf iv).toNat)
  case atStart => exact ⟨0, [], [], rfl, Nat.zero_le _, S0.out, InS.nil _, InS.nil _⟩
  case round =>
    clear S0
    obtain ⟨k, L, M, rfl, hk, HS⟩ := hrel
    by_cases hlt : k < l0.length
    · have hki : (k : Int) < l0.length := by omega
      obtain ⟨s, hs⟩ : ∃ s, s = turn l0.length by_ k := ⟨_, rfl⟩
      have hsl : s < l0.length := by rw [hs]; exact turn_lt hlt
      have hsi : (s : Int) < l0.length := by omega
      have hmod : ((l0.length : Int) - 1 - k + by_) % (l0.length : Int) = s := by
        rw [hs]; unfold turn
        rw [Int.natCast_emod]
        congr 1
        omega
      have hnn : (0 : Int) ≤ (l0.length : Int) - 1 - k + by_ := by omega
      have hn0 : (0 : Int) < (l0.length : Int) := by omega
      have HS' := Lib.hid hs; clear hs
      obtain ⟨ft, fu, t1, t2, t3, t4, t5, t6⟩ := HS.out.1
      obtain ⟨ad, rfl, Ai, ci, hcell, hci, hRi⟩ := HR.out.fr t3 k hlt
      obtain ⟨xs, hxs⟩ : ∃ xs, Hid (xs = l0[k]) := ⟨_, Lib.hid rfl⟩
      have htx : Hid (tot xs ≤ 1048576) := by rw [hxs.out]; exact Lib.hid (Nat.le_trans (tot_le k hlt) HB.out)
      rw [← hxs.out] at hcell hRi
      have hLl : Hid (L.length ≤ 1000) := Lib.hid (by have := HS.out.2.1.1; omega)
      have hMl : Hid (M.length ≤ 1000) := Lib.hid (by have := HS.out.2.2.1; omega)
      have HRI := Lib.hid hRi
      have T1 := Lib.hid t1; have T2 := Lib.hid t2; have T3 := Lib.hid t3; have T4 := Lib.hid t4; have T5 := Lib.hid t5; have T6 := Lib.hid t6
      clear t1 t2 t3 t4 t5 t6 hRi hci
      go_wp2_with fail
      refine (Of_any T1.out Ai ci xs HRI.out htx.out (HT.out.below T3.out.below (Nat.le_refl _)) hLl.out).mono ?_
      rintro e w4 ⟨⟨n4, f4, rfl⟩, hx⟩
      have S4 : Hid (Two w w4 t u (ofS L xs) M) := Two.step T1.out T2.out T3.out T4.out T5.out T6.out hx
      clear hx T1 T2 T3 T4 T5 T6 hcell
      obtain ⟨fu, ft, t1, t2, t3, t4, t5, t6⟩ := S4.out.swap
      obtain ⟨ad2, e2, Aj, cj, hcell2, hcj, hRj⟩ := HR.out.fr t3 s hsl
      injection e2 with e2; subst e2
      obtain ⟨ys, hys⟩ : ∃ ys, Hid (ys = l0[s]) := ⟨_, Lib.hid rfl⟩
      have hty : Hid (tot ys ≤ 1048576) := by rw [hys.out]; exact Lib.hid (Nat.le_trans (tot_le s hsl) HB.out)
      rw [← hys.out] at hcell2 hRj
      have HRJ := Lib.hid hRj
      have T1 := Lib.hid t1; have T2 := Lib.hid t2; have T3 := Lib.hid t3; have T4 := Lib.hid t4; have T5 := Lib.hid t5; have T6 := Lib.hid t6
      clear t1 t2 t3 t4 t5 t6 hRj hcj
      go_wp2_with fail
      refine (Of_any T1.out Aj cj ys HRJ.out hty.out (HT.out.below T3.out.below (Nat.le_refl _)) hMl.out).mono ?_
      rintro e w5 ⟨⟨n5, f5, rfl⟩, hx⟩
      have S5 : Hid (Two w w5 t u (ofS L xs) (ofS M ys)) := Lib.hid (Two.swap (Two.step T1.out T2.out T3.out T4.out T5.out T6.out hx))
      have I1 : Hid (InS (ofS L xs) (fun i => l0.getD i []) (k + 1)) := by
        have := HS.out.2.1.step (by omega)
        have e : l0.getD k [] = xs := by rw [hxs.out]; simp [hlt]
        rw [e] at this; exact this
      have I2 : Hid (InS (ofS M ys) (fun i => l0.getD (turn l0.length by_ i) []) (k + 1)) := by
        have := HS.out.2.2.step (by omega)
        have e : l0.getD (turn l0.length by_ k) [] = ys := by rw [hys.out]; simp [← HS'.out, hsl]
        rw [e] at this; exact this
      clear hx T1 T2 T3 T4 T5 T6 hcell2 hmod hnn hn0
      go_wp2_with fail
      go_roundw
      case rel => exact ⟨k + 1, _, _, by go_num, by omega, S5.out, I1.out, I2.out⟩
      case measure => simp [intOf]; omega
    · obtain rfl : k = l0.length := by omega
      have HSame := Lib.hid (HS.out.2.1.same HS.out.2.2)
      have hLl : L.length ≤ 60 := by have := HS.out.2.1.1; omega
      have hMl : M.length ≤ 60 := by have := HS.out.2.2.1; omega
      have HLS : Hid (∀ x, x ∈ L → x.length ≤ 1000) := fun x hx => by have := HS.out.2.1.short x hx; omega
      have HMS : Hid (∀ x, x ∈ M → x.length ≤ 1000) := fun x hx => by have := HS.out.2.2.short x hx; omega
      have S : Hid (Two w wr t u L M) := HS.out.1
      clear HS
      obtain ⟨ft, fu, t1, t2, t3, t4, t5, t6⟩ := S.out
      have T1 := Lib.hid t1; have T2 := Lib.hid t2
      clear t1 t2 t3 t4 t5 t6
      go_wp2_with fail
      refine (Order_q hS hN T1.out (by omega) HLS.out).mono ?_
      rintro e w6 ⟨AX, cX, X, rfl, hcX, hRX, hOX, hF6⟩
      have F6 := Lib.hid hF6; have HRX := Lib.hid hRX; have HOX := Lib.hid hOX; have HCX := Lib.hid hcX
      clear hF6 hRX hOX hcX
      go_wp2_with fail
      refine (Order_q hS hN (T2.out.fr F6.out (by simp)) (by omega) HMS.out).mono ?_
      rintro e w7 ⟨AY, cY, Y, rfl, hcY, hRY, hOY, hF7⟩
      have F7 := Lib.hid hF7; have HRY := Lib.hid hRY; have HOY := Lib.hid hOY; have HCY := Lib.hid hcY
      have HRX7 : Hid (ReadsInt w7 .i64 AX X.length X) := Lib.hid (HRX.out.below hF7.below)
      clear hF7 hRY hOY hcY HRX
      have S7 : Hid (Two w w7 t u L M) := (S.out.fr F6.out).fr F7.out
      have HRows : Hid (X.map (rowN L) = Y.map (rowN M)) := Lib.hid (ordered_same HOX.out HOY.out HSame.out)
      have hXY : Hid (X.length = Y.length) := Lib.hid (by have := congrArg List.length HRows.out; simpa using this)
      have e1 : ((X.length : Int) != (Y.length : Int)) = false := by rw [hXY.out]; simp
      have e2 : ((X.length : Int) == (Y.length : Int)) = true := by rw [hXY.out]; simp
      have hXl : X.length ≤ 60 := by have := HOX.out.1.length_eq; rw [upN_len] at this; omega
      have hYl : Y.length ≤ 60 := by have := hXY.out; omega
      clear T1 T2 S F6 F7
      go_wp2_with fail
      clear e1 e2
      go_loopw [18] (fun iv wr => ∃ k : Nat, iv = .int .i64 k ∧ k ≤ X.length ∧ Hid (Fr [] w7 wr)) (fun iv _ => X.length - (intOf iv).toNat)
      case atStart => exact ⟨0, rfl, Nat.zero_le _, Fr.refl _ _⟩
      case round =>
        obtain ⟨k, rfl, hk, FW⟩ := hrel
        have S8 : Hid (Two w wr t u L M) := S7.out.fr FW.out
        by_cases hlt : k < X.length
        · have hki : (k : Int) < X.length := by omega
          have hltY : k < Y.length := by have := hXY.out; omega
          have hkiY : (k : Int) < Y.length := by omega
          obtain ⟨ft, fu, t1, t2, t3, t4, t5, t6⟩ := S8.out
          obtain ⟨adx, hAX, hcx⟩ := (HRX7.out.below FW.out.below).2.2 (by omega)
          subst hAX
          have hx1 := hcx k hlt
          obtain ⟨ady, hAY, hcy⟩ := (HRY.out.below FW.out.below).2.2 (by omega)
          subst hAY
          have hy1 := hcy k hltY
          obtain ⟨ia, hia, hea⟩ := upN_mem (HOX.out.1.mem_iff.1 (List.getElem_mem hlt))
          obtain ⟨ib, hib, heb⟩ := upN_mem (HOY.out.1.mem_iff.1 (List.getElem_mem hltY))
          rw [List.getD_eq_getElem?_getD, List.getElem?_eq_getElem hlt] at hx1
          rw [List.getD_eq_getElem?_getD, List.getElem?_eq_getElem hltY] at hy1
          simp only [Option.getD_some] at hx1 hy1
          have hrr : L[ia] = M[ib] := by
            have h := congrArg (fun l => l[k]?) HRows.out
            simp only [List.getElem?_map, List.getElem?_eq_getElem hlt, List.getElem?_eq_getElem hltY, Option.map_some, Option.some.injEq] at h
            rw [hea, heb, rowN_at L ia hia, rowN_at M ib hib] at h
            exact h
          rw [hea] at hx1
          rw [heb] at hy1
          have HQ1 := Lib.hid (Labels_q t1 ia hia (by omega) (HLS.out _ (List.getElem_mem hia)))
          obtain ⟨xs, hxs⟩ : ∃ xs, Hid (xs = L[ia]) := ⟨_, Lib.hid rfl⟩
          have hxl : xs.length ≤ 1000 := by rw [hxs.out]; exact HLS.out _ (List.getElem_mem hia)
          rw [← hxs.out] at HQ1
          have T2 := Lib.hid t2
          have hML : Hid (M[ib] = xs) := Lib.hid (by rw [hxs.out, hrr])
          have HIB := Lib.hid hib
          clear hcx hcy hea heb hrr t1 t2 t3 t4 t5 t6
          have hy1' := Lib.hid hy1; clear hy1
          go_wp2_with fail
          refine HQ1.out.mono ?_
          rintro e w8 ⟨A8, c8, rfl, hc8, hR8, hB8⟩
          have F8 : Hid (Fr [] wr w8) := Fr.of_below hB8 [] (Nat.le_refl _)
          have hy2 := pw_cell_below hB8 hy1'.out
          have hq := Labels_q (T2.out.fr F8.out (by simp)) ib HIB.out (by omega) (HMS.out _ (List.getElem_mem HIB.out))
          rw [hML.out] at hq
          have HQ := Lib.hid hq
          have HR8 := Lib.hid hR8; have HC8 := Lib.hid hc8
          clear hq hR8 hc8 hB8 hx1
          go_wp2_with fail
          refine HQ.out.mono ?_
          rintro e w9 ⟨A9, c9, rfl, hc9, hR9, hB9⟩
          have F9 : Hid (Fr [] w8 w9) := Fr.of_below hB9 [] (Nat.le_refl _)
          have HR9 := Lib.hid hR9; have HC9 := Lib.hid hc9
          have HR89 : Hid (RS w9 A8 xs.length xs) := HR8.out.below hB9
          clear hR9 hc9 hB9 hy2
          go_wp2_with fail
          refine (Same_r w9 A8 c8 xs A9 c9 xs HR89.out HC8.out HR9.out HC9.out (by omega) true (by simp)).mono ?_
          rintro e w10 ⟨rfl, m, rfl⟩
          go_wp2_with fail
          go_roundw
          case rel => exact ⟨k + 1, by go_num, by omega, Lib.hid (((FW.out.trans F8.out).trans F9.out).drewN m)⟩
          case measure => simp [intOf]; omega
        · obtain rfl : k = X.length := by omega
          have FA : Hid (Fr [] w wr) := S8.out.f
          have Q2 : Hid (RS wr A2 l2.length l2) := R2.out.fr FA.out (by simp)
          have Q3 : Hid (RS wr A3 l3.length l3) := R3.out.fr FA.out (by simp)
          have Q4 : Hid (RS wr A4 l4.length l4) := R4.out.fr FA.out (by simp)
          go_wp2_with fail
          refine (SCmp_r wr A2 c2 l2 A3 c3 l3 Q2.out HC2.out Q3.out HC3.out (by omega)).mono ?_
          rintro e w8 ⟨rfl, hd⟩
          have D8 := Lib.hid (fr_drewN hd); clear hd
          go_wp2_with fail
          refine (SCmp_r _ A3 c3 l3 A4 c4 l4 (Q3.out.fr D8.out (by simp)) HC3.out (Q4.out.fr D8.out (by simp)) HC4.out (by omega)).mono ?_
          rintro e w9 ⟨rfl, hd⟩
          have D9 := Lib.hid (D8.out.trans (fr_drewN hd)); clear hd
          go_wp2_with fail
          refine (SCmp_r _ A2 c2 l2 A4 c4 l4 (Q2.out.fr D9.out (by simp)) HC2.out (Q4.out.fr D9.out (by simp)) HC4.out (by omega)).mono ?_
          rintro e w10 ⟨rfl, hd⟩
          have D10 := Lib.hid (D9.out.trans (fr_drewN hd)); clear hd
          obtain ⟨p, hp⟩ : ∃ p, Hid (p = cmpL l2 l3) := ⟨_, Lib.hid rfl⟩
          obtain ⟨q, hq⟩ : ∃ q, Hid (q = cmpL l3 l4) := ⟨_, Lib.hid rfl⟩
          obtain ⟨r, hr⟩ : ∃ r, Hid (r = cmpL l2 l4) := ⟨_, Lib.hid rfl⟩
          have hpn : Hid (cmpL l3 l2 = -p) := Lib.hid (by rw [hp.out]; exact cmpL_neg l2 l3)
          have htr : Hid (p ≤ 0 → q ≤ 0 → r ≤ 0) := Lib.hid (by rw [hp.out, hq.out, hr.out]; exact cmpL_le_trans)
          have hpv : -1 ≤ p ∧ p ≤ 1 := by have := cmpL_val l2 l3; rw [hp.out]; omega
          obtain ⟨hp1, hp2⟩ := hpv
          rw [← hp.out, ← hq.out, ← hr.out]
          go_wp2_with fail
          refine (Of_nil A2 l2.length c2 _).mono ?_
          rintro e w11 ⟨rfl, rfl⟩
          go_wp2_with fail
          refine (Labels_nil _).mono ?_
          rintro e w11 ⟨rfl, rfl⟩
          go_wp2_with fail
          refine (Cmp_r _ A2 c2 l2 A3 c3 l3 (Q2.out.fr D10.out (by simp)) HC2.out (Q3.out.fr D10.out (by simp)) HC3.out (by omega)).mono ?_
          rintro e w11 ⟨rfl, hd⟩
          have D11 := Lib.hid (D10.out.trans (fr_drewN hd)); clear hd
          rw [← hp.out]
          go_wp2_with fail
          refine (SCmp_r _ A3 c3 l3 A2 c2 l2 (Q3.out.fr D11.out (by simp)) HC3.out (Q2.out.fr D11.out (by simp)) HC2.out (by omega)).mono ?_
          rintro e w12 ⟨rfl, hd⟩
          have D12 := Lib.hid (FA.out.trans (D11.out.trans (fr_drewN hd))); clear hd
          rw [hpn.out]
          have hw1 : IntKind.i64.wrap (-(-p)) = p := by rw [Int.neg_neg]; exact IntWalk.i64_in _ (by omega)
          have hw2 : IntKind.i64.wrap p = p := IntWalk.i64_in _ (by omega)
          by_cases hP : p ≤ 0
          · have dP : decide (p ≤ 0) = true := decide_eq_true hP
            by_cases hQ : q ≤ 0
            · have dQ : decide (q ≤ 0) = true := decide_eq_true hQ
              have dR : decide (r ≤ 0) = true := decide_eq_true (htr.out hP hQ)
              go_wp2_with fail
              refine (Len_nil _).mono ?_
              rintro e w13 ⟨rfl, rfl⟩
              go_wp2_with fail
              refine (Order_nil hN _).mono ?_
              rintro e w14 ⟨rfl, hB14⟩
              have D14 := Lib.hid (D12.out.trans (Fr.of_below hB14 [] (Nat.le_refl _))); clear hB14
              go_wp2_with fail
              go_ret
              exact ⟨by first | rfl | (simp; done), D14.out.below⟩
            · have dQ : decide (q ≤ 0) = false := decide_eq_false hQ
              go_wp2_with fail
              refine (Len_nil _).mono ?_
              rintro e w13 ⟨rfl, rfl⟩
              go_wp2_with fail
              refine (Order_nil hN _).mono ?_
              rintro e w14 ⟨rfl, hB14⟩
              have D14 := Lib.hid (D12.out.trans (Fr.of_below hB14 [] (Nat.le_refl _))); clear hB14
              go_wp2_with fail
              go_ret
              exact ⟨by first | rfl | (simp; done), D14.out.below⟩
          · have dP : decide (p ≤ 0) = false := decide_eq_false hP
            go_wp2_with fail
            refine (Len_nil _).mono ?_
            rintro e w13 ⟨rfl, rfl⟩
            go_wp2_with fail
            refine (Order_nil hN _).mono ?_
            rintro e w14 ⟨rfl, hB14⟩
            have D14 := Lib.hid (D12.out.trans (Fr.of_below hB14 [] (Nat.le_refl _))); clear hB14
            go_wp2_with fail
            go_ret
            exact ⟨by first | rfl | (simp; done), D14.out.below⟩
end Go.Proofs.YtkmfgacfccgdcaaDoor.seriesOrder
