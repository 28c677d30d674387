/- SeriesPlays: the law's walk (arguments of at most 1048576 letters together); the sort's contract is a premise. -/
import Derived.Test.YtkmfgacfccgdcaaDoorMgSeriesPlays10
import Derived.Test.YtkmfgacfccgdcaaDoorMgSeriesPlays2
import Derived.Deep.Cut
import Derived.Deep.DeepCutAuto
set_option linter.unusedVariables false
set_option linter.unusedSimpArgs false
namespace Go.Proofs.YtkmfgacfccgdcaaDoor.seriesPlays
open Go.RowKit Go.Proofs.YtkmfgacfccgdcaaDoor.B0 Go.Proofs.YtkmfgacfccgdcaaDoor.Ps Go.Proofs.YtkmfgacfccgdcaaDoorW.PrintWords Go.Proofs.YtkmfgacfccgdcaaDoorW.PrintLast Go.Proofs.YtkmfgacfccgdcaaDoor.Bld Go.Proofs.YtkmfgacfccgdcaaDoor.Sr

set_option maxHeartbeats 1000000 in
theorem Of_long {w : World} {t : Nat} {most : Int} {L : List (List ByteArray)} {fp : List Nat} (h : TA w t most L fp) (A : Option Addr) (n c : Nat) (hn : 16 < n) :
    Calls Tryd.prog 8 #[.pointer (some ⟨t, 0, none⟩), .slice A n c] w fun e w' => e = .returned (.tuple #[.int .i64 0, .int .i64 2]) ∧ w = w' := by
  have hni : (16 : Int) < n := by omega
  clear h
  go_enter Tryd.func8, Tryd.ntmps8
  go_wp2_with fail
  go_ret2
  exact ⟨rfl, rfl⟩
/-- an argument of lists of texts, row by row. -/
def RowsAt (w : World) (B : Nat) (A : Option Addr) (l : List (List ByteArray)) : Prop := ∀ i (h : i < l.length), ∃ ad, A = some ad ∧ ∃ Ai ci, w.cell? (ad.add i) = some (.slice Ai l[i].length ci) ∧ RowB w B (.slice Ai l[i].length ci) l[i]
theorem rows_of_C {w : World} {A : Option Addr} {n : Nat} {l : List (List ByteArray)} (h : Kd.C (Kd.slice 9 Kd.string) w A n l) : RowsAt w w.heap.size A l := by
  intro i hi
  obtain ⟨h1, h2, h3⟩ := h
  obtain ⟨ad, e, hc⟩ := h3 (by omega)
  obtain ⟨c, hl, ⟨Ai, ci, rfl, hk, hC⟩, hcell⟩ := hc i _ (List.getElem?_eq_getElem hi)
  have hR : RS w Ai l[i].length l[i] := Kd.reads_of_C (enc := Value.string) (d := ByteArray.empty) (h1 := fun _ => rfl) hC
  refine ⟨ad, e, Ai, ci, ?_, Ai, ci, rfl, hk, hR, fun a ea h0 => ?_⟩
  · have := hcell 0 _ rfl
    simpa [Kd.slice] using this
  · obtain ⟨a', e', hc'⟩ := hR.2.2 h0
    rw [ea] at e'
    injection e' with e'
    subst e'
    have := World.block_lt_of_cell? w _ (hc' 0 h0)
    exact this
theorem RowsAt.fr {w w' : World} {B : Nat} {A : Option Addr} {l : List (List ByteArray)} (h : RowsAt w B A l) (hf : Fr [] w w') : RowsAt w' B A l := by
  intro i hi
  obtain ⟨ad, e, Ai, ci, h1, h2⟩ := h i hi
  have hlt : (ad.add i).block < w.heap.size := World.block_lt_of_cell? w _ h1
  exact ⟨ad, e, Ai, ci, by rw [World.cell?_of_block (hf.block _ hlt (by simp))]; exact h1, h2.fr hf (by simp)⟩
theorem tot_le {l : List (List ByteArray)} (i : Nat) (h : i < l.length) : tot l[i] ≤ (l.map tot).sum := by
  induction l generalizing i with
  | nil => simp at h
  | cons x l ih =>
    cases i with
    | zero => simp
    | succ i => have := ih i (by simpa using h); simp at this ⊢; omega

/-- the table and the reference's list hold the same rows. -/
def St (w wr : World) (t : Nat) (most : Int) (L : List (List ByteArray)) (mv : Value) : Prop :=
  ∃ fp, TA wr t most L fp ∧ Fr [] w wr ∧ (∀ k, k ∈ fp → w.heap.size ≤ k) ∧ MR wr w.heap.size w.heap.size mv L ∧ ∀ g, mv.ownBlock = some g → g ∉ fp
theorem St.f {w w1 : World} {t : Nat} {most : Int} {L : List (List ByteArray)} {mv : Value} (h : St w w1 t most L mv) : Fr [] w w1 := h.choose_spec.2.1
theorem St.fr0 {w w1 w2 : World} {t : Nat} {most : Int} {L : List (List ByteArray)} {mv : Value} (h : St w w1 t most L mv) (hf : Fr [] w1 w2) : St w w2 t most L mv := by
  obtain ⟨fp, t1, t2, t3, t4, t5⟩ := h
  exact ⟨fp, t1.fr hf (by simp), t2.trans hf, t3, t4.fr hf (by simp) (by simp), t5⟩
/-- both take a row. -/
theorem St.step {w w1 w2 w3 : World} {t : Nat} {most : Int} {L L' : List (List ByteArray)} {mv mv' : Value} {fp : List Nat} (h1 : TA w1 t most L fp) (h2 : Fr [] w w1) (h3 : ∀ k, k ∈ fp → w.heap.size ≤ k) (h4 : MR w1 w.heap.size w.heap.size mv L) (h5 : ∀ g, mv.ownBlock = some g → g ∉ fp)
    (hx : ∃ fp', TA w2 t most L' fp' ∧ Fr fp w1 w2 ∧ (∀ k, k ∈ fp' → k ∈ fp ∨ w1.heap.size ≤ k)) (hm : MR w3 w.heap.size w.heap.size mv' L') (hf : Fr mv.ownBlock.toList w2 w3) (hb : mv'.ownBlock = mv.ownBlock ∨ ∃ g, mv'.ownBlock = some g ∧ w2.heap.size ≤ g) : St w w3 t most L' mv' := by
  obtain ⟨fp', k1, k2, k3⟩ := hx
  have hd : ∀ g, mv.ownBlock = some g → g ∉ fp' := fun g e hg => by
    rcases k3 g hg with h | h
    · exact h5 g e h
    · have := (h4.lt g e).2; omega
  have hlow : ∀ k, k ∈ fp' → w.heap.size ≤ k := fun k hk => by
    rcases k3 k hk with h | h
    · exact h3 k h
    · have := h2.size; omega
  have F2 : Fr [] w w2 := h2.trans' k2 (fun k hk => .inr (h3 k hk))
  refine ⟨fp', k1.fr hf (fun k hk hh => ?_), F2.trans' hf (fun k hk => .inr ?_), hlow, hm, fun g e hg => ?_⟩
  · simp only [Option.mem_toList] at hh; exact hd k hh hk
  · simp only [Option.mem_toList] at hk; exact (h4.lt k hk).1
  · rcases hb with h | ⟨b, h, hb'⟩
    · rw [h] at e; exact hd g e hg
    · rw [h] at e
      have : b = g := by simpa using e
      have := k1.lt g hg
      omega

/-- what Labels answers at any number. -/
def LabP (L : List (List ByteArray)) (a : Int) (A : Option Addr) (n c : Nat) (ok : Bool) (w : World) : Prop :=
  (a < 0 ∧ n = 0 ∧ ok = false) ∨ ((L.length : Int) < a ∧ n = 0 ∧ ok = false) ∨ (a = 0 ∧ n = 0 ∧ ok = true) ∨ ∃ i, ∃ h : i < L.length, a = (i : Int) + 1 ∧ n = L[i].length ∧ ok = true ∧ n ≤ c ∧ RS w A n L[i]
theorem Labels_any {w : World} {t : Nat} {most : Int} {L : List (List ByteArray)} {fp : List Nat} (h : TA w t most L fp) (a : Int) (hL : L.length ≤ 1000) (hrl : ∀ x, x ∈ L → x.length ≤ 1000) :
    Calls Tryd.prog 10 #[.pointer (some ⟨t, 0, none⟩), .int .i64 a] w fun e w' => ∃ A n c ok, e = .returned (.tuple #[.slice A n c, .bool ok]) ∧ Below w.heap.size w w' ∧ LabP L a A n c ok w' := by
  by_cases h0 : a < 0
  · exact (Labels_no h a (.inl h0)).mono fun e w' ⟨he, hw⟩ => ⟨none, 0, 0, false, he, hw ▸ Below.refl _ _, .inl ⟨h0, rfl, rfl⟩⟩
  by_cases h1 : (L.length : Int) < a
  · exact (Labels_no h a (.inr h1)).mono fun e w' ⟨he, hw⟩ => ⟨none, 0, 0, false, he, hw ▸ Below.refl _ _, .inr (.inl ⟨h1, rfl, rfl⟩)⟩
  by_cases h2 : a = 0
  · subst h2
    exact (Labels_0 h).mono fun e w' ⟨he, hw⟩ => ⟨none, 0, 0, true, he, hw ▸ Below.refl _ _, .inr (.inr (.inl ⟨rfl, rfl, rfl⟩))⟩
  · obtain ⟨i, rfl⟩ : ∃ i : Nat, a = (i : Int) + 1 := ⟨(a - 1).toNat, by omega⟩
    have hi : i < L.length := by omega
    exact (Labels_q h i hi hL (hrl _ (List.getElem_mem hi))).mono fun e w' ⟨A, c, he, hc, hr, hb⟩ => ⟨A, L[i].length, c, true, he, hb, .inr (.inr (.inr ⟨i, hi, rfl, rfl, rfl, hc, hr⟩))⟩

set_option maxRecDepth 100000 in
set_option maxHeartbeats 8000000 in
theorem seriesPlays_walk0 (hS : SortC) (hN : SortN) (w : World) (ht : tabP w) (a0 : Int) (w0 : (Lit.int .i64 a0).wf = true) (A1 : Option Addr) (c1 : Nat) (l1 : List (List ByteArray)) (C1 : Kd.C (Kd.slice 9 Kd.string) w A1 l1.length l1) (hc1 : l1.length ≤ c1) (m1 : l1.length ≤ maxLen) (W1 : ∀ x ∈ l1, x.length ≤ maxLen ∧ ∀ s ∈ x, s.size ≤ maxLen) (a2 : Int) (w2 : (Lit.int .i64 a2).wf = true) (hb : (l1.map tot).sum ≤ 1048576) :
    Calls Tryd.prog 4 #[.int .i64 a0, .slice A1 l1.length c1, .int .i64 a2] w fun e w' => e = .returned (.bool true) ∧ Below w.heap.size w w' := by
  have HR := Lib.hid (rows_of_C C1)
  have HB := Lib.hid hb
  have HT := Lib.hid ht
  have HA2 := Lib.hid (wf_i64 w2)
  clear C1 hc1 m1 W1 w0 hb ht w2
  go_enter Tryd.func4, Tryd.ntmps4
  go_wp2_with fail
  refine (alive20 w HT.out).mono ?_
  rintro e w1 ⟨rfl, hB1⟩
  have F1 : Hid (Fr [] w w1) := Fr.of_below hB1 [] (Nat.le_refl _)
  clear hB1
  by_cases h100 : (100 : Int) < l1.length
  · go_wp2_with fail
    go_ret
    exact ⟨rfl, F1.out.below⟩
  have hd100 : decide ((100 : Int) < l1.length) = false := by simpa using h100
  have hl100 : l1.length ≤ 100 := by omega
  clear h100
  by_cases hlo : a0 < 1
  · go_wp2_with fail
    refine (New_no a0 w1 (.inl hlo)).mono ?_
    rintro e w2 ⟨rfl, rfl⟩
    go_wp2_with fail
    go_ret
    exact ⟨by first | rfl | (simp; done), F1.out.below⟩
  have hdlo : decide (a0 < 1) = false := by simpa using hlo
  by_cases hhi : 65536 < a0
  · go_wp2_with fail
    refine (New_no a0 w1 (.inr hhi)).mono ?_
    rintro e w2 ⟨rfl, rfl⟩
    go_wp2_with fail
    go_ret
    exact ⟨by first | rfl | (simp; done), F1.out.below⟩
  have hdhi : decide (65536 < a0) = false := by simpa using hhi
  go_wp2_with fail
  refine (New_c a0 w1 (by omega) (by omega)).mono ?_
  rintro e w2 ⟨t, fp, rfl, hT, hF, hn⟩
  have S0 : Hid (St w w2 t a0 [] (.slice none 0 0)) := ⟨fp, hT, F1.out.trans hF, fun k hk => Nat.le_trans F1.out.size (hn k hk), ⟨[], World.ownsRow_nil _ _ _ _, fun i h => by simp at h⟩, fun g e => by simp [Value.ownBlock] at e⟩
  clear hT hF hn
  go_wp2_with fail
  go_loopw [10, 9] (fun iv mv wr => ∃ (k : Nat) (v : Value) (L : List (List ByteArray)), iv = .int .i64 k ∧ v = mv ∧ k ≤ l1.length ∧ Hid (St w wr t a0 L v ∧ L.length ≤ k ∧ ∀ x, x ∈ L → x.length ≤ 16)) (fun iv _ _ => l1.length - (intOf iv).toNat)
  case atStart => exact ⟨0, _, [], rfl, rfl, Nat.zero_le _, S0.out, Nat.le_refl _, by simp⟩
  case round =>
    clear S0
    obtain ⟨k, mv, L, rfl, rfl, hk, HS⟩ := hrel
    by_cases hlt : k < l1.length
    · have hki : (k : Int) < l1.length := by omega
      obtain ⟨fp, t1, t2, t3, t4, t5⟩ := HS.out.1
      obtain ⟨ad, rfl, Ai, ci, hcell, hRB⟩ := HR.out.fr t2 k hlt
      obtain ⟨xs, hxs⟩ : ∃ xs, Hid (xs = l1[k]) := ⟨_, Lib.hid rfl⟩
      have htx : tot xs ≤ 1048576 := by rw [hxs.out]; exact Nat.le_trans (tot_le k hlt) HB.out
      have hls : Hid (L.length ≤ 1000) := Lib.hid (by have := HS.out.2.1; omega)
      rw [← hxs.out] at hcell hRB
      have HRB := Lib.hid hRB
      have T1 := Lib.hid t1; have T2 := Lib.hid t2; have T3 := Lib.hid t3; have T4 := Lib.hid t4; have T5 := Lib.hid t5
      clear hRB t1 t2 t3 t4 t5
      by_cases h40 : (40 : Int) < xs.length
      · go_wp2_with fail
        go_ret
        exact ⟨rfl, T2.out.below⟩
      have hd40 : decide ((40 : Int) < xs.length) = false := by simpa using h40
      by_cases h16 : (16 : Int) < xs.length
      · clear h40
        go_wp2_with fail
        refine (Of_long T1.out Ai xs.length ci (by omega)).mono ?_
        rintro e w3 ⟨rfl, rfl⟩
        go_wp2_with fail
        go_roundw
        case rel => exact ⟨k + 1, mv, L, by go_num, rfl, by omega, HS.out.1, by have := HS.out.2.1; omega, HS.out.2.2⟩
        case measure => simp [intOf]; omega
      · have hd16 : decide ((16 : Int) < xs.length) = false := by simpa using h16
        have hx16 : xs.length ≤ 16 := by omega
        clear h40
        obtain ⟨Ax, cx, ex, hkx, hRx, hBx⟩ := HRB.out
        obtain ⟨rfl, rfl⟩ : Ai = Ax ∧ ci = cx := by simpa using ex
        have HRX := Lib.hid hRx
        clear ex hRx hBx hkx
        go_wp2_with fail
        refine (Of_q T1.out Ai ci xs HRX.out hx16 htx (HT.out.below T2.out.below (Nat.le_refl _)) hls.out).mono ?_
        rintro e w3 ⟨rfl, hx⟩
        have HX := Lib.hid hx
        obtain ⟨fp', _, hfx, hnx⟩ := hx
        have F3 : Hid (Fr [] w w3) := T2.out.trans' hfx (fun b hb => .inr (T3.out b hb))
        have M3 : Hid (MR w3 w.heap.size w.heap.size mv L) := T4.out.fr hfx T3.out (fun g e hg => T5.out g e hg)
        have HRB3 : Hid (RowB w3 w.heap.size (.slice Ai xs.length ci) xs) := HRB.out.fr hfx T3.out
        obtain ⟨n, hn⟩ : ∃ n, Hid (n = ofN a0 L xs) := ⟨_, Lib.hid rfl⟩
        rw [← hn.out]
        clear hfx hnx hcell
        obtain ⟨ad2, e2, Ai2, ci2, hcell2, hRB2⟩ := HR.out.fr F3.out k hlt
        injection e2 with e2; subst e2
        rw [← hxs.out] at hcell2 hRB2
        have HRB2 := Lib.hid hRB2
        clear hRB2
        go_wp2_with fail
        refine (ROf_q M3.out (Nat.le_refl _) F3.out.size Ai2 ci2 xs HRB2.out a0 hls.out (by omega) (fun x hx => by have := HS.out.2.2 x hx; omega)).mono ?_
        rintro e w4 ⟨mv', rfl, hM, hF4, hbk⟩
        rw [← hn.out]
        have S4 : Hid (St w w4 t a0 (ofL a0 L xs) mv') := St.step T1.out T2.out T3.out T4.out T5.out HX.out hM hF4 hbk
        obtain ⟨L', hL'⟩ : ∃ L', Hid (L' = ofL a0 L xs) := ⟨_, Lib.hid rfl⟩
        have hLL : Hid (L'.length ≤ k + 1 ∧ ∀ x, x ∈ L' → x.length ≤ 16) := by
          rw [hL'.out]
          rcases ofL_cases a0 L xs with ⟨i, _, _, e⟩ | ⟨_, _, _, e⟩ | ⟨_, _, _, e⟩
          · rw [e]; exact ⟨by have := HS.out.2.1; omega, HS.out.2.2⟩
          · rw [e]; exact ⟨by have := HS.out.2.1; omega, HS.out.2.2⟩
          · rw [e]
            refine ⟨by have := HS.out.2.1; simp; omega, fun x hx => ?_⟩
            rcases List.mem_append.1 hx with h | h
            · exact HS.out.2.2 x h
            · simp at h; rw [h]; exact hx16
        rw [← hL'.out] at S4 hM
        obtain ⟨Am, cm, rfl, hcm⟩ := hM.form
        clear hM hF4 hbk hcm
        have T14 : Hid (∃ fp, TA w4 t a0 L' fp) := by obtain ⟨fp, h, _⟩ := S4.out; exact ⟨fp, h⟩
        obtain ⟨fp4, hT4⟩ := T14.out
        have HT4 := Lib.hid hT4
        clear hT4 T14
        go_wp2_with fail
        refine (Len_q HT4.out).mono ?_
        rintro e w5 ⟨rfl, rfl⟩
        go_wp2_with fail
        go_roundw
        case rel => exact ⟨k + 1, .slice Am L'.length cm, L', by go_num, rfl, by omega, S4.out, hLL.out.1, hLL.out.2⟩
        case measure => simp [intOf]; omega
    · obtain rfl : k = l1.length := by omega
      obtain ⟨fp, t1, t2, t3, t4, t5⟩ := HS.out.1
      have hLl : L.length ≤ 100 := by have := HS.out.2.1; omega
      have HRL : Hid (∀ x, x ∈ L → x.length ≤ 1000) := fun x hx => by have := HS.out.2.2 x hx; omega
      obtain ⟨Am, cm, rfl, hcm⟩ := t4.form
      have T1 := Lib.hid t1; have T2 := Lib.hid t2; have T4 := Lib.hid t4; have HCM := Lib.hid hcm
      clear t1 t2 t3 t4 t5 hcm HS
      have ha2l := HA2.out.1; have ha2h := HA2.out.2
      go_wp2_with fail
      refine (Labels_any T1.out a2 (by omega) HRL.out).mono ?_
      rintro e w6 ⟨A6, n6, c6, ok, rfl, hB6, hP⟩
      have F6 : Hid (Fr [] wr w6) := Fr.of_below hB6 [] (Nat.le_refl _)
      have HP := Lib.hid hP
      have M6 : Hid (MR w6 w.heap.size w.heap.size (.slice Am L.length cm) L) := T4.out.fr F6.out (by simp) (by simp)
      clear hB6 hP
      go_upto_region 23 with fail
      go_cut [144] (fun s wx => s = .bool false ∧ Hid (Fr [] w6 wx))
      case first =>
        rcases HP.out with ⟨h1, rfl, rfl⟩ | ⟨h1, rfl, rfl⟩ | ⟨rfl, rfl, rfl⟩ | ⟨i, hi, rfl, hn, rfl, hc, hr⟩
        · have d0 : decide (0 ≤ a2) = false := decide_eq_false (by omega)
          have d1 : decide (0 < a2) = false := decide_eq_false (by omega)
          have d2 : (a2 == 0) = false := by rw [beq_eq_false_iff_ne]; omega
          go_wp2_with fail
          go_meet
          exact ⟨by first | rfl | (simp; done), Fr.refl _ _⟩
        · have d0 : decide (0 ≤ a2) = true := decide_eq_true (by omega)
          have d1 : decide (0 < a2) = true := decide_eq_true (by omega)
          have d2 : (a2 == 0) = false := by rw [beq_eq_false_iff_ne]; omega
          have d3 : decide (a2 ≤ (L.length : Int)) = false := decide_eq_false (by omega)
          go_wp2_with fail
          go_meet
          exact ⟨by first | rfl | (simp; done), Fr.refl _ _⟩
        · go_wp2_with fail
          go_meet
          exact ⟨by first | rfl | (simp; done), Fr.refl _ _⟩
        · obtain ⟨adm, rfl, Ar, cr, hcell, hcr, hRr⟩ := M6.out.cell i hi
          obtain ⟨xs, hxs⟩ : ∃ xs, Hid (xs = L[i]) := ⟨_, Lib.hid rfl⟩
          have hxl := HRL.out L[i] (List.getElem_mem hi)
          rw [← hxs.out] at hn hr hcell hcr hRr hxl
          subst hn
          have HR6 := Lib.hid hr; have HC6 := Lib.hid hc; have HRr := Lib.hid hRr; have HCr := Lib.hid hcr
          clear hr hc hRr hcr
          have hil : (i : Int) < L.length := by omega
          have d0 : decide (0 ≤ (i : Int) + 1) = true := decide_eq_true (by omega)
          have d1 : decide (0 < (i : Int) + 1) = true := decide_eq_true (by omega)
          have d2 : ((i : Int) + 1 == 0) = false := by rw [beq_eq_false_iff_ne]; omega
          have d3 : decide ((i : Int) + 1 ≤ (L.length : Int)) = true := decide_eq_true (by omega)
          have h6 : IntKind.i64.wrap ((i : Int) + 1 - 1) = (i : Int) := by rw [show (i : Int) + 1 - 1 = i from by omega]; exact IntWalk.i64_in _ (by omega)
          go_wp2_with fail
          refine (Same_r _ A6 c6 xs Ar cr xs HR6.out HC6.out HRr.out HCr.out (by omega) true (by simp)).mono ?_
          rintro e w7 ⟨rfl, m, rfl⟩
          go_wp2_with fail
          go_meet
          exact ⟨by first | rfl | (simp; done), (Fr.refl _ _).drewN m⟩
      case rest =>
        obtain ⟨rfl, hF7⟩ := hcut
        have T7 : Hid (TA wc t a0 L fp) := (T1.out.fr F6.out (by simp)).fr hF7.out (by simp)
        have FW7 : Hid (Fr [] w wc) := (T2.out.trans F6.out).trans hF7.out
        have M7 : Hid (MR wc w.heap.size w.heap.size (.slice Am L.length cm) L) := M6.out.fr hF7.out (by simp) (by simp)
        clear HP T1 T2 T4 M6 hF7
        go_wp2_with fail
        refine (Order_q hS hN T7.out (by omega) HRL.out).mono ?_
        rintro e w8 ⟨AX, cX, X, rfl, hcX, hRX, hO, hF8⟩
        have M8 : Hid (MR w8 w.heap.size w.heap.size (.slice Am L.length cm) L) := M7.out.fr hF8 (by simp) (by simp)
        have FW8 : Hid (Fr [] w w8) := FW7.out.trans hF8
        have HRX := Lib.hid hRX; have HO := Lib.hid hO; have HCX := Lib.hid hcX
        have hXl : Hid (X.length = L.length) := Lib.hid (by rw [hO.1.length_eq, upN_len])
        have e1 : ((X.length : Int) == (L.length : Int)) = true := by rw [beq_iff_eq, hXl.out]
        have e2 : ((X.length : Int) != (L.length : Int)) = false := by rw [hXl.out]; simp
        have hXn : X.length ≤ 100 := by rw [hXl.out]; exact hLl
        clear hRX hO hcX hF8 T7 M7
        go_wp2_with fail
        clear e1 e2
        go_loopw [18] (fun iv wr => ∃ k : Nat, iv = .int .i64 k ∧ k ≤ X.length ∧ Hid (∃ n, wr = w8.drewN n)) (fun iv _ => X.length - (intOf iv).toNat)
        case atStart => exact ⟨0, rfl, Nat.zero_le _, 0, rfl⟩
        case round =>
          obtain ⟨k, rfl, hk, HW⟩ := hrel
          have F9 : Hid (Fr [] w8 wr) := by obtain ⟨n, hn⟩ := HW.out; rw [hn]; exact (Fr.refl _ _).drewN n
          have M9 : Hid (MR wr w.heap.size w.heap.size (.slice Am L.length cm) L) := M8.out.fr F9.out (by simp) (by simp)
          have R9 : Hid (ReadsInt wr .i64 AX X.length X) := by obtain ⟨n, hn⟩ := HW.out; rw [hn]; exact HRX.out.drewN n
          by_cases hlt : k < X.length
          · have hki : (k : Int) < X.length := by omega
            obtain ⟨adx, hAX, hcx⟩ := R9.out.2.2 (by omega)
            subst hAX
            have hx1 := hcx k hlt
            obtain ⟨ia, hia, hea⟩ := upN_mem (HO.out.1.mem_iff.1 (List.getElem_mem hlt))
            rw [List.getD_eq_getElem?_getD, List.getElem?_eq_getElem hlt] at hx1
            simp only [Option.getD_some] at hx1
            obtain ⟨a, ha⟩ : ∃ a, Hid (a = X[k]) := ⟨_, Lib.hid rfl⟩
            rw [← ha.out] at hx1 hea
            have hial : (ia : Int) < L.length := by omega
            have d0 : decide (a < 1) = false := decide_eq_false (by omega)
            have d1 : decide ((L.length : Int) < a) = false := decide_eq_false (by omega)
            have h6 : IntKind.i64.wrap (a - 1) = (ia : Int) := by rw [hea, show (ia : Int) + 1 - 1 = ia from by omega]; exact IntWalk.i64_in _ (by omega)
            have HEA := Lib.hid hea
            clear hea
            have hX0 : 0 < X.length := by omega
            cases k with
            | zero =>
              clear hcx
              have hx1' : wr.cell? adx = some (.int .i64 a) := by simpa [Addr.add] using hx1
              go_wp2_with fail
              go_quiet (fail)
              go_wp2_with fail
              go_roundw
              case rel =>
                obtain ⟨n, hn⟩ := HW.out
                exact ⟨1, by go_num, by omega, by rw [hn, World.drewN_drewN]; exact ⟨_, rfl⟩⟩
              case measure => simp [intOf]; omega
            | succ k' =>
              have hlt' : k' < X.length := by omega
              have hx0 := hcx k' hlt'
              obtain ⟨ib, hib, heb⟩ := upN_mem (HO.out.1.mem_iff.1 (List.getElem_mem hlt'))
              rw [List.getD_eq_getElem?_getD, List.getElem?_eq_getElem hlt'] at hx0
              simp only [Option.getD_some] at hx0
              obtain ⟨b, hb⟩ : ∃ b, Hid (b = X[k']) := ⟨_, Lib.hid rfl⟩
              rw [← hb.out] at hx0 heb
              clear hcx
              have hlt2 := List.pairwise_iff_getElem.1 HO.out.2 k' (k' + 1) hlt' hlt (by omega)
              rw [← ha.out, ← hb.out, HEA.out, heb] at hlt2
              unfold cfN at hlt2
              rw [rowN_at L ib hib, rowN_at L ia hia] at hlt2
              have hibl : (ib : Int) < L.length := by omega
              have h7 : IntKind.i64.wrap (b - 1) = (ib : Int) := by rw [heb, show (ib : Int) + 1 - 1 = ib from by omega]; exact IntWalk.i64_in _ (by omega)
              clear heb
              obtain ⟨adm, hAm, Aa, ca, hca, hka, hRa⟩ := M9.out.cell ia hia
              subst hAm
              obtain ⟨adm2, hAm2, Ab, cb, hcb, hkb, hRb⟩ := M9.out.cell ib hib
              injection hAm2 with hAm2; subst hAm2
              have hla := HRL.out L[ia] (List.getElem_mem hia)
              have hlb := HRL.out L[ib] (List.getElem_mem hib)
              obtain ⟨xs, hxs⟩ : ∃ xs, Hid (xs = L[ib]) := ⟨_, Lib.hid rfl⟩
              obtain ⟨ys, hys⟩ : ∃ ys, Hid (ys = L[ia]) := ⟨_, Lib.hid rfl⟩
              rw [← hxs.out] at hcb hkb hRb hlb hlt2
              rw [← hys.out] at hca hka hRa hla hlt2
              have HA := Lib.hid hRa; have HB' := Lib.hid hRb; have HKa := Lib.hid hka; have HKb := Lib.hid hkb
              clear hRa hRb hka hkb
              have d2 : decide (0 < (k' : Int) + 1) = true := decide_eq_true (by omega)
              have d3 : decide (0 ≤ cmpL xs ys) = false := decide_eq_false (by omega)
              have h8 : IntKind.i64.wrap ((k' : Int) + 1 - 1) = (k' : Int) := by rw [show (k' : Int) + 1 - 1 = k' from by omega]; exact IntWalk.i64_in _ (by omega)
              have hk1 : (k' : Int) < X.length := by omega
              have hk2 : (k' : Int) + 1 < X.length := by omega
              have hl1 : xs.length ≤ 1000000 := by omega
              have hx1' : wr.cell? ⟨adx.block, adx.off + (k' + 1), none⟩ = some (.int .i64 a) := by rw [← hx1]; congr 1
              have hk3 : 0 ≤ (k' : Int) + 1 := by omega
              have hk4 : ((k' : Int) + 1).toNat = k' + 1 := by omega
              go_wp2_with fail
              go_quiet ((go_at_call 14; exact Calls.quiet_of (Cmp_r _ Ab cb xs Aa ca ys (HB'.out.drewN _) HKb.out (HA.out.drewN _) HKa.out hl1)))
              clear hk3 hk4
              go_wp2_with fail
              go_roundw
              case rel =>
                obtain ⟨n, hn⟩ := HW.out
                exact ⟨k' + 1 + 1, by go_num, by omega, by rw [hn, World.drewN_drewN]; exact ⟨_, rfl⟩⟩
              case measure => simp [intOf]; omega
          · obtain rfl : k = X.length := by omega
            go_wp2_with fail
            go_ret
            exact ⟨rfl, (FW8.out.trans F9.out).below⟩
end Go.Proofs.YtkmfgacfccgdcaaDoor.seriesPlays
