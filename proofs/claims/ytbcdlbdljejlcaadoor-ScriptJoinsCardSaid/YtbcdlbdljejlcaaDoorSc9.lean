/- script: Print, as a Call. -/
import Derived.Test.YtbcdlbdljejlcaaDoorSc8
set_option linter.unusedVariables false
set_option linter.unusedSimpArgs false
namespace Go.Proofs.YtbcdlbdljejlcaaDoor.Sc
open Go.RowKit Go.Proofs.YtbcdlbdljejlcaaDoor.B0 Go.Proofs.YtbcdlbdljejlcaaDoor.Ps Go.Proofs.YtbcdlbdljejlcaaDoorW.PrintWords Go.Proofs.YtbcdlbdljejlcaaDoor.Bld

theorem num_of_C {w : World} {A : Option Addr} {l : List Int} (h : Kd.C (Kd.int .u8) w A l.length l) : ReadsInt w .u8 A l.length l := Kd.reads_of_C (enc := Value.int .u8) (d := 0) (h1 := fun _ => rfl) h
theorem mk_at {w : World} {v0 v1 v2 v3 : Value} : RV (w.alloc (.cells #[v0, v1, v2, v3] 32)) w.heap.size v0 v1 v2 v3 := Array.getElem?_push_size ..
theorem printL_take (xs : List Stp) (k : Nat) (h : k < xs.length) : printL (xs.take (k + 1)) = printL (xs.take k) ++ lineL xs[k] ++ [10] := by
  rw [List.take_succ_eq_append_getElem h, printL_append]
  simp [printL]
theorem printL_take_le (xs : List Stp) (k : Nat) : (printL (xs.take k)).length ≤ (printL xs).length := by
  conv => rhs; rw [← List.take_append_drop k xs, printL_append, List.length_append]
  omega

set_option maxHeartbeats 4000000 in
set_option maxRecDepth 100000 in
theorem Print_c (w : World) (h : LP w) (A : Option Addr) (c : Nat) (xs : List Stp) (hC : Kd.C k32 w A xs.length xs) (hok : ∀ x ∈ xs, okS x ∧ isB x.f3) (hl : (printL xs).length ≤ 4194304) :
    Calls Tryd.prog 8 #[.slice A xs.length c] w fun e w' => e = .returned (.tuple #[strV (printL xs), .int .i64 0]) ∧ Below w.heap.size w w' := by
  have HL := Lib.hid h; clear h
  have HC := Lib.hid hC; clear hC
  have HK := Lib.hid hok; clear hok
  have hxl : xs.length ≤ 4194304 := Nat.le_trans (printL_len xs) hl
  have HLe := Lib.hid hl; clear hl
  go_enter Tryd.func8, Tryd.ntmps8
  go_wp2_with fail
  go_loopw [10] (fun iv wr => ∃ k : Nat, iv = .int .i64 k ∧ k ≤ xs.length ∧ Hid (IsB wr w.heap.size w.heap.size (printL (xs.take k)) ∧ Below w.heap.size w wr)) (fun iv _ => xs.length - (intOf iv).toNat)
  case atStart => exact ⟨0, rfl, Nat.zero_le _, IsB.new w, (Below.refl _ _).alloc (Nat.le_refl _) _⟩
  case round =>
    obtain ⟨k, rfl, hk, HW⟩ := hrel
    by_cases hlt : k < xs.length
    · have hki : (k : Int) < xs.length := by omega
      obtain ⟨ad, A3, c3, rfl, d0, d1, d2, d3, hl3, hi3⟩ := at_T32 (Kd.C_below HC.out HW.out.2) k (by omega) hki
      rw [show ((k : Int)).toNat = k from by omega] at d0 d1 d2 d3
      obtain ⟨y, hy⟩ : ∃ y, Hid (rd_T32 xs k = y ∧ xs[k] = y) := ⟨_, rfl, by unfold rd_T32; rw [show ((k : Int)).toNat = k from by omega, List.getD_eq_getElem?_getD, List.getElem?_eq_getElem hlt]; rfl⟩
      rw [hy.out.1] at d0 d1 d2 d3 hl3 hi3
      have HY : Hid (okS y ∧ isB y.f3) := by rw [← hy.out.2]; exact HK.out _ (List.getElem_mem _)
      have HI3 := Lib.hid hi3; have HL3 := Lib.hid hl3
      clear hi3 hl3
      have hlk : Hid ((printL (xs.take k)).length + (lineL y).length + 1 ≤ 4194304) := by
        have h1 := printL_take xs k hlt
        have h2 := printL_take_le xs (k + 1)
        rw [h1, hy.out.2, List.length_append, List.length_append, List.length_singleton] at h2
        exact Lib.hid (by have := HLe.out; omega)
      have hyk : Hid (xs.take (k + 1) = xs.take k ++ [y]) := by show _ = _; rw [List.take_succ_eq_append_getElem hlt, hy.out.2]
      obtain ⟨w1, hw1⟩ : ∃ w1, Hid (wr.alloc (.cells #[.int .i64 y.f0, .int .i64 y.f1, .int .i64 y.f2, .slice A3 y.f3.length c3] 32) = w1) := ⟨_, Lib.hid rfl⟩
      have hb1 : Below wr.heap.size wr w1 := by rw [← hw1.out]; exact (Below.refl _ _).alloc (Nat.le_refl _) _
      have H1 : Hid (IsB w1 w.heap.size w.heap.size (printL (xs.take k)) ∧ Below w.heap.size w w1 ∧ RV w1 wr.heap.size (.int .i64 y.f0) (.int .i64 y.f1) (.int .i64 y.f2) (.slice A3 y.f3.length c3) ∧ Kd.C (Kd.int .u8) w1 A3 y.f3.length y.f3 ∧ w.heap.size ≤ wr.heap.size) :=
        ⟨isB_below HW.out.1 hb1, HW.out.2.trans (hb1.mono HW.out.2.size), by rw [← hw1.out]; exact mk_at, Kd.C_below HI3.out hb1, HW.out.2.size⟩
      obtain ⟨r, _, hr0, hck⟩ := Check_c y A3 c3 w1 H1.out.2.2.2.1 HL3.out
      obtain rfl : r = 0 := hr0.2 HY.out.1
      have HCk := Lib.hid hck
      clear hck hr0 hb1
      go_wp2_with fail
      rw [hw1.out]
      refine HCk.out.mono ?_
      rintro e w2 ⟨rfl, hb2⟩
      have H2 : Hid (IsB w2 w.heap.size w.heap.size (printL (xs.take k)) ∧ Below w.heap.size w w2 ∧ RV w2 wr.heap.size (.int .i64 y.f0) (.int .i64 y.f1) (.int .i64 y.f2) (.slice A3 y.f3.length c3) ∧ Kd.C (Kd.int .u8) w2 A3 y.f3.length y.f3) :=
        ⟨isB_below H1.out.1 hb2, H1.out.2.1.trans (hb2.mono H1.out.2.1.size), H1.out.2.2.1.below hb2, Kd.C_below H1.out.2.2.2.1 hb2⟩
      clear hb2 HW d0 d1 d2 d3 HCk hw1
      obtain ⟨e0, e1, e2, e3⟩ := H2.out.2.2.1.cells
      go_wp2_with fail
      refine (line_c y HY.out.1 HY.out.2 A3 c3 w2 (HL.out.below H2.out.2.1) (num_of_C H2.out.2.2.2)).mono ?_
      rintro e w3 ⟨rfl, hb3⟩
      have H3 : Hid (IsB w3 w.heap.size w.heap.size (printL (xs.take k)) ∧ Below w.heap.size w w3) := ⟨isB_below H2.out.1 hb3, H2.out.2.1.trans (hb3.mono H2.out.2.1.size)⟩
      clear hb3 H2 e0 e1 e2 e3
      obtain ⟨sl, hsl⟩ : ∃ sl : ByteArray, Hid (strV (lineL y) = .string sl ∧ sl.data.toList = lineL y ∧ sl.size = (lineL y).length) := ⟨⟨(lineL y).toArray⟩, rfl, rfl, rfl⟩
      rw [hsl.out.1]
      go_wp2_with fail
      refine (WString_c H3.out.1 sl (by have := hlk.out; omega) (by have := hlk.out; have := hsl.out.2.2; omega) H3.out.2.size).mono ?_
      rintro e w4 ⟨rfl, hi4, hb4⟩
      rw [hsl.out.2.1] at hi4
      have H4 : Hid (IsB w4 w.heap.size w.heap.size (printL (xs.take k) ++ lineL y) ∧ Below w.heap.size w w4) := ⟨hi4, H3.out.2.trans hb4⟩
      clear hi4 hb4 H3
      go_wp2_with fail
      refine (WByte_c H4.out.1 10 (by have := hlk.out; rw [List.length_append]; omega) H4.out.2.size).mono ?_
      rintro e w5 ⟨rfl, hi5, hb5⟩
      have H5 : Hid (IsB w5 w.heap.size w.heap.size (printL (xs.take (k + 1))) ∧ Below w.heap.size w w5) := by
        refine ⟨?_, H4.out.2.trans hb5⟩
        rw [hyk.out, printL_append]
        simpa [printL] using hi5
      clear hi5 hb5 H4
      go_wp2_with fail
      go_roundw
      case rel => exact ⟨k + 1, by go_num, by omega, H5⟩
      case measure => simp [intOf]; omega
    · obtain rfl : k = xs.length := by omega
      rw [List.take_length] at HW
      go_wp2_with fail
      refine (Tryd.Builder_Len w.heap.size w.heap.size _ _ HW.out.1).mono ?_
      rintro e w1 ⟨rfl, rfl⟩
      rw [Lib.byteCells_length]
      have hln : decide ((4194304 : Int) < ((printL xs).length : Int)) = false := decide_eq_false (by have := HLe.out; omega)
      have hln2 : decide (4194304 < (printL xs).length) = false := decide_eq_false (by have := HLe.out; omega)
      go_wp2_with fail
      refine (BStr_c HW.out.1 HW.out.2.size).mono ?_
      rintro e w1 ⟨rfl, hb1⟩
      have H1 : Hid (Below w.heap.size w w1) := HW.out.2.trans hb1
      clear hb1 HW
      go_wp2_with fail
      go_ret2
      exact ⟨rfl, H1.out⟩
end Go.Proofs.YtbcdlbdljejlcaaDoor.Sc
