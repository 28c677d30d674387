/- ScriptParses: the law's walk. -/
import Derived.Test.YtbcdlbdljejlcaaDoorSc11
set_option linter.unusedVariables false
set_option linter.unusedSimpArgs false
namespace Go.Proofs.YtbcdlbdljejlcaaDoor.scriptParses
open Go.RowKit Go.Proofs.YtbcdlbdljejlcaaDoor.B0 Go.Proofs.YtbcdlbdljejlcaaDoor.Ps Go.Proofs.YtbcdlbdljejlcaaDoorW.PrintWords Go.Proofs.YtbcdlbdljejlcaaDoor.Bld Go.Proofs.YtbcdlbdljejlcaaDoor.Sc

set_option maxHeartbeats 8000000 in
set_option maxRecDepth 100000 in
theorem scriptParses_walk (w : World) (hP : LP w) (s : ByteArray) (hs : s.size ≤ maxLen) :
    Calls Tryd.prog 3 #[.string s] w fun e w' => e = .returned (.bool true) ∧ Below w.heap.size w w' := by
  have HL := Lib.hid hP; clear hP
  have hal := Lib.hid (alive29 w HL.out)
  go_enter Tryd.func3, Tryd.ntmps3
  go_wp2_with fail
  refine hal.out.mono ?_
  rintro e w1 ⟨rfl, hb1⟩
  have HB1 := Lib.hid hb1; clear hb1 hal
  by_cases h3 : s.size > 3000
  · have hq : decide ((3000 : Int) < (s.size : Int)) = true := decide_eq_true (by omega)
    have hq2 : decide (3000 < s.size) = true := decide_eq_true (by omega)
    go_wp2_with fail
    go_ret
    exact ⟨rfl, HB1.out⟩
  have hq : decide ((3000 : Int) < (s.size : Int)) = false := decide_eq_false (by omega)
  have hq2 : decide (3000 < s.size) = false := decide_eq_false (by omega)
  have HL1 : Hid (LP w1) := HL.out.below HB1.out
  rcases hp : parseL s.data.toList with _ | xs
  · have HP := Lib.hid (Parse_none s hp (by omega) w1 HL1.out); clear hp
    go_wp2_with fail
    refine HP.out.mono ?_
    rintro e w2 ⟨rfl, hb2⟩
    have HB2 : Hid (Below w.heap.size w w2) := HB1.out.trans (hb2.mono HB1.out.size)
    clear hb2
    go_wp2_with fail
    go_ret
    exact ⟨rfl, HB2.out⟩
  · have HPP := Lib.hid (parseL_print _ _ hp)
    have HP := Lib.hid (Parse_some s xs hp (by omega) w1 HL1.out); clear hp
    have hxl : xs.length ≤ 3000 := by
      have h1 := printL_len xs; rw [HPP.out.1] at h1
      have h2 : s.data.toList.length = s.size := rfl
      omega
    go_wp2_with fail
    refine HP.out.mono ?_
    rintro e w2 ⟨A, c, rfl, hc, _, hC, hb2⟩
    have HB2 : Hid (Below w.heap.size w w2) := HB1.out.trans (hb2.mono HB1.out.size)
    have HC2 := Lib.hid hC; have HCc := Lib.hid hc
    have HL2 : Hid (LP w2) := HL.out.below HB2.out
    clear hb2 hC hc HP
    go_wp2_with fail
    refine (Print_c w2 HL2.out A c xs HC2.out HPP.out.2 (by rw [HPP.out.1]; show s.size ≤ _; omega)).mono ?_
    rintro e w3 ⟨rfl, hb3⟩
    have HB3 : Hid (Below w.heap.size w w3) := HB2.out.trans (hb3.mono HB2.out.size)
    have HC3 := Lib.hid (Kd.C_below HC2.out hb3)
    clear hb3
    have hst : strV (printL xs) = .string s := by rw [HPP.out.1]; rfl
    rw [hst]
    go_wp2_with fail
    go_loopw [7] (fun iv wr => ∃ k : Nat, iv = .int .i64 k ∧ k ≤ xs.length ∧ Hid (Below w.heap.size w wr ∧ Kd.C k32 wr A xs.length xs)) (fun iv _ => xs.length - (intOf iv).toNat)
    case atStart => exact ⟨0, rfl, Nat.zero_le _, HB3.out, HC3.out⟩
    case round =>
      obtain ⟨k, rfl, hk, HW⟩ := hrel
      by_cases hlt : k < xs.length
      · have hki : (k : Int) < xs.length := by omega
        obtain ⟨ad, A3, c3, rfl, d0, d1, d2, d3, hl3, hi3⟩ := at_T32 HW.out.2 k (by omega) hki
        rw [show ((k : Int)).toNat = k from by omega] at d0 d1 d2 d3
        obtain ⟨y, hy⟩ : ∃ y, Hid (rd_T32 xs k = y ∧ xs[k] = y) := ⟨_, rfl, by unfold rd_T32; rw [show ((k : Int)).toNat = k from by omega, List.getD_eq_getElem?_getD, List.getElem?_eq_getElem hlt]; rfl⟩
        rw [hy.out.1] at d0 d1 d2 d3 hl3 hi3
        have HY : Hid (okS y) := by rw [← hy.out.2]; exact (HPP.out.2 _ (List.getElem_mem _)).1
        obtain ⟨r, _, hr0, hck⟩ := Check_c y A3 c3 wr hi3 hl3
        obtain rfl : r = 0 := hr0.2 HY.out
        have HCk := Lib.hid hck
        clear hck hr0 hi3 hl3
        go_wp2_with fail
        refine HCk.out.mono ?_
        rintro e w4 ⟨rfl, hb4⟩
        have H4 : Hid (Below w.heap.size w w4 ∧ Kd.C k32 w4 (some ad) xs.length xs) := ⟨HW.out.1.trans (hb4.mono HW.out.1.size), Kd.C_below HW.out.2 hb4⟩
        clear hb4 d0 d1 d2 d3 HW HCk
        go_wp2_with fail
        go_roundw
        case rel => exact ⟨k + 1, by go_num, by omega, H4⟩
        case measure => simp [intOf]; omega
      · obtain rfl : k = xs.length := by omega
        go_wp2_with fail
        go_ret
        exact ⟨rfl, HW.out.1⟩
end Go.Proofs.YtbcdlbdljejlcaaDoor.scriptParses
