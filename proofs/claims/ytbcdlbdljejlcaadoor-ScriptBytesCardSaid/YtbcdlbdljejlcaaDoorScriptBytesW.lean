/- ScriptBytes: the law's walk. -/
import Derived.Test.YtbcdlbdljejlcaaDoorSc12
import Derived.Test.YtbcdlbdljejlcaaDoorOp
set_option linter.unusedVariables false
set_option linter.unusedSimpArgs false
namespace Go.Proofs.YtbcdlbdljejlcaaDoor.scriptBytes
open Go.RowKit Go.Proofs.YtbcdlbdljejlcaaDoor.B0 Go.Proofs.YtbcdlbdljejlcaaDoor.Ps Go.Proofs.YtbcdlbdljejlcaaDoorW.PrintWords Go.Proofs.YtbcdlbdljejlcaaDoorW.PrintLast Go.Proofs.YtbcdlbdljejlcaaDoor.Bld Go.Proofs.YtbcdlbdljejlcaaDoor.Sc

theorem lit2_C (w : World) (T : TypeId) (n : Int) (A : Option Addr) (c : Nat) (B : List Int) (hc : B.length ≤ c) (hB : Kd.C (Kd.int .u8) w A B.length B) :
    Kd.C k32 (w.alloc (.cells #[.int .i64 0, .int .i64 n, .int .i64 0, .slice A B.length c, .int .i64 1, .int .i64 0, .int .i64 0, .slice none 0 0] T)) (some ⟨w.heap.size, 0, none⟩) 2 [⟨0, n, 0, B⟩, ⟨1, 0, 0, []⟩] := by
  have hb : Below w.heap.size w (w.alloc (.cells #[.int .i64 0, .int .i64 n, .int .i64 0, .slice A B.length c, .int .i64 1, .int .i64 0, .int .i64 0, .slice none 0 0] T)) := (Below.refl _ _).alloc (Nat.le_refl _) _
  have hB' := Kd.C_below hB hb
  have hcell : ∀ o, (w.alloc (.cells #[.int .i64 0, .int .i64 n, .int .i64 0, .slice A B.length c, .int .i64 1, .int .i64 0, .int .i64 0, .slice none 0 0] T)).cell? ⟨w.heap.size, o, none⟩ = (#[.int .i64 0, .int .i64 n, .int .i64 0, .slice A B.length c, .int .i64 1, .int .i64 0, .int .i64 0, .slice none 0 0] : Array Value)[o]? := fun o => cellB (allocN w _) o
  generalize (w.alloc (.cells #[.int .i64 0, .int .i64 n, .int .i64 0, .slice A B.length c, .int .i64 1, .int .i64 0, .int .i64 0, .slice none 0 0] T)) = w1 at hB' hcell ⊢
  have hadd : ∀ j, (⟨w.heap.size, 0, none⟩ : Addr).add j = ⟨w.heap.size, j, none⟩ := fun j => by simp [Addr.add]; omega
  refine ⟨rfl, by simp, fun _ => ⟨_, rfl, fun i x hi => ?_⟩⟩
  match i, hi with
  | 0, hi =>
    obtain rfl : _ = x := by simpa using hi
    refine ⟨_, rfl, k32_mk w1 ⟨0, n, 0, B⟩ hc hB', fun j u hj => ?_⟩
    rw [hadd, hcell, ← hj]
    match j with
    | 0 => rfl
    | 1 => rfl
    | 2 => rfl
    | 3 => rfl
    | j + 4 => exact absurd hj (by simp)
  | 1, hi =>
    obtain rfl : _ = x := by simpa using hi
    refine ⟨_, rfl, k32_mk w1 (A3 := none) (c3 := 0) ⟨1, 0, 0, []⟩ (Nat.le_refl _) ⟨rfl, by simp, fun h => absurd h (by simp)⟩, fun j u hj => ?_⟩
    rw [hadd, hcell, ← hj]
    match j with
    | 0 => rfl
    | 1 => rfl
    | 2 => rfl
    | 3 => rfl
    | j + 4 => exact absurd hj (by simp)
  | i + 2, hi => exact absurd hi (by simp)

theorem print2_len (n : Int) (h0 : 0 ≤ n) (h1 : n < 16) (B : List Int) (hB : isB B) (hl : B.length ≤ 2000) : (printL [⟨0, n, 0, B⟩, ⟨1, 0, 0, []⟩]).length ≤ 5000 := by
  have h2 := Lib.itoa_length_le n (by omega) (by omega)
  have h3 : (hexL B).length ≤ 4001 := by
    unfold hexL
    split
    · decide
    · have := (unL_hexR B hB).2.2; omega
  have e : printL [⟨0, n, 0, B⟩, ⟨1, 0, 0, []⟩] = sDeliver ++ 32 :: (Lib.itoa n ++ 32 :: hexL B) ++ [10] ++ (sTick ++ [10]) := by simp [printL, lineL]
  rw [e]
  simp only [List.length_append, List.length_cons, List.length_nil, sDeliver, sTick]
  omega

def T5_8 : Bool × List (List Nat × List Nat) := (true, [([], []), ([0], [0]), ([1], [1]), ([2], [2]), ([3, 2], [2, 3]), ([2, 4], [2, 4]), ([5, 2], [5]), ([6], [6]), ([7, 6], [6, 7]), ([8, 6], [6, 8]), ([6, 9], [6, 9]), ([10, 6], [10]), ([11], [11]), ([12, 11], [11, 12]), ([13, 11], [11, 13]), ([14, 11], [11, 14]), ([11], [11]), ([16, 11], [11, 16]), ([15, 17, 11], [11, 15, 17]), ([11, 18], [11, 18]), ([19, 11], [19]), ([20], [20]), ([21, 20], [20, 21]), ([22, 20], [20, 22]), ([23, 20], [20, 23]), ([20], [20]), ([24, 25, 20, 20], [20, 24, 25]), ([26, 20], [20, 26]), ([20, 27], [20, 27]), ([28, 26], [28]), ([29], [29]), ([30, 29], [29, 30]), ([31, 29], [29, 31]), ([32, 29], [29, 32]), ([33, 29], [29, 33]), ([29, 34], [29, 34])])
def B5_8 : List Nat := [0, 1, 3, 7, 15, 31, 63, 127, 255, 511, 1023, 2047, 4095, 8191, 16383, 32767, 4095, 69631, 262143, 524287, 1048575, 2097151, 4194303, 8388607, 16777215, 2097151, 67108863, 134217727, 268435455, 536870911, 1073741823, 2147483647, 4294967295, 8589934591, 17179869183, 34359738367]
theorem tab5_8 : rtab .any (opsOf Tryd.f5 8) = T5_8 := by kernel_rfl
theorem bits5_8 : waitsOk T5_8.2 B5_8 = true := by kernel_rfl
set_option maxHeartbeats 8000000 in
set_option maxRecDepth 100000 in
theorem scriptBytes_walk (w : World) (hP : LP w) (A : Option Addr) (cp : Nat) (b : List Int) (hC : Kd.C (Kd.int .u8) w A b.length b) (hc : b.length ≤ cp) (hbl : b.length ≤ maxLen) (hbw : ∀ x ∈ b, (Lit.int .u8 x).wf = true)
    (src : Int) (hsw : (Lit.int .u8 src).wf = true) (odd : ByteArray) (ho : odd.size ≤ maxLen) :
    Calls Tryd.prog 5 #[.slice A b.length cp, .int .u8 src, .string odd] w fun e w' => e = .returned (.bool true) ∧ Below w.heap.size w w' := by
  have HL := Lib.hid hP; clear hP
  have hal := Lib.hid (alive29 w HL.out)
  have HB : Hid (isB b) := fun x hx => by have := wf_u8 (hbw x hx); omega
  clear hbw
  have hsrc := wf_u8 hsw
  clear hsw
  have HC := Lib.hid hC; have HCc := Lib.hid hc; clear hC hc
  go_enter Tryd.func5, Tryd.ntmps5
  go_wp2_with fail
  refine hal.out.mono ?_
  rintro e w1 ⟨rfl, hb1⟩
  have HB1 := Lib.hid hb1; clear hb1 hal
  by_cases h3 : b.length > 2000
  · have hq : decide ((2000 : Int) < (b.length : Int)) = true := decide_eq_true (by omega)
    have hq2 : decide (2000 < b.length) = true := decide_eq_true (by omega)
    go_wp2_with fail
    go_ret
    exact ⟨rfl, HB1.out⟩
  have hq : decide ((2000 : Int) < (b.length : Int)) = false := decide_eq_false (by omega)
  have hq2 : decide (2000 < b.length) = false := decide_eq_false (by omega)
  by_cases h4 : odd.size > 200
  · have hr : decide ((200 : Int) < (odd.size : Int)) = true := decide_eq_true (by omega)
    have hr2 : decide (200 < odd.size) = true := decide_eq_true (by omega)
    go_wp2_with fail
    go_ret
    exact ⟨rfl, HB1.out⟩
  have hr : decide ((200 : Int) < (odd.size : Int)) = false := decide_eq_false (by omega)
  have hr2 : decide (200 < odd.size) = false := decide_eq_false (by omega)
  obtain ⟨n, hn⟩ : ∃ n : Int, src % 16 = n := ⟨_, rfl⟩
  have hnn : 0 ≤ n ∧ n < 16 := by omega
  have hsm : Int.tmod src 16 = n := by rw [Int.tmod_eq_emod_of_nonneg (by omega)]; exact hn
  obtain ⟨wa, hwa⟩ : ∃ wa, Hid (w1.alloc (.cells #[.int .i64 0, .int .i64 n, .int .i64 0, .slice A b.length cp] 32) = wa) := ⟨_, Lib.hid rfl⟩
  have hba : Below w1.heap.size w1 wa := by rw [← hwa.out]; exact (Below.refl _ _).alloc (Nat.le_refl _) _
  have hsz : wa.heap.size = w1.heap.size + 1 := by rw [← hwa.out]; exact size_alloc _ _
  have hxa : wa.heap[w1.heap.size]? = some (.cells #[.int .i64 0, .int .i64 n, .int .i64 0, .slice A b.length cp] 32) := by rw [← hwa.out]; exact allocN _ _
  obtain ⟨w2, hw2⟩ : ∃ w2, Hid (wa.alloc (.cells #[.int .i64 0, .int .i64 n, .int .i64 0, .slice A b.length cp, .int .i64 1, .int .i64 0, .int .i64 0, .slice none 0 0] 32) = w2) := ⟨_, Lib.hid rfl⟩
  have hb2 : Below wa.heap.size wa w2 := by rw [← hw2.out]; exact (Below.refl _ _).alloc (Nat.le_refl _) _
  have h2C : Kd.C k32 w2 (some ⟨w1.heap.size + 1, 0, none⟩) 2 [⟨0, n, 0, b⟩, ⟨1, 0, 0, []⟩] := by
    have := lit2_C wa 32 n A cp b HCc.out (Kd.C_below (Kd.C_below HC.out HB1.out) (hba.mono (Nat.le_refl _)))
    rw [hw2.out, hsz] at this; exact this
  have H2 : Hid (Below w.heap.size w w2 ∧ w2.heap[w1.heap.size]? = some (.cells #[.int .i64 0, .int .i64 n, .int .i64 0, .slice A b.length cp] 32) ∧ Kd.C k32 w2 (some ⟨w1.heap.size + 1, 0, none⟩) 2 [⟨0, n, 0, b⟩, ⟨1, 0, 0, []⟩] ∧ w.heap.size ≤ w1.heap.size) :=
    ⟨(HB1.out.trans (hba.mono HB1.out.size)).trans (hb2.mono (by have := HB1.out.size; omega)), (hb2.block _ (by omega)).trans hxa, h2C, HB1.out.size⟩
  clear h2C hb2 hba hsz hxa
  have HOK : Hid (∀ x ∈ ([⟨0, n, 0, b⟩, ⟨1, 0, 0, []⟩] : List Stp), okS x ∧ isB x.f3) := by
    intro x hx
    rcases List.mem_cons.1 hx with rfl | hx
    · exact ⟨.inl ⟨rfl, hnn.1, by show n ≤ 15; omega, rfl, by show b.length ≤ _; omega⟩, HB.out⟩
    · obtain rfl := List.mem_singleton.1 hx
      exact ⟨.inr (.inl ⟨.inl rfl, rfl, rfl, rfl⟩), fun y hy => absurd hy (by simp)⟩
  have HPL : Hid ((printL [⟨0, n, 0, b⟩, ⟨1, 0, 0, []⟩]).length ≤ 5000) := print2_len n hnn.1 hnn.2 b HB.out (by omega)
  obtain ⟨s, hs⟩ : ∃ s : ByteArray, Hid (strV (printL [⟨0, n, 0, b⟩, ⟨1, 0, 0, []⟩]) = .string s ∧ s.data.toList = printL [⟨0, n, 0, b⟩, ⟨1, 0, 0, []⟩] ∧ s.size ≤ 5000) := ⟨⟨(printL [⟨0, n, 0, b⟩, ⟨1, 0, 0, []⟩]).toArray⟩, rfl, rfl, HPL.out⟩
  go_wp2_with fail
  rw [hwa.out, hw2.out]
  refine (Print_c w2 (HL.out.below H2.out.1) (some ⟨w1.heap.size + 1, 0, none⟩) 2 [⟨0, n, 0, b⟩, ⟨1, 0, 0, []⟩] H2.out.2.2.1 HOK.out (by have := HPL.out; omega)).mono ?_
  rintro e w3 ⟨rfl, hb3⟩
  rw [hs.out.1]
  have H3 : Hid (Below w.heap.size w w3 ∧ w3.heap[w1.heap.size]? = some (.cells #[.int .i64 0, .int .i64 n, .int .i64 0, .slice A b.length cp] 32) ∧ w.heap.size ≤ w1.heap.size) :=
    ⟨H2.out.1.trans (hb3.mono H2.out.1.size), (hb3.block _ (Array.getElem?_eq_some_iff.1 H2.out.2.1).1).trans H2.out.2.1, H2.out.2.2.2⟩
  clear hb3 H2 hwa hw2
  have HP := Lib.hid (Parse_some s [⟨0, n, 0, b⟩, ⟨1, 0, 0, []⟩] (by rw [hs.out.2.1]; exact print_parse0 _ HOK.out) (by have := hs.out.2.2; omega) w3 (HL.out.below H3.out.1))
  go_wp2_with fail
  refine HP.out.mono ?_
  rintro e w4 ⟨A4, c4, rfl, hc4, _, hC4, hb4⟩
  have H4 : Hid (Below w.heap.size w w4 ∧ w4.heap[w1.heap.size]? = some (.cells #[.int .i64 0, .int .i64 n, .int .i64 0, .slice A b.length cp] 32) ∧ w.heap.size ≤ w1.heap.size ∧ Kd.C (Kd.int .u8) w4 A b.length b) := by
    have hb := H3.out.1.trans (hb4.mono H3.out.1.size)
    exact ⟨hb, (hb4.block _ (Array.getElem?_eq_some_iff.1 H3.out.2.1).1).trans H3.out.2.1, H3.out.2.2, Kd.C_below HC.out hb⟩
  clear hb4 H3 HP
  obtain ⟨ad, A5, c5, rfl, d0, d1, d2, d3, hl5, hi5⟩ := at_T32 hC4 0 (by decide) (by simp)
  obtain ⟨ad', A6, c6, he6, f0, f1, f2, f3, hl6, hi6⟩ := at_T32 hC4 1 (by decide) (by simp)
  obtain rfl := Option.some.inj he6
  clear he6 hc4 hC4
  have d1' : w4.cell? ⟨ad.block, ad.off + 1, none⟩ = some (.int .i64 n) := by simpa [rd_T32, Addr.add] using d1
  have d3' : w4.cell? ⟨ad.block, ad.off + 3, none⟩ = some (.slice A5 b.length c5) := by simpa [rd_T32, Addr.add] using d3
  have f0' : w4.cell? ⟨ad.block, ad.off + 4, none⟩ = some (.int .i64 1) := by simpa [rd_T32, Addr.add] using f0
  have hx1 : w4.cell? ⟨w1.heap.size, 1, none⟩ = some (.int .i64 n) := by rw [cellB H4.out.2.1]; rfl
  have HI : Hid (Kd.C (Kd.int .u8) w4 A5 b.length b ∧ b.length ≤ c5) := ⟨hi5, hl5⟩
  clear d0 d1 d2 d3 f0 f1 f2 f3 hl5 hi5 hl6 hi6
  have EC : Hid (∀ w', Below w4.heap.size w4 w' → w'.cell? ⟨ad.block, ad.off + 1, none⟩ = some (.int .i64 n) ∧ w'.cell? ⟨ad.block, ad.off + 3, none⟩ = some (.slice A5 b.length c5) ∧ w'.cell? ⟨ad.block, ad.off + 4, none⟩ = some (.int .i64 1) ∧ w'.cell? ⟨w1.heap.size, 1, none⟩ = some (.int .i64 n)) :=
    fun w' h => ⟨pw_cell_below h d1', pw_cell_below h d3', pw_cell_below h f0', pw_cell_below h hx1⟩
  clear d1' d3' f0' hx1
  have hbb : tallyroomref01_Bytes.f b b = some true := by unfold tallyroomref01_Bytes.f; simp
  have n1 : ¬ (9223372036854775807 < 4 + odd.size) := by omega
  have n2 : ¬ (9223372036854775807 < 4 + odd.size + 1) := by omega
  go_upto_region 8 with fail
  refine start_ (n := 36) (S := (fun w' => Below w4.heap.size w4 w')) (ds := []) #[false, false, false, false, false, false, false, false, false, false, false, false, false, false, false, false, false, false, false, false, false, false, false, false, false, false, false, false, false, false, false, false, false, false, false, false] (by kernel_rfl) (by rfl) (by rfl) (Below_drewN (Below.refl _ _) 1) (fun hHeld => ?_); refine with_tabW tab5_8 bits5_8 (fun HT_ HW_ => ?_)
  refine pure_ (i := 0) (N := some 41) (v := ?_) (a' := ?_) #[true, false, false, false, false, false, false, false, false, false, false, false, false, false, false, false, false, false, false, false, false, false, false, false, false, false, false, false, false, false, false, false, false, false, false, false] rfl rfl (any_of HT_.out (by kernel_rfl)) (fun _ _ _ h => h) (Or.inl ⟨by rfl, ?_⟩) ?_ ?_
  rotate_left
  · intro w'
    go_simp
    with_reducible rfl
  rotate_left
  · simp only [Act.put, List.setIfInBounds_toArray, List.set_cons_zero, List.set_cons_succ]
    rfl
  refine pure_ (i := 1) (N := some 42) (v := ?_) (a' := ?_) #[true, true, false, false, false, false, false, false, false, false, false, false, false, false, false, false, false, false, false, false, false, false, false, false, false, false, false, false, false, false, false, false, false, false, false, false] rfl rfl (any_of HT_.out (by kernel_rfl)) (fun _ _ _ h => h) (Or.inl ⟨by rfl, ?_⟩) ?_ ?_
  rotate_left
  · intro w'
    go_simp
    with_reducible rfl
  rotate_left
  · simp only [Act.put, List.setIfInBounds_toArray, List.set_cons_zero, List.set_cons_succ]
    rfl
  refine pure_ (i := 2) (N := some 43) (v := ?_) (a' := ?_) #[true, true, true, false, false, false, false, false, false, false, false, false, false, false, false, false, false, false, false, false, false, false, false, false, false, false, false, false, false, false, false, false, false, false, false, false] rfl rfl (any_of HT_.out (by kernel_rfl)) (fun _ _ _ h => h) (Or.inl ⟨by rfl, ?_⟩) ?_ ?_
  rotate_left
  · intro w'
    go_simp
    with_reducible rfl
  rotate_left
  · simp only [Act.put, List.setIfInBounds_toArray, List.set_cons_zero, List.set_cons_succ]
    rfl
  refine pure_ (i := 3) (N := some 44) (v := ?_) (a' := ?_) #[true, true, true, true, false, false, false, false, false, false, false, false, false, false, false, false, false, false, false, false, false, false, false, false, false, false, false, false, false, false, false, false, false, false, false, false] rfl rfl (any_of HT_.out (by kernel_rfl)) (fun _ _ _ h => h) (Or.inl ⟨by rfl, ?_⟩) ?_ ?_
  rotate_left
  · intro w'
    go_simp
    with_reducible rfl
  rotate_left
  · simp only [Act.put, List.setIfInBounds_toArray, List.set_cons_zero, List.set_cons_succ]
    rfl
  refine pure_ (i := 4) (N := some 45) (v := ?_) (a' := ?_) #[true, true, true, true, true, false, false, false, false, false, false, false, false, false, false, false, false, false, false, false, false, false, false, false, false, false, false, false, false, false, false, false, false, false, false, false] rfl rfl (any_of HT_.out (by kernel_rfl)) (fun _ _ _ h => h) (Or.inl ⟨by rfl, ?_⟩) ?_ ?_
  rotate_left
  · intro w'
    go_simp
    with_reducible rfl
  rotate_left
  · simp only [Act.put, List.setIfInBounds_toArray, List.set_cons_zero, List.set_cons_succ]
    rfl
  refine pure_ (i := 5) (N := some 46) (v := ?_) (a' := ?_) #[true, true, true, true, true, true, false, false, false, false, false, false, false, false, false, false, false, false, false, false, false, false, false, false, false, false, false, false, false, false, false, false, false, false, false, false] rfl rfl (any_of HT_.out (by kernel_rfl)) (fun _ _ _ h => h) (Or.inl ⟨by rfl, ?_⟩) ?_ ?_
  rotate_left
  · intro w'
    go_simp
    with_reducible rfl
  rotate_left
  · simp only [Act.put, List.setIfInBounds_toArray, List.set_cons_zero, List.set_cons_succ]
    rfl
  refine pure_ (i := 6) (N := some 47) (v := ?_) (a' := ?_) #[true, true, true, true, true, true, true, false, false, false, false, false, false, false, false, false, false, false, false, false, false, false, false, false, false, false, false, false, false, false, false, false, false, false, false, false] rfl rfl (any_of HT_.out (by kernel_rfl)) (fun _ _ _ h => h) (Or.inl ⟨by rfl, ?_⟩) ?_ ?_
  rotate_left
  · intro w'
    go_simp
    with_reducible rfl
  rotate_left
  · simp only [Act.put, List.setIfInBounds_toArray, List.set_cons_zero, List.set_cons_succ]
    rfl
  refine pure_ (i := 7) (N := some 48) (v := ?_) (a' := ?_) #[true, true, true, true, true, true, true, true, false, false, false, false, false, false, false, false, false, false, false, false, false, false, false, false, false, false, false, false, false, false, false, false, false, false, false, false] rfl rfl (any_of HT_.out (by kernel_rfl)) (fun _ _ _ h => h) (Or.inl ⟨by rfl, ?_⟩) ?_ ?_
  rotate_left
  · intro w'
    go_simp
    with_reducible rfl
  rotate_left
  · simp only [Act.put, List.setIfInBounds_toArray, List.set_cons_zero, List.set_cons_succ]
    rfl
  refine pure_ (i := 8) (N := some 49) (v := ?_) (a' := ?_) #[true, true, true, true, true, true, true, true, true, false, false, false, false, false, false, false, false, false, false, false, false, false, false, false, false, false, false, false, false, false, false, false, false, false, false, false] rfl rfl (any_of HT_.out (by kernel_rfl)) (fun _ _ _ h => h) (Or.inl ⟨by rfl, ?_⟩) ?_ ?_
  rotate_left
  · intro w'
    go_simp
    with_reducible rfl
  rotate_left
  · simp only [Act.put, List.setIfInBounds_toArray, List.set_cons_zero, List.set_cons_succ]
    rfl
  refine pure_ (i := 9) (N := some 50) (v := ?_) (a' := ?_) #[true, true, true, true, true, true, true, true, true, true, false, false, false, false, false, false, false, false, false, false, false, false, false, false, false, false, false, false, false, false, false, false, false, false, false, false] rfl rfl (any_of HT_.out (by kernel_rfl)) (fun _ _ _ h => h) (Or.inl ⟨by rfl, ?_⟩) ?_ ?_
  rotate_left
  · intro w'
    go_simp
    with_reducible rfl
  rotate_left
  · simp only [Act.put, List.setIfInBounds_toArray, List.set_cons_zero, List.set_cons_succ]
    rfl
  refine pure_ (i := 10) (N := some 51) (v := ?_) (a' := ?_) #[true, true, true, true, true, true, true, true, true, true, true, false, false, false, false, false, false, false, false, false, false, false, false, false, false, false, false, false, false, false, false, false, false, false, false, false] rfl rfl (any_of HT_.out (by kernel_rfl)) (fun _ _ _ h => h) (Or.inl ⟨by rfl, ?_⟩) ?_ ?_
  rotate_left
  · intro w'
    go_simp
    with_reducible rfl
  rotate_left
  · simp only [Act.put, List.setIfInBounds_toArray, List.set_cons_zero, List.set_cons_succ]
    rfl
  refine pure_ (i := 11) (N := some 52) (v := ?_) (a' := ?_) #[true, true, true, true, true, true, true, true, true, true, true, true, false, false, false, false, false, false, false, false, false, false, false, false, false, false, false, false, false, false, false, false, false, false, false, false] rfl rfl (any_of HT_.out (by kernel_rfl)) (fun _ _ _ h => h) (Or.inl ⟨by rfl, ?_⟩) ?_ ?_
  rotate_left
  · intro w'
    go_simp
    with_reducible rfl
  rotate_left
  · simp only [Act.put, List.setIfInBounds_toArray, List.set_cons_zero, List.set_cons_succ]
    rfl
  refine pure_ (i := 12) (N := some 53) (v := ?_) (a' := ?_) #[true, true, true, true, true, true, true, true, true, true, true, true, true, false, false, false, false, false, false, false, false, false, false, false, false, false, false, false, false, false, false, false, false, false, false, false] rfl rfl (any_of HT_.out (by kernel_rfl)) (fun _ _ _ h => h) (Or.inl ⟨by rfl, ?_⟩) ?_ ?_
  rotate_left
  · intro w'
    go_simp
    with_reducible rfl
  rotate_left
  · simp only [Act.put, List.setIfInBounds_toArray, List.set_cons_zero, List.set_cons_succ]
    rfl
  refine pure_ (i := 13) (N := some 54) (v := ?_) (a' := ?_) #[true, true, true, true, true, true, true, true, true, true, true, true, true, true, false, false, false, false, false, false, false, false, false, false, false, false, false, false, false, false, false, false, false, false, false, false] rfl rfl (any_of HT_.out (by kernel_rfl)) (fun _ _ _ h => h) (Or.inl ⟨by rfl, ?_⟩) ?_ ?_
  rotate_left
  · intro w'
    go_simp
    with_reducible rfl
  rotate_left
  · simp only [Act.put, List.setIfInBounds_toArray, List.set_cons_zero, List.set_cons_succ]
    rfl
  refine pure_ (i := 14) (N := some 55) (v := ?_) (a' := ?_) #[true, true, true, true, true, true, true, true, true, true, true, true, true, true, true, false, false, false, false, false, false, false, false, false, false, false, false, false, false, false, false, false, false, false, false, false] rfl rfl (any_of HT_.out (by kernel_rfl)) (fun _ _ _ h => h) (Or.inl ⟨by rfl, ?_⟩) ?_ ?_
  rotate_left
  · intro w'
    go_simp
    with_reducible rfl
  rotate_left
  · simp only [Act.put, List.setIfInBounds_toArray, List.set_cons_zero, List.set_cons_succ]
    rfl
  refine take_ (i := 15) (N := some 56) (v := ?_) (a' := ?_) #[true, true, true, true, true, true, true, true, true, true, true, true, true, true, true, true, false, false, false, false, false, false, false, false, false, false, false, false, false, false, false, false, false, false, false, false] rfl rfl (take_ofW HT_.out HW_.out (by kernel_rfl)) (fun _ _ _ h => h) (Or.inl ⟨by rfl, ?_⟩) hHeld ?_ ?_
  rotate_left
  · rintro w' hS; obtain ⟨s0, s1, s2, s3⟩ := EC.out w' hS
    go_simp
    with_reducible rfl
  rotate_left
  · simp only [Act.put, List.setIfInBounds_toArray, List.set_cons_zero, List.set_cons_succ]
    rfl
  refine pure_ (i := 16) (N := some 57) (v := ?_) (a' := ?_) #[true, true, true, true, true, true, true, true, true, true, true, true, true, true, true, true, true, false, false, false, false, false, false, false, false, false, false, false, false, false, false, false, false, false, false, false] rfl rfl (any_of HT_.out (by kernel_rfl)) (fun _ _ _ h => h) (Or.inl ⟨by rfl, ?_⟩) ?_ ?_
  rotate_left
  · intro w'
    go_simp
    with_reducible rfl
  rotate_left
  · simp only [Act.put, List.setIfInBounds_toArray, List.set_cons_zero, List.set_cons_succ]
    rfl
  refine take_ (i := 17) (N := some 58) (v := ?_) (a' := ?_) #[true, true, true, true, true, true, true, true, true, true, true, true, true, true, true, true, true, true, false, false, false, false, false, false, false, false, false, false, false, false, false, false, false, false, false, false] rfl rfl (take_ofW HT_.out HW_.out (by kernel_rfl)) (fun _ _ _ h => h) (Or.inl ⟨by rfl, ?_⟩) hHeld ?_ ?_
  rotate_left
  · rintro w' hS; obtain ⟨s0, s1, s2, s3⟩ := EC.out w' hS
    go_simp
    with_reducible rfl
  rotate_left
  · simp only [Act.put, List.setIfInBounds_toArray, List.set_cons_zero, List.set_cons_succ]
    rfl
  refine pure_ (i := 18) (N := some 59) (v := ?_) (a' := ?_) #[true, true, true, true, true, true, true, true, true, true, true, true, true, true, true, true, true, true, true, false, false, false, false, false, false, false, false, false, false, false, false, false, false, false, false, false] rfl rfl (any_of HT_.out (by kernel_rfl)) (fun _ _ _ h => h) (Or.inl ⟨by rfl, ?_⟩) ?_ ?_
  rotate_left
  · intro w'
    go_simp
    with_reducible rfl
  rotate_left
  · simp only [Act.put, List.setIfInBounds_toArray, List.set_cons_zero, List.set_cons_succ]
    rfl
  refine pure_ (i := 19) (N := some 60) (v := ?_) (a' := ?_) #[true, true, true, true, true, true, true, true, true, true, true, true, true, true, true, true, true, true, true, true, false, false, false, false, false, false, false, false, false, false, false, false, false, false, false, false] rfl rfl (any_of HT_.out (by kernel_rfl)) (fun _ _ _ h => h) (Or.inl ⟨by rfl, ?_⟩) ?_ ?_
  rotate_left
  · intro w'
    go_simp
    with_reducible rfl
  rotate_left
  · simp only [Act.put, List.setIfInBounds_toArray, List.set_cons_zero, List.set_cons_succ]
    rfl
  refine pure_ (i := 20) (N := some 61) (v := ?_) (a' := ?_) #[true, true, true, true, true, true, true, true, true, true, true, true, true, true, true, true, true, true, true, true, true, false, false, false, false, false, false, false, false, false, false, false, false, false, false, false] rfl rfl (any_of HT_.out (by kernel_rfl)) (fun _ _ _ h => h) (Or.inl ⟨by rfl, ?_⟩) ?_ ?_
  rotate_left
  · intro w'
    go_simp
    with_reducible rfl
  rotate_left
  · simp only [Act.put, List.setIfInBounds_toArray, List.set_cons_zero, List.set_cons_succ]
    rfl
  refine pure_ (i := 21) (N := some 62) (v := ?_) (a' := ?_) #[true, true, true, true, true, true, true, true, true, true, true, true, true, true, true, true, true, true, true, true, true, true, false, false, false, false, false, false, false, false, false, false, false, false, false, false] rfl rfl (any_of HT_.out (by kernel_rfl)) (fun _ _ _ h => h) (Or.inl ⟨by rfl, ?_⟩) ?_ ?_
  rotate_left
  · intro w'
    go_simp
    with_reducible rfl
  rotate_left
  · simp only [Act.put, List.setIfInBounds_toArray, List.set_cons_zero, List.set_cons_succ]
    rfl
  refine pure_ (i := 22) (N := some 63) (v := ?_) (a' := ?_) #[true, true, true, true, true, true, true, true, true, true, true, true, true, true, true, true, true, true, true, true, true, true, true, false, false, false, false, false, false, false, false, false, false, false, false, false] rfl rfl (any_of HT_.out (by kernel_rfl)) (fun _ _ _ h => h) (Or.inl ⟨by rfl, ?_⟩) ?_ ?_
  rotate_left
  · intro w'
    go_simp
    with_reducible rfl
  rotate_left
  · simp only [Act.put, List.setIfInBounds_toArray, List.set_cons_zero, List.set_cons_succ]
    rfl
  refine pure_ (i := 23) (N := some 64) (v := ?_) (a' := ?_) #[true, true, true, true, true, true, true, true, true, true, true, true, true, true, true, true, true, true, true, true, true, true, true, true, false, false, false, false, false, false, false, false, false, false, false, false] rfl rfl (any_of HT_.out (by kernel_rfl)) (fun _ _ _ h => h) (Or.inl ⟨by rfl, ?_⟩) ?_ ?_
  rotate_left
  · intro w'
    go_simp
    with_reducible rfl
  rotate_left
  · simp only [Act.put, List.setIfInBounds_toArray, List.set_cons_zero, List.set_cons_succ]
    rfl
  refine take_ (i := 24) (N := some 65) (v := ?_) (a' := ?_) #[true, true, true, true, true, true, true, true, true, true, true, true, true, true, true, true, true, true, true, true, true, true, true, true, true, false, false, false, false, false, false, false, false, false, false, false] rfl rfl (take_ofW HT_.out HW_.out (by kernel_rfl)) (fun _ _ _ h => h) (Or.inl ⟨by rfl, ?_⟩) hHeld ?_ ?_
  rotate_left
  · rintro w' hS; obtain ⟨s0, s1, s2, s3⟩ := EC.out w' hS
    go_simp
    with_reducible rfl
  rotate_left
  · simp only [Act.put, List.setIfInBounds_toArray, List.set_cons_zero, List.set_cons_succ]
    rfl
  refine pure_ (i := 25) (N := some 66) (v := ?_) (a' := ?_) #[true, true, true, true, true, true, true, true, true, true, true, true, true, true, true, true, true, true, true, true, true, true, true, true, true, true, false, false, false, false, false, false, false, false, false, false] rfl rfl (any_of HT_.out (by kernel_rfl)) (fun _ _ _ h => h) (Or.inl ⟨by rfl, ?_⟩) ?_ ?_
  rotate_left
  · intro w'
    go_simp
    with_reducible rfl
  rotate_left
  · simp only [Act.put, List.setIfInBounds_toArray, List.set_cons_zero, List.set_cons_succ]
    rfl
  refine one_ (i := 26) (N := some 67) #[true, true, true, true, true, true, true, true, true, true, true, true, true, true, true, true, true, true, true, true, true, true, true, true, true, true, true, false, false, false, false, false, false, false, false, false] rfl rfl (one_of HT_.out (by kernel_rfl)) (by decide) (fun K hK => ?_)
  rw [if_pos (by rfl)]
  go_simp
  go_at_call 14; refine (tallyroomref01_Bytes.calls A5 c5 b A cp b true _ (Kd.C_below HI.out.1 hHeld) HI.out.2 (Kd.C_below H4.out.2.2.2 hHeld) HCc.out hbb).mono ?_; rintro e w5 ⟨rfl, hd⟩; have HW5 := Lib.hid (hHeld.trans (hd.below.mono hHeld.size))
  refine hK.out _ _ (hHeld.trans (hd.below.mono hHeld.size)) (fun hHeld => ?_)
  clear hK K
  refine pure_ (i := 27) (N := some 68) (v := ?_) (a' := ?_) #[true, true, true, true, true, true, true, true, true, true, true, true, true, true, true, true, true, true, true, true, true, true, true, true, true, true, true, true, false, false, false, false, false, false, false, false] rfl rfl (any_of HT_.out (by kernel_rfl)) (fun _ _ _ h => h) (Or.inl ⟨by rfl, ?_⟩) ?_ ?_
  rotate_left
  · intro w'
    go_simp
    with_reducible rfl
  rotate_left
  · simp only [Act.put, List.setIfInBounds_toArray, List.set_cons_zero, List.set_cons_succ]
    rfl
  refine pure_ (i := 28) (N := some 69) (v := ?_) (a' := ?_) #[true, true, true, true, true, true, true, true, true, true, true, true, true, true, true, true, true, true, true, true, true, true, true, true, true, true, true, true, true, false, false, false, false, false, false, false] rfl rfl (any_of HT_.out (by kernel_rfl)) (fun _ _ _ h => h) (Or.inl ⟨by rfl, ?_⟩) ?_ ?_
  rotate_left
  · intro w'
    go_simp
    with_reducible rfl
  rotate_left
  · simp only [Act.put, List.setIfInBounds_toArray, List.set_cons_zero, List.set_cons_succ]
    rfl
  refine pure_ (i := 29) (N := some 70) (v := ?_) (a' := ?_) #[true, true, true, true, true, true, true, true, true, true, true, true, true, true, true, true, true, true, true, true, true, true, true, true, true, true, true, true, true, true, false, false, false, false, false, false] rfl rfl (any_of HT_.out (by kernel_rfl)) (fun _ _ _ h => h) (Or.inl ⟨by rfl, ?_⟩) ?_ ?_
  rotate_left
  · intro w'
    go_simp
    with_reducible rfl
  rotate_left
  · simp only [Act.put, List.setIfInBounds_toArray, List.set_cons_zero, List.set_cons_succ]
    rfl
  refine pure_ (i := 30) (N := some 71) (v := ?_) (a' := ?_) #[true, true, true, true, true, true, true, true, true, true, true, true, true, true, true, true, true, true, true, true, true, true, true, true, true, true, true, true, true, true, true, false, false, false, false, false] rfl rfl (any_of HT_.out (by kernel_rfl)) (fun _ _ _ h => h) (Or.inl ⟨by rfl, ?_⟩) ?_ ?_
  rotate_left
  · intro w'
    go_simp
    with_reducible rfl
  rotate_left
  · simp only [Act.put, List.setIfInBounds_toArray, List.set_cons_zero, List.set_cons_succ]
    rfl
  refine pure_ (i := 31) (N := some 72) (v := ?_) (a' := ?_) #[true, true, true, true, true, true, true, true, true, true, true, true, true, true, true, true, true, true, true, true, true, true, true, true, true, true, true, true, true, true, true, true, false, false, false, false] rfl rfl (any_of HT_.out (by kernel_rfl)) (fun _ _ _ h => h) (Or.inl ⟨by rfl, ?_⟩) ?_ ?_
  rotate_left
  · intro w'
    go_simp
    with_reducible rfl
  rotate_left
  · simp only [Act.put, List.setIfInBounds_toArray, List.set_cons_zero, List.set_cons_succ]
    rfl
  refine pure_ (i := 32) (N := some 73) (v := ?_) (a' := ?_) #[true, true, true, true, true, true, true, true, true, true, true, true, true, true, true, true, true, true, true, true, true, true, true, true, true, true, true, true, true, true, true, true, true, false, false, false] rfl rfl (any_of HT_.out (by kernel_rfl)) (fun _ _ _ h => h) (Or.inl ⟨by rfl, ?_⟩) ?_ ?_
  rotate_left
  · intro w'
    go_simp
    with_reducible rfl
  rotate_left
  · simp only [Act.put, List.setIfInBounds_toArray, List.set_cons_zero, List.set_cons_succ]
    rfl
  refine take_ (i := 33) (N := some 74) (v := ?_) (a' := ?_) #[true, true, true, true, true, true, true, true, true, true, true, true, true, true, true, true, true, true, true, true, true, true, true, true, true, true, true, true, true, true, true, true, true, true, false, false] rfl rfl (take_ofW HT_.out HW_.out (by kernel_rfl)) (fun _ _ _ h => h) (Or.inl ⟨by rfl, ?_⟩) hHeld ?_ ?_
  rotate_left
  · rintro w' hS; obtain ⟨s0, s1, s2, s3⟩ := EC.out w' hS
    go_simp
    with_reducible rfl
  rotate_left
  · simp only [Act.put, List.setIfInBounds_toArray, List.set_cons_zero, List.set_cons_succ]
    rfl
  refine pure_ (i := 34) (N := some 75) (v := ?_) (a' := ?_) #[true, true, true, true, true, true, true, true, true, true, true, true, true, true, true, true, true, true, true, true, true, true, true, true, true, true, true, true, true, true, true, true, true, true, true, false] rfl rfl (any_of HT_.out (by kernel_rfl)) (fun _ _ _ h => h) (Or.inl ⟨by rfl, ?_⟩) ?_ ?_
  rotate_left
  · intro w'
    go_simp
    with_reducible rfl
  rotate_left
  · simp only [Act.put, List.setIfInBounds_toArray, List.set_cons_zero, List.set_cons_succ]
    rfl
  refine pure_ (i := 35) (N := some 76) (v := ?_) (a' := ?_) #[true, true, true, true, true, true, true, true, true, true, true, true, true, true, true, true, true, true, true, true, true, true, true, true, true, true, true, true, true, true, true, true, true, true, true, true] rfl rfl (any_of HT_.out (by kernel_rfl)) (fun _ _ _ h => h) (Or.inl ⟨by rfl, ?_⟩) ?_ ?_
  rotate_left
  · intro w'
    go_simp
    with_reducible rfl
  rotate_left
  · simp only [Act.put, List.setIfInBounds_toArray, List.set_cons_zero, List.set_cons_succ]
    rfl
  refine done_ (done_of HT_.out (by kernel_rfl)) ?_
  clear HT_ HW_ hHeld
  have H5 := Lib.hid (H4.out.1.trans (HW5.out.mono H4.out.1.size))
  clear HW5
  obtain ⟨tq, htq⟩ : ∃ tq, Hid ((⟨#[116, 105, 99, 107]⟩ ++ odd ++ ⟨#[10]⟩ : ByteArray) = tq ∧ tq.data.toList = sTick ++ odd.data.toList ++ [10] ∧ tq.size ≤ 300) := by
    refine ⟨_, rfl, by simp [sTick], ?_⟩
    simp only [ByteArray.size_append]
    show 4 + odd.size + 1 ≤ 300
    omega
  have HL5 : Hid (LP w5) := HL.out.below H5.out
  by_cases h0 : odd.data.toList = []
  · obtain rfl : odd = ⟨#[]⟩ := by obtain ⟨⟨l⟩⟩ := odd; simp at h0; subst h0; rfl
    clear h0
    have HP := Lib.hid (Parse_some tq [⟨1, 0, 0, []⟩] (by rw [htq.out.2.1]; exact tick_only) (by have := htq.out.2.2; omega) w5 HL5.out)
    go_wp2_with fail
    rw [htq.out.1]
    refine HP.out.mono ?_
    rintro e w6 ⟨A6, c6, rfl, hc6, _, hC6, hb6⟩
    have H6 := Lib.hid (H5.out.trans (hb6.mono H5.out.size))
    clear hb6 HP hC6 hc6
    go_wp2_with fail
    go_ret
    exact ⟨rfl, H6.out⟩
  · have hq0 : (odd.toList == []) = false := by rw [ba_toList]; exact beq_eq_false_iff_ne.2 h0
    rcases hp : parseL tq.data.toList with _ | xs
    · have HP := Lib.hid (Parse_none tq hp (by have := htq.out.2.2; omega) w5 HL5.out)
      clear hp
      go_wp2_with fail
      rw [htq.out.1]
      refine HP.out.mono ?_
      rintro e w6 ⟨rfl, hb6⟩
      have H6 := Lib.hid (H5.out.trans (hb6.mono H5.out.size))
      clear hb6 HP
      go_wp2_with fail
      go_ret
      exact ⟨rfl, H6.out⟩
    · have HP := Lib.hid (Parse_some tq xs hp (by have := htq.out.2.2; omega) w5 HL5.out)
      have h10 : odd.data.toList.head? = some 10 := by
        rw [htq.out.2.1] at hp
        rcases tick_odd _ _ hp with h | h
        · exact absurd h h0
        · exact h
      have hpos : 0 < odd.size := by
        rcases Nat.eq_zero_or_pos odd.size with h | h
        · exact absurd (List.eq_nil_of_length_eq_zero (l := odd.data.toList) h) h0
        · exact h
      have h10' : Hid (∀ h : 0 < odd.size, (((odd[0]'h).toNat : Int) == 10) = true) := by
        intro h
        have e : odd[0]'h = 10 := by
          obtain ⟨⟨l⟩⟩ := odd
          cases l with
          | nil => simp at h10
          | cons c r => simp at h10; subst h10; rfl
        rw [e]; rfl
      clear h10
      clear hp
      go_wp2_with fail
      rw [htq.out.1]
      refine HP.out.mono ?_
      rintro e w6 ⟨A6, c6, rfl, hc6, _, hC6, hb6⟩
      have H6 := Lib.hid (H5.out.trans (hb6.mono H5.out.size))
      clear hb6 HP hC6 hc6
      go_wp2_with fail
      go_ret
      exact ⟨congrArg (fun b => Ending.returned (.bool b)) (h10'.out _), H6.out⟩
end Go.Proofs.YtbcdlbdljejlcaaDoor.scriptBytes
