/- script: Check, line, as Calls. script: Print, as a Call. script: Parse, as a Call. script: the example. script: the plain laws of ScriptBytes and ScriptJoins. script: the document's Check, as a Call. -/
import Derived.Test.YtbcdlbdljejlcaaDoorMgScriptJoins10
import Derived.Lib.ItoaLen
set_option linter.unusedVariables false
set_option linter.unusedSimpArgs false
namespace Go.Proofs.YtbcdlbdljejlcaaDoor.Sc
open Go.RowKit Go.Proofs.YtbcdlbdljejlcaaDoor.B0 Go.Proofs.YtbcdlbdljejlcaaDoor.Ps Go.Proofs.YtbcdlbdljejlcaaDoorW.PrintWords Go.Proofs.YtbcdlbdljejlcaaDoorW.PrintLast Go.Proofs.YtbcdlbdljejlcaaDoor.Bld

theorem cat_eq (a b : ByteArray) (l : List UInt8) (h : a.data.toList ++ b.data.toList = l) : a ++ b = ⟨l.toArray⟩ := by
  subst h
  apply ByteArray.ext
  simp
theorem Check_c (x : Stp) (A : Option Addr) (c : Nat) (w : World) (hr : Kd.C (Kd.int .u8) w A x.f3.length x.f3) (hc : x.f3.length ≤ c) : ∃ r, (r = 0 ∨ r = 1 ∨ r = 2) ∧ (r = 0 ↔ okS x) ∧
    Calls Tryd.prog 9 #[stepV x (.slice A x.f3.length c)] w fun e w' => e = .returned (.int .i64 r) ∧ Below w.heap.size w w' := by
  obtain ⟨r, h1, h2, h3⟩ := check_f x
  exact ⟨r, h2, h3, script_Check.calls 10 x.f0 x.f1 x.f2 A c x.f3 r w hr hc h1⟩

set_option maxHeartbeats 4000000 in
set_option maxRecDepth 100000 in
theorem line_a (x : Stp) (hx : okS x) (h0 : x.f0 ≠ 0) (v : Value) (hv : v.cells = #[v]) (w : World) (h : LP w) :
    Calls Tryd.prog 18 #[stepV x v] w fun e w' => e = .returned (strV (lineL x)) ∧ Below w.heap.size w w' := by
  have HL := Lib.hid h; clear h
  obtain ⟨a, b, c, l⟩ := x
  simp only [okS] at hx
  simp only at h0
  rcases hx with ⟨h, _⟩ | ⟨h, rfl, rfl, rfl⟩ | ⟨rfl, rfl, h1, h2, rfl⟩
  · exact absurd h h0
  · rcases h with rfl | rfl | rfl
    · unfold stepV
      go_enter Tryd.func18, Tryd.ntmps18
      go_wp2_with fail
      go_ret
      exact ⟨rfl, (Below.refl _ _).alloc (Nat.le_refl _) _⟩
    · unfold stepV
      go_enter Tryd.func18, Tryd.ntmps18
      go_wp2_with fail
      go_ret
      exact ⟨rfl, (Below.refl _ _).alloc (Nat.le_refl _) _⟩
    · unfold stepV
      go_enter Tryd.func18, Tryd.ntmps18
      go_wp2_with fail
      go_ret
      exact ⟨rfl, (Below.refl _ _).alloc (Nat.le_refl _) _⟩
  · unfold stepV
    go_enter Tryd.func18, Tryd.ntmps18
    go_wp2_with fail
    refine (Itoa_i c (by omega) (by omega) _ (HL.out.below ((Below.refl _ _).alloc (Nat.le_refl _) _)).1).mono ?_
    rintro e w1 ⟨rfl, hb⟩
    have HB : Hid (Below w.heap.size w w1) := ((Below.refl _ _).alloc (Nat.le_refl _) _).trans (hb.mono (by rw [show (w.alloc _).heap.size = w.heap.size + 1 from Array.size_push ..]; omega))
    clear hb
    obtain ⟨sb, hsb⟩ : ∃ sb : ByteArray, Hid (sb = ⟨(Lib.itoa c).toArray⟩ ∧ sb.size ≤ 21) := ⟨_, rfl, Lib.itoa_length_le c (by omega) (by omega)⟩
    rw [← hsb.out.1]
    have q1 : ByteArray.size ⟨#[99, 108, 111, 115, 101, 32]⟩ + sb.size ≤ 9223372036854775807 := by have := hsb.out.2; show 6 + sb.size ≤ _; omega
    have q2 : 6 + sb.size ≤ 9223372036854775807 := q1
    go_wp2_with fail
    go_ret
    refine ⟨?_, HB.out⟩
    rw [hsb.out.1]
    have e : (⟨#[99, 108, 111, 115, 101, 32]⟩ : ByteArray) ++ ⟨(Lib.itoa c).toArray⟩ = ⟨(lineL ⟨2, 0, c, []⟩).toArray⟩ := cat_eq _ _ _ rfl
    show Ending.returned (.string _) = .returned (.string _)
    rw [← e]

def T18_3 : Bool × List (List Nat × List Nat) := (true, [([], []), ([0], [0]), ([1], [1]), ([2], [2]), ([3], [3]), ([], []), ([5], [5]), ([6, 2], [6]), ([4, 7], [4, 7]), ([8, 7, 0, 1, 2, 3, 4, 5, 6, 7, 8], [8])])
def B18_3 : List Nat := [0, 1, 3, 7, 15, 0, 32, 103, 255, 511]
theorem tab18_3 : rtab .any (opsOf Tryd.f18 3) = T18_3 := by kernel_rfl
theorem bits18_3 : waitsOk T18_3.2 B18_3 = true := by kernel_rfl
set_option maxHeartbeats 4000000 in
set_option maxRecDepth 100000 in
theorem line_b (n : Int) (l : List Int) (h1 : 0 ≤ n) (h2 : n ≤ 15) (hl : l.length ≤ 65536) (hi : isB l) (A : Option Addr) (cp : Nat) (w : World) (h : LP w) (hr : ReadsInt w .u8 A l.length l) :
    Calls Tryd.prog 18 #[stepV ⟨0, n, 0, l⟩ (.slice A l.length cp)] w fun e w' => e = .returned (strV (lineL ⟨0, n, 0, l⟩)) ∧ Below w.heap.size w w' := by
  have HL := Lib.hid h; clear h
  have HR := Lib.hid hr; clear hr
  have HI := Lib.hid hi; clear hi
  unfold stepV
  go_enter Tryd.func18, Tryd.ntmps18
  go_wp2_with fail
  have BK : Hid ((w.alloc (.cells #[.int .i64 0, .int .i64 n, .int .i64 0, .slice A l.length cp] 32)).heap[w.heap.size]? = some (.cells #[.int .i64 0, .int .i64 n, .int .i64 0, .slice A l.length cp] 32 (0, 0))) := Lib.hid (Array.getElem?_push_size ..)
  have B1 : Hid (Below w.heap.size w (w.alloc (.cells #[.int .i64 0, .int .i64 n, .int .i64 0, .slice A l.length cp] 32))) := (Below.refl _ _).alloc (Nat.le_refl _) _
  generalize hgw : w.alloc (.cells #[.int .i64 0, .int .i64 n, .int .i64 0, .slice A l.length cp] 32) = w1 at BK B1 ⊢
  clear hgw
  have EC : Hid (∀ w', Below w1.heap.size w1 w' → w'.cell? ⟨w.heap.size, 1, none⟩ = some (.int .i64 n) ∧ w'.cell? ⟨w.heap.size, 3, none⟩ = some (.slice A l.length cp)) := fun w' h => ⟨pw_cell_below h (by rw [Lib.cell_of_heap BK.out]; rfl), pw_cell_below h (by rw [Lib.cell_of_heap BK.out]; rfl)⟩
  have HL1 : Hid (LP w1) := HL.out.below B1.out
  have HR1 : Hid (ReadsInt w1 .u8 A l.length l) := HR.out.below B1.out
  obtain ⟨sb, hsb⟩ : ∃ sb : ByteArray, Hid (sb = ⟨(Lib.itoa n).toArray⟩ ∧ sb.size ≤ 21) := ⟨_, rfl, Lib.itoa_length_le n (by omega) (by omega)⟩
  obtain ⟨sh, hsh⟩ : ∃ sh : ByteArray, Hid (strV (hexL l) = .string sh ∧ sh = ⟨(hexL l).toArray⟩ ∧ sh.size ≤ 200000) := ⟨_, rfl, rfl, by
    show (hexL l).length ≤ _
    unfold hexL
    split
    · decide
    · have := (unL_hexR l HI.out).2.2; omega⟩
  have n1 : ¬ (9223372036854775807 < 8 + sb.size) := by have := hsb.out.2; omega
  have n2 : ¬ (9223372036854775807 < 8 + sb.size + 1) := by have := hsb.out.2; omega
  have n3 : ¬ (9223372036854775807 < 8 + sb.size + 1 + sh.size) := by have := hsb.out.2; have := hsh.out.2.2; omega
  refine start_ (n := 10) (S := (fun w' => Below w1.heap.size w1 w')) (ds := []) #[false, false, false, false, false, false, false, false, false, false] (by kernel_rfl) (by rfl) (by rfl) (Below_drewN (Below.refl _ _) 1) (fun hHeld => ?_); refine with_tabW tab18_3 bits18_3 (fun HT_ HW_ => ?_)
  refine pure_ (i := 0) (N := some 7) (v := ?_) (a' := ?_) #[true, false, false, false, false, false, false, false, false, false] rfl rfl (any_of HT_.out (by kernel_rfl)) (fun _ _ _ h => h) (Or.inl ⟨by rfl, ?_⟩) ?_ ?_
  rotate_left
  · intro w'
    go_simp
    with_reducible rfl
  rotate_left
  · simp only [Act.put, List.setIfInBounds_toArray, List.set_cons_zero, List.set_cons_succ]
    rfl
  refine take_ (i := 1) (N := some 8) (v := ?_) (a' := ?_) #[true, true, false, false, false, false, false, false, false, false] rfl rfl (take_ofW HT_.out HW_.out (by kernel_rfl)) (fun _ _ _ h => h) (Or.inl ⟨by rfl, ?_⟩) hHeld ?_ ?_
  rotate_left
  · rintro w' hS; obtain ⟨s1, s3⟩ := EC.out w' hS
    go_simp
    with_reducible rfl
  rotate_left
  · simp only [Act.put, List.setIfInBounds_toArray, List.set_cons_zero, List.set_cons_succ]
    rfl
  refine pure_ (i := 5) (N := some 12) (v := ?_) (a' := ?_) #[true, true, false, false, false, true, false, false, false, false] rfl rfl (any_of HT_.out (by kernel_rfl)) (fun _ _ _ h => h) (Or.inl ⟨by rfl, ?_⟩) ?_ ?_
  rotate_left
  · intro w'
    go_simp
    with_reducible rfl
  rotate_left
  · simp only [Act.put, List.setIfInBounds_toArray, List.set_cons_zero, List.set_cons_succ]
    rfl
  refine take_ (i := 6) (N := some 13) (v := ?_) (a' := ?_) #[true, true, false, false, false, true, true, false, false, false] rfl rfl (take_ofW HT_.out HW_.out (by kernel_rfl)) (fun _ _ _ h => h) (Or.inl ⟨by rfl, ?_⟩) hHeld ?_ ?_
  rotate_left
  · rintro w' hS; obtain ⟨s1, s3⟩ := EC.out w' hS
    go_simp
    with_reducible rfl
  rotate_left
  · simp only [Act.put, List.setIfInBounds_toArray, List.set_cons_zero, List.set_cons_succ]
    rfl
  refine one_ (i := 2) (N := some 9) #[true, true, true, false, false, true, true, false, false, false] rfl rfl (one_of HT_.out (by kernel_rfl)) (by decide) (fun K hK => ?_)
  rw [if_pos (by rfl)]
  go_simp
  go_at_call 27; refine (Itoa_i n (by omega) (by omega) _ (HL1.out.below hHeld).1).mono ?_; rintro e w2 ⟨rfl, hb⟩; rw [← hsb.out.1]
  refine hK.out _ _ (hHeld.trans (hb.mono hHeld.size)) (fun hHeld => ?_)
  clear hK K
  refine pure_ (i := 3) (N := some 10) (v := ?_) (a' := ?_) #[true, true, true, true, false, true, true, false, false, false] rfl rfl (any_of HT_.out (by kernel_rfl)) (fun _ _ _ h => h) (Or.inl ⟨by rfl, ?_⟩) ?_ ?_
  rotate_left
  · intro w'
    go_simp
    with_reducible rfl
  rotate_left
  · simp only [Act.put, List.setIfInBounds_toArray, List.set_cons_zero, List.set_cons_succ]
    rfl
  refine pure_ (i := 4) (N := some 11) (v := ?_) (a' := ?_) #[true, true, true, true, true, true, true, false, false, false] rfl rfl (any_of HT_.out (by kernel_rfl)) (fun _ _ _ h => h) (Or.inl ⟨by rfl, ?_⟩) ?_ ?_
  rotate_left
  · intro w'
    go_simp
    with_reducible rfl
  rotate_left
  · simp only [Act.put, List.setIfInBounds_toArray, List.set_cons_zero, List.set_cons_succ]
    rfl
  refine one_ (i := 7) (N := some 14) #[true, true, true, true, true, true, true, true, false, false] rfl rfl (one_of HT_.out (by kernel_rfl)) (by decide) (fun K hK => ?_)
  rw [if_pos (by rfl)]
  go_simp
  go_at_call 28; refine (hex_c _ A cp l (HR1.out.below hHeld) HI.out (by omega)).mono ?_; rintro e w3 ⟨rfl, hb⟩; rw [hsh.out.1]; have HW3 := Lib.hid (hHeld.trans (hb.mono hHeld.size))
  refine hK.out _ _ (hHeld.trans (hb.mono hHeld.size)) (fun hHeld => ?_)
  clear hK K
  refine pure_ (i := 8) (N := some 15) (v := ?_) (a' := ?_) #[true, true, true, true, true, true, true, true, true, false] rfl rfl (any_of HT_.out (by kernel_rfl)) (fun _ _ _ h => h) (Or.inl ⟨by rfl, ?_⟩) ?_ ?_
  rotate_left
  · intro w'
    go_simp
    with_reducible rfl
  rotate_left
  · simp only [Act.put, List.setIfInBounds_toArray, List.set_cons_zero, List.set_cons_succ]
    rfl
  refine pure_ (i := 9) (N := some 2) (v := ?_) (a' := ?_) #[true, true, true, true, true, true, true, true, true, true] rfl rfl (any_of HT_.out (by kernel_rfl)) (fun _ _ _ h => h) (Or.inl ⟨by rfl, ?_⟩) ?_ ?_
  rotate_left
  · intro w'
    go_simp
    with_reducible rfl
  rotate_left
  · simp only [Act.put, List.setIfInBounds_toArray, List.set_cons_zero, List.set_cons_succ]
    rfl
  refine done_ (done_of HT_.out (by kernel_rfl)) ?_
  clear HT_ HW_ hHeld
  go_wp2_with fail
  go_ret
  refine ⟨?_, B1.out.trans (HW3.out.mono B1.out.size)⟩
  show Ending.returned (.string _) = .returned (.string _)
  rw [hsb.out.1, hsh.out.2.1]
  congr 2
  apply ByteArray.ext
  simp [lineL, sDeliver]
/-- line, of a step that may be. -/
theorem line_c (x : Stp) (hx : okS x) (hi : isB x.f3) (A : Option Addr) (cp : Nat) (w : World) (h : LP w) (hr : ReadsInt w .u8 A x.f3.length x.f3) :
    Calls Tryd.prog 18 #[stepV x (.slice A x.f3.length cp)] w fun e w' => e = .returned (strV (lineL x)) ∧ Below w.heap.size w w' := by
  by_cases h0 : x.f0 = 0
  · obtain ⟨a, b, c, l⟩ := x
    simp only at h0; subst h0
    simp only [okS] at hx
    rcases hx with ⟨_, h1, h2, rfl, h3⟩ | ⟨h, _⟩ | ⟨h, _⟩
    · exact line_b b l h1 h2 h3 hi A cp w h hr
    · omega
    · omega
  · exact line_a x hx h0 _ rfl w h
end Go.Proofs.YtbcdlbdljejlcaaDoor.Sc
set_option linter.unusedVariables false
set_option linter.unusedSimpArgs false
namespace Go.Proofs.YtbcdlbdljejlcaaDoor.Sc
open Go.RowKit Go.Proofs.YtbcdlbdljejlcaaDoor.B0 Go.Proofs.YtbcdlbdljejlcaaDoor.Ps Go.Proofs.YtbcdlbdljejlcaaDoorW.PrintWords Go.Proofs.YtbcdlbdljejlcaaDoor.Bld

theorem num_of_C {w : World} {A : Option Addr} {l : List Int} (h : Kd.C (Kd.int .u8) w A l.length l) : ReadsInt w .u8 A l.length l := Kd.reads_of_C (enc := Value.int .u8) (d := 0) (h1 := fun _ => rfl) h
theorem mk_at {w : World} {v0 v1 v2 v3 : Value} : RV (w.alloc (.cells #[v0, v1, v2, v3] 32)) w.heap.size v0 v1 v2 v3 := Array.getElem?_push_size ..
theorem printL_take (xs : List Stp) (k : Nat) (h : k < xs.length) : printL (xs.take (k + 1)) = printL (xs.take k) ++ lineL xs[k] ++ [10] := by
  rw [List.take_succ_eq_append_getElem h, printL_append]
  simp [printL]
theorem printL_take_le (xs : List Stp) (k : Nat) : (printL (xs.take k)).length ≤ (printL xs).length := by
  conv => rhs; rw [← List.take_append_drop k xs, printL_append, List.length_append]
  omega

set_option maxHeartbeats 4000000 in
set_option maxRecDepth 100000 in
theorem Print_c (w : World) (h : LP w) (A : Option Addr) (c : Nat) (xs : List Stp) (hC : Kd.C k32 w A xs.length xs) (hok : ∀ x ∈ xs, okS x ∧ isB x.f3) (hl : (printL xs).length ≤ 4194304) :
    Calls Tryd.prog 8 #[.slice A xs.length c] w fun e w' => e = .returned (.tuple #[strV (printL xs), .int .i64 0]) ∧ Below w.heap.size w w' := by
  have HL := Lib.hid h; clear h
  have HC := Lib.hid hC; clear hC
  have HK := Lib.hid hok; clear hok
  have hxl : xs.length ≤ 4194304 := Nat.le_trans (printL_len xs) hl
  have HLe := Lib.hid hl; clear hl
  go_enter Tryd.func8, Tryd.ntmps8
  go_wp2_with fail
  go_loopw [10] (fun iv wr => ∃ k : Nat, iv = .int .i64 k ∧ k ≤ xs.length ∧ Hid (IsB wr w.heap.size w.heap.size (printL (xs.take k)) ∧ Below w.heap.size w wr)) (fun iv _ => xs.length - (intOf iv).toNat)
  case atStart => exact ⟨0, rfl, Nat.zero_le _, IsB.new w, (Below.refl _ _).alloc (Nat.le_refl _) _⟩
  case round =>
    obtain ⟨k, rfl, hk, HW⟩ := hrel
    by_cases hlt : k < xs.length
    · have hki : (k : Int) < xs.length := by omega
      obtain ⟨ad, A3, c3, rfl, d0, d1, d2, d3, hl3, hi3⟩ := at_T32 (Kd.C_below HC.out HW.out.2) k (by omega) hki
      rw [show ((k : Int)).toNat = k from by omega] at d0 d1 d2 d3
      obtain ⟨y, hy⟩ : ∃ y, Hid (rd_T32 xs k = y ∧ xs[k] = y) := ⟨_, rfl, by unfold rd_T32; rw [show ((k : Int)).toNat = k from by omega, List.getD_eq_getElem?_getD, List.getElem?_eq_getElem hlt]; rfl⟩
      rw [hy.out.1] at d0 d1 d2 d3 hl3 hi3
      have HY : Hid (okS y ∧ isB y.f3) := by rw [← hy.out.2]; exact HK.out _ (List.getElem_mem _)
      have HI3 := Lib.hid hi3; have HL3 := Lib.hid hl3
      clear hi3 hl3
      have hlk : Hid ((printL (xs.take k)).length + (lineL y).length + 1 ≤ 4194304) := by
        have h1 := printL_take xs k hlt
        have h2 := printL_take_le xs (k + 1)
        rw [h1, hy.out.2, List.length_append, List.length_append, List.length_singleton] at h2
        exact Lib.hid (by have := HLe.out; omega)
      have hyk : Hid (xs.take (k + 1) = xs.take k ++ [y]) := by show _ = _; rw [List.take_succ_eq_append_getElem hlt, hy.out.2]
      obtain ⟨w1, hw1⟩ : ∃ w1, Hid (wr.alloc (.cells #[.int .i64 y.f0, .int .i64 y.f1, .int .i64 y.f2, .slice A3 y.f3.length c3] 32) = w1) := ⟨_, Lib.hid rfl⟩
      have hb1 : Below wr.heap.size wr w1 := by rw [← hw1.out]; exact (Below.refl _ _).alloc (Nat.le_refl _) _
      have H1 : Hid (IsB w1 w.heap.size w.heap.size (printL (xs.take k)) ∧ Below w.heap.size w w1 ∧ RV w1 wr.heap.size (.int .i64 y.f0) (.int .i64 y.f1) (.int .i64 y.f2) (.slice A3 y.f3.length c3) ∧ Kd.C (Kd.int .u8) w1 A3 y.f3.length y.f3 ∧ w.heap.size ≤ wr.heap.size) :=
        ⟨isB_below HW.out.1 hb1, HW.out.2.trans (hb1.mono HW.out.2.size), by rw [← hw1.out]; exact mk_at, Kd.C_below HI3.out hb1, HW.out.2.size⟩
      obtain ⟨r, _, hr0, hck⟩ := Check_c y A3 c3 w1 H1.out.2.2.2.1 HL3.out
      obtain rfl : r = 0 := hr0.2 HY.out.1
      have HCk := Lib.hid hck
      clear hck hr0 hb1
      go_wp2_with fail
      rw [hw1.out]
      refine HCk.out.mono ?_
      rintro e w2 ⟨rfl, hb2⟩
      have H2 : Hid (IsB w2 w.heap.size w.heap.size (printL (xs.take k)) ∧ Below w.heap.size w w2 ∧ RV w2 wr.heap.size (.int .i64 y.f0) (.int .i64 y.f1) (.int .i64 y.f2) (.slice A3 y.f3.length c3) ∧ Kd.C (Kd.int .u8) w2 A3 y.f3.length y.f3) :=
        ⟨isB_below H1.out.1 hb2, H1.out.2.1.trans (hb2.mono H1.out.2.1.size), H1.out.2.2.1.below hb2, Kd.C_below H1.out.2.2.2.1 hb2⟩
      clear hb2 HW d0 d1 d2 d3 HCk hw1
      obtain ⟨e0, e1, e2, e3⟩ := H2.out.2.2.1.cells
      go_wp2_with fail
      refine (line_c y HY.out.1 HY.out.2 A3 c3 w2 (HL.out.below H2.out.2.1) (num_of_C H2.out.2.2.2)).mono ?_
      rintro e w3 ⟨rfl, hb3⟩
      have H3 : Hid (IsB w3 w.heap.size w.heap.size (printL (xs.take k)) ∧ Below w.heap.size w w3) := ⟨isB_below H2.out.1 hb3, H2.out.2.1.trans (hb3.mono H2.out.2.1.size)⟩
      clear hb3 H2 e0 e1 e2 e3
      obtain ⟨sl, hsl⟩ : ∃ sl : ByteArray, Hid (strV (lineL y) = .string sl ∧ sl.data.toList = lineL y ∧ sl.size = (lineL y).length) := ⟨⟨(lineL y).toArray⟩, rfl, rfl, rfl⟩
      rw [hsl.out.1]
      go_wp2_with fail
      refine (WString_c H3.out.1 sl (by have := hlk.out; omega) (by have := hlk.out; have := hsl.out.2.2; omega) H3.out.2.size).mono ?_
      rintro e w4 ⟨rfl, hi4, hb4⟩
      rw [hsl.out.2.1] at hi4
      have H4 : Hid (IsB w4 w.heap.size w.heap.size (printL (xs.take k) ++ lineL y) ∧ Below w.heap.size w w4) := ⟨hi4, H3.out.2.trans hb4⟩
      clear hi4 hb4 H3
      go_wp2_with fail
      refine (WByte_c H4.out.1 10 (by have := hlk.out; rw [List.length_append]; omega) H4.out.2.size).mono ?_
      rintro e w5 ⟨rfl, hi5, hb5⟩
      have H5 : Hid (IsB w5 w.heap.size w.heap.size (printL (xs.take (k + 1))) ∧ Below w.heap.size w w5) := by
        refine ⟨?_, H4.out.2.trans hb5⟩
        rw [hyk.out, printL_append]
        simpa [printL] using hi5
      clear hi5 hb5 H4
      go_wp2_with fail
      go_roundw
      case rel => exact ⟨k + 1, by go_num, by omega, H5⟩
      case measure => simp [intOf]; omega
    · obtain rfl : k = xs.length := by omega
      rw [List.take_length] at HW
      go_wp2_with fail
      refine (Tryd.Builder_Len w.heap.size w.heap.size _ _ HW.out.1).mono ?_
      rintro e w1 ⟨rfl, rfl⟩
      rw [Lib.byteCells_length]
      have hln : decide ((4194304 : Int) < ((printL xs).length : Int)) = false := decide_eq_false (by have := HLe.out; omega)
      have hln2 : decide (4194304 < (printL xs).length) = false := decide_eq_false (by have := HLe.out; omega)
      go_wp2_with fail
      refine (BStr_c HW.out.1 HW.out.2.size).mono ?_
      rintro e w1 ⟨rfl, hb1⟩
      have H1 : Hid (Below w.heap.size w w1) := HW.out.2.trans hb1
      clear hb1 HW
      go_wp2_with fail
      go_ret2
      exact ⟨rfl, H1.out⟩
end Go.Proofs.YtbcdlbdljejlcaaDoor.Sc
set_option linter.unusedVariables false
set_option linter.unusedSimpArgs false
namespace Go.Proofs.YtbcdlbdljejlcaaDoor.Sc
open Go.RowKit Go.Proofs.YtbcdlbdljejlcaaDoor.B0 Go.Proofs.YtbcdlbdljejlcaaDoor.Ps Go.Proofs.YtbcdlbdljejlcaaDoorW.PrintWords Go.Proofs.YtbcdlbdljejlcaaDoor.Bld

theorem parseL_step (l : List UInt8) (h : l ≠ []) : parseL l = if (Lib.cut l [10]).2.2 = true then (stepL (Lib.cut l [10]).1).bind fun x => if okS x then (parseL (Lib.cut l [10]).2.1).map (x :: ·) else none else none := by
  have e : parseL l = parseF (l.length + 1) l := rfl
  rw [e, parseF_succ, if_neg h]
  rcases cut_cases l with ⟨_, ec⟩ | ⟨a, b, _, es, ec⟩
  · rw [ec]; rfl
  · rw [ec, parseL_of l.length b (by rw [es, List.length_append, List.length_cons]; omega)]
theorem cut_len (l : List UInt8) : (Lib.cut l [10]).1.length ≤ l.length ∧ ((Lib.cut l [10]).2.2 = true → (Lib.cut l [10]).2.1.length < l.length) := by
  rcases cut_cases l with ⟨_, ec⟩ | ⟨a, b, _, es, ec⟩
  · rw [ec]; exact ⟨Nat.le_refl _, fun h => by cases h⟩
  · rw [ec, es, List.length_append, List.length_cons]; exact ⟨by show a.length ≤ _; omega, fun _ => by show b.length < _; omega⟩
def strSize (v : Value) : Nat := match v with | .string b => b.size | _ => 0
/-- the steps so far. -/
def PSL (w : World) (B : Nat) (v : Value) (xs : List Stp) : Prop := Kd.S k32 32 w B (fun _ => True) v xs

set_option maxHeartbeats 8000000 in
set_option maxRecDepth 100000 in
theorem Parse_c (s : ByteArray) (hs : s.size ≤ 4194304) (w : World) (h : LP w) :
    Calls Tryd.prog 7 #[.string s] w fun e w' => ∃ (v : Value) (er : Int), e = .returned (.tuple #[v, .int .i64 er]) ∧
      ((∃ xs, parseL s.data.toList = some xs ∧ er = 0 ∧ PSL w' w.heap.size v xs) ∨ (parseL s.data.toList = none ∧ er = 11 ∧ v = .slice none 0 0)) ∧ Below w.heap.size w w' := by
  have HL := Lib.hid h; clear h
  obtain ⟨P0, hP0⟩ : ∃ P0, Hid (parseL s.data.toList = P0) := ⟨_, Lib.hid rfl⟩
  have hln : decide ((4194304 : Int) < (s.size : Int)) = false := decide_eq_false (by omega)
  have hln2 : decide (4194304 < s.size) = false := decide_eq_false (by omega)
  rw [hP0.out]
  go_enter Tryd.func7, Tryd.ntmps7
  go_wp2_with fail
  go_loopw [0, 4] (fun sv lv wr => ∃ (sr : ByteArray) (xs : List Stp) (av : Value), sv = .string sr ∧ lv = av ∧ sr.size ≤ s.size ∧ xs.length + sr.size ≤ s.size ∧ Hid (P0 = (parseL sr.data.toList).map (xs ++ ·) ∧ PSL wr w.heap.size av xs ∧ Below w.heap.size w wr)) (fun sv _ _ => strSize sv)
  case atStart =>
    refine ⟨s, [], _, rfl, rfl, Nat.le_refl _, by simp, ?_, Kd.S_nil _ _ _ _ _, Below.refl _ _⟩
    rw [← hP0.out]; cases parseL s.data.toList <;> rfl
  case round =>
    obtain ⟨sr, xs, av, rfl, rfl, hsr, hxs, HW⟩ := hrel
    by_cases h0 : sr.data.toList = []
    · have hq : (sr.toList == []) = true := by rw [ba_toList, h0]; rfl
      obtain rfl : sr = ⟨#[]⟩ := by obtain ⟨⟨l⟩⟩ := sr; simp at h0; subst h0; rfl
      have HP : Hid (P0 = some xs) := by
        rw [HW.out.1]
        show (parseF 1 []).map _ = _
        simp [parseF]
      go_wp2_with fail
      go_ret2
      exact ⟨_, _, rfl, .inl ⟨xs, HP.out, rfl, HW.out.2.1⟩, HW.out.2.2⟩
    · have hq : (sr.toList == []) = false := by rw [ba_toList]; exact beq_eq_false_iff_ne.2 h0
      have HPS := Lib.hid (parseL_step _ h0)
      have HCL := Lib.hid (cut_len sr.data.toList)
      clear h0
      have HLr : Hid (LP wr) := HL.out.below HW.out.2.2
      go_wp2_with fail
      refine (Cut_c sr wr (by omega) HLr.out).mono ?_
      rintro e w1 ⟨rfl, hb1⟩
      have H1 : Hid (Below w.heap.size w w1 ∧ PSL w1 w.heap.size u4 xs) := ⟨HW.out.2.2.trans (hb1.mono HW.out.2.2.size), Kd.S_below HW.out.2.1 hb1⟩
      clear hb1
      obtain ⟨⟨la, lb, wh⟩, hcut⟩ : ∃ p : List UInt8 × List UInt8 × Bool, Hid (Lib.cut sr.data.toList [10] = p) := ⟨_, Lib.hid rfl⟩
      have HP2 : Hid (P0 = ((if wh = true then (stepL la).bind (fun x => if okS x then (parseL lb).map (x :: ·) else none) else none) : Option (List Stp)).map (xs ++ ·)) := by
        have := HPS.out; rw [hcut.out] at this
        show _ = _
        rw [HW.out.1, this]
      have HC2 : Hid (la.length ≤ sr.size ∧ (wh = true → lb.length < sr.size)) := by have := HCL.out; rw [hcut.out] at this; exact this
      rw [hcut.out]
      dsimp only
      obtain ⟨sa, hsa⟩ : ∃ sa : ByteArray, Hid ((⟨la.toArray⟩ : ByteArray) = sa ∧ sa.data.toList = la ∧ sa.size = la.length) := ⟨_, rfl, rfl, rfl⟩
      obtain ⟨sb, hsb⟩ : ∃ sb : ByteArray, Hid ((⟨lb.toArray⟩ : ByteArray) = sb ∧ sb.data.toList = lb ∧ sb.size = lb.length) := ⟨_, rfl, rfl, rfl⟩
      rw [hsa.out.1, hsb.out.1]
      clear HPS HCL hcut HLr
      have HL1 : Hid (LP w1) := HL.out.below H1.out.1
      go_wp2_with fail
      refine (step_c sa (by have := HC2.out.1; have := hsa.out.2.2; omega) w1 HL1.out).mono ?_
      rintro e w2 ⟨y, v, rfl, hy, hO, hb2⟩
      rw [hsa.out.2.1] at hy ⊢
      obtain ⟨A3, c3, rfl, hc3, hr3⟩ := hO.cap
      obtain ⟨ok, hok⟩ : ∃ ok, Hid ((stepL la).isSome = ok ∧ ∀ x, stepL la = some x → y = x) := ⟨_, rfl, hy⟩
      rw [hok.out.1]
      have H2 : Hid (Below w.heap.size w w2 ∧ PSL w2 w.heap.size u4 xs ∧ OB w2 w1.heap.size (.slice A3 y.f3.length c3) y.f3 ∧ w1.heap.size ≤ w2.heap.size) := ⟨H1.out.1.trans (hb2.mono H1.out.1.size), Kd.S_below H1.out.2 hb2, hO, hb2.size⟩
      have HB12 := Lib.hid hb2
      clear hy hO hc3 hr3 hb2
      unfold stepV
      obtain ⟨w3, hw3⟩ : ∃ w3, Hid (w2.alloc (.cells #[.int .i64 y.f0, .int .i64 y.f1, .int .i64 y.f2, .slice A3 y.f3.length c3] 32) = w3) := ⟨_, Lib.hid rfl⟩
      have hb3 : Below w2.heap.size w2 w3 := by rw [← hw3.out]; exact (Below.refl _ _).alloc (Nat.le_refl _) _
      have H3 : Hid (Below w.heap.size w w3 ∧ RV w3 w2.heap.size (.int .i64 y.f0) (.int .i64 y.f1) (.int .i64 y.f2) (.slice A3 y.f3.length c3)) :=
        ⟨H2.out.1.trans (hb3.mono H2.out.1.size), by rw [← hw3.out]; exact mk_at⟩
      have hbad : (wh = false ∨ ok = false) → P0 = none := by
        rintro (rfl | rfl)
        · rw [HP2.out]; rfl
        · have hn : stepL la = none := Option.isNone_iff_eq_none.1 (by have := hok.out.1; revert this; cases stepL la <;> simp)
          rw [HP2.out, hn]; cases wh <;> rfl
      cases wh
      · have HN := Lib.hid (hbad (.inl rfl)); clear hbad hb3
        go_wp2_with fail
        rw [hw3.out]
        go_ret2
        exact ⟨_, _, rfl, .inr ⟨HN.out, rfl, rfl⟩, H3.out.1⟩
      · cases ok
        · have HN := Lib.hid (hbad (.inr rfl)); clear hbad hb3
          go_wp2_with fail
          rw [hw3.out]
          go_ret2
          exact ⟨_, _, rfl, .inr ⟨HN.out, rfl, rfl⟩, H3.out.1⟩
        · clear hbad
          have hsy : stepL la = some y := by
            obtain ⟨x, hx⟩ := Option.isSome_iff_exists.1 hok.out.1
            rw [hok.out.2 x hx]; exact hx
          have HSY := Lib.hid hsy; clear hsy
          have AP : Hid (∀ k, some k = (Value.slice A3 y.f3.length c3).ownBlock → w1.heap.size ≤ k) := fun k hk => own_base H2.out.2.2.1 k hk.symm
          have APL : Hid (∀ k, u4.ownBlock = some k → k < w1.heap.size) := Kd.S_lt H1.out.2
          have S1 : Hid (Kd.S k32 32 w3 w.heap.size (fun k => True ∧ ¬ some k = (Value.slice A3 y.f3.length c3).ownBlock) u4 xs) := by
            have h1 := Kd.S_mono (ok' := fun k => True ∧ ¬ some k = (Value.slice A3 y.f3.length c3).ownBlock) (Kd.S_bound H1.out.2) (fun k hk => ⟨trivial, fun e => by have := AP.out k e; have := hk.2.2.1; omega⟩)
            exact Kd.S_below (Kd.S_below h1 HB12.out) hb3
          have C3 : Hid (Kd.C (Kd.int .u8) w3 A3 y.f3.length y.f3 ∧ y.f3.length ≤ c3 ∧ OB w3 w1.heap.size (.slice A3 y.f3.length c3) y.f3) := by
            have h1 : (Kd.int .u8).R 5 w3 w1.heap.size (fun _ => True) (.slice A3 y.f3.length c3) y.f3 := Kd.R_of_own (enc := Value.int .u8) (h1 := fun _ => rfl) (H2.out.2.2.1.below hb3) (fun _ _ => trivial)
            obtain ⟨A', c', e, h2, h3⟩ := Kd.R_reads h1
            simp only [Value.slice.injEq] at e
            obtain ⟨rfl, _, rfl⟩ := e
            exact ⟨h3, h2, H2.out.2.2.1.below hb3⟩
          clear hb3
          obtain ⟨r, hrr, hr0, hck⟩ := Check_c y A3 c3 w3 C3.out.1 C3.out.2.1
          have HCk := Lib.hid hck; clear hck
          by_cases hoy : okS y
          · obtain rfl : r = 0 := hr0.2 hoy
            clear hr0 hrr
            have HOY := Lib.hid hoy; clear hoy
            go_wp2_with fail
            rw [hw3.out]
            refine HCk.out.mono ?_
            rintro e w4 ⟨rfl, hb4⟩
            have H4 : Hid (Below w.heap.size w w4 ∧ RV w4 w2.heap.size (.int .i64 y.f0) (.int .i64 y.f1) (.int .i64 y.f2) (.slice A3 y.f3.length c3) ∧ OB w4 w1.heap.size (.slice A3 y.f3.length c3) y.f3 ∧
                Kd.S k32 32 w4 w.heap.size (fun k => True ∧ ¬ some k = (Value.slice A3 y.f3.length c3).ownBlock) u4 xs) :=
              ⟨H3.out.1.trans (hb4.mono H3.out.1.size), H3.out.2.below hb4, C3.out.2.2.below hb4, Kd.S_below S1.out hb4⟩
            clear hb4
            obtain ⟨e0, e1, e2, e3⟩ := H4.out.2.1.cells
            have hw1s : Hid (w.heap.size ≤ w1.heap.size) := H1.out.1.size
            go_wp2_with (at_builtin; go_loud (refine Kd.S_append k32 (w0 := w) w.heap.size rfl _ _ 23 32 (.agg #[(.int .i64 0), (.int .i64 0), (.int .i64 0), (.slice none 0 0)]) 48 rfl Tryd.underlying23 info32 rfl (by decide) (by decide) u4 xs y [.int .i64 y.f0, .int .i64 y.f1, .int .i64 y.f2, .slice A3 y.f3.length c3] (fun _ => True) (fun k => some k = (Value.slice A3 y.f3.length c3).ownBlock) rfl rfl ?aP (fun k hk => ⟨trivial, fun e => by have h1 := AP.out k hk; have h2 := APL.out k e.symm; omega⟩) (fun _ _ => trivial) H4.out.2.2.2 H4.out.1 H4.out.1.size (by omega) ?_))
            case aP => exact k32_mkM _ _ _ y (Kd.R_of_own (enc := Value.int .u8) (h1 := fun _ => rfl) (H4.out.2.2.1.lower hw1s.out) (fun k hk => hk.symm))
            intro v1 w5 hS hB hG hat
            have H5 : Hid (PSL w5 w.heap.size v1 (xs ++ [y]) ∧ Below w.heap.size w w5) := ⟨hS, hB⟩
            clear hS hB hG hat e0 e1 e2 e3
            go_wp2_with fail
            go_roundw
            case rel =>
              have hlb : lb.length < sr.size := HC2.out.2 trivial
              refine ⟨sb, xs ++ [y], v1, rfl, rfl, by have := hsb.out.2.2; omega, by have := hsb.out.2.2; rw [List.length_append, List.length_singleton]; omega, ?_, H5.out⟩
              rw [HP2.out, if_pos trivial, HSY.out]
              show Option.map _ (if okS y then _ else _) = _
              rw [if_pos HOY.out, hsb.out.2.1]
              cases parseL lb <;> simp
            case measure =>
              have hlb : lb.length < sr.size := HC2.out.2 trivial
              show sb.size < sr.size
              have := hsb.out.2.2; omega
          · have HN : Hid (P0 = none) := by
              show _ = _
              rw [HP2.out, if_pos rfl, HSY.out]
              show Option.map _ (if okS y then _ else _) = _
              rw [if_neg hoy]; rfl
            rcases hrr with rfl | rfl | rfl
            · exact absurd (hr0.1 rfl) hoy
            · go_wp2_with fail
              rw [hw3.out]
              refine HCk.out.mono ?_
              rintro e w4 ⟨rfl, hb4⟩
              have H4 := Lib.hid (H3.out.1.trans (hb4.mono H3.out.1.size)); clear hb4
              go_wp2_with fail
              go_ret2
              exact ⟨_, _, rfl, .inr ⟨HN.out, rfl, rfl⟩, H4.out⟩
            · go_wp2_with fail
              rw [hw3.out]
              refine HCk.out.mono ?_
              rintro e w4 ⟨rfl, hb4⟩
              have H4 := Lib.hid (H3.out.1.trans (hb4.mono H3.out.1.size)); clear hb4
              go_wp2_with fail
              go_ret2
              exact ⟨_, _, rfl, .inr ⟨HN.out, rfl, rfl⟩, H4.out⟩
end Go.Proofs.YtbcdlbdljejlcaaDoor.Sc
set_option linter.unusedVariables false
set_option linter.unusedSimpArgs false
namespace Go.Proofs.YtbcdlbdljejlcaaDoor.Sc
open Go.RowKit Go.Proofs.YtbcdlbdljejlcaaDoor.B0 Go.Proofs.YtbcdlbdljejlcaaDoor.Ps Go.Proofs.YtbcdlbdljejlcaaDoorW.PrintWords Go.Proofs.YtbcdlbdljejlcaaDoor.Bld

def sEx : ByteArray := ⟨#[100, 101, 108, 105, 118, 101, 114, 32, 48, 32, 48, 97, 102, 102, 10, 101, 110, 100, 10]⟩
def lEx : List Stp := [⟨0, 0, 0, [10, 255]⟩, ⟨4, 0, 0, []⟩]
theorem ex_parse : parseL sEx.data.toList = some lEx := by decide +kernel
theorem ex_parse2 : parseL (⟨#[101, 110, 100]⟩ : ByteArray).data.toList = none := by decide +kernel
theorem ex_ends : script_Ends.f lEx = some true := by decide +kernel
theorem ex_bytes : tallyroomref01_Bytes.f [10, 255] [10, 255] = some true := by unfold tallyroomref01_Bytes.f; simp
/-- Parse at a text that parses. -/
theorem Parse_some (s : ByteArray) (xs : List Stp) (hp : parseL s.data.toList = some xs) (hs : s.size ≤ 4194304) (w : World) (h : LP w) :
    Calls Tryd.prog 7 #[.string s] w fun e w' => ∃ A c, e = .returned (.tuple #[.slice A xs.length c, .int .i64 0]) ∧ xs.length ≤ c ∧ PSL w' w.heap.size (.slice A xs.length c) xs ∧ Kd.C k32 w' A xs.length xs ∧ Below w.heap.size w w' :=
  (Parse_c s hs w h).mono fun e w' ⟨v, er, he, hc, hb⟩ => by
    rcases hc with ⟨ys, h1, rfl, h2⟩ | ⟨h1, _, _⟩
    · rw [hp] at h1
      obtain rfl := Option.some.inj h1
      obtain ⟨A, c, rfl, h3, h4⟩ := Kd.S_reads h2
      exact ⟨A, c, he, h3, h2, h4, hb⟩
    · rw [hp] at h1; cases h1
theorem Parse_none (s : ByteArray) (hp : parseL s.data.toList = none) (hs : s.size ≤ 4194304) (w : World) (h : LP w) :
    Calls Tryd.prog 7 #[.string s] w fun e w' => e = .returned (.tuple #[.slice none 0 0, .int .i64 11]) ∧ Below w.heap.size w w' :=
  (Parse_c s hs w h).mono fun e w' ⟨v, er, he, hc, hb⟩ => by
    rcases hc with ⟨ys, h1, _⟩ | ⟨_, rfl, rfl⟩
    · rw [hp] at h1; cases h1
    · exact ⟨he, hb⟩

theorem lit_C (w : World) (xs : List Int) (hl : xs.length ≤ 1000000) : Kd.C (Kd.int .u8) (w.alloc (.cells (xs.map (Value.int .u8)).toArray 5)) (some ⟨w.heap.size, 0, none⟩) xs.length xs := by
  refine Kd.C_of_reads (enc := Value.int .u8) (d := 0) (h1 := fun _ => rfl) ⟨rfl, ?_, fun _ => ⟨_, rfl, fun j hj => ?_⟩⟩
  · omega
  · rw [show (⟨w.heap.size, 0, none⟩ : Addr).add j = ⟨w.heap.size, j, none⟩ from (by simp [Addr.add]; omega), World.cell?_alloc_at _ _ _ _ rfl, List.getElem?_toArray, List.getElem?_map, List.getElem?_eq_getElem hj, List.getD_eq_getElem?_getD, List.getElem?_eq_getElem hj]; rfl

set_option maxHeartbeats 4000000 in
set_option maxRecDepth 100000 in
theorem alive29 (w : World) (h : LP w) : Calls Tryd.prog 6 #[] w fun e w' => e = .returned (.bool true) ∧ Below w.heap.size w w' := by
  have HL := Lib.hid h; clear h
  have HP1 := Lib.hid (Parse_some sEx lEx ex_parse (by decide) w HL.out)
  go_enter Tryd.func6, Tryd.ntmps6
  go_wp2_with fail
  refine HP1.out.mono ?_
  rintro e w1 ⟨A, c, rfl, hc, _, hC, hb⟩
  have HC := Lib.hid hC; have HB := Lib.hid hb; have HCc := Lib.hid hc
  clear hC hb hc HP1
  have HL1 : Hid (LP w1) := HL.out.below HB.out
  go_wp2_with fail
  refine (Parse_none _ ex_parse2 (by decide) w1 HL1.out).mono ?_
  rintro e w2 ⟨rfl, hb2⟩
  have HB2 : Hid (Below w.heap.size w w2) := HB.out.trans (hb2.mono HB.out.size)
  have HC2 := Lib.hid (Kd.C_below HC.out hb2)
  clear hb2 HC HB
  obtain ⟨ad, A3, c3, rfl, d0, d1, d2, d3, hl3, hi3⟩ := at_T32 HC2.out 0 (by decide) (by decide)
  have d3' : w2.cell? ⟨ad.block, ad.off + 3, none⟩ = some (.slice A3 2 c3) := by simpa [rd_T32, lEx, Addr.add] using d3
  clear d0 d1 d2 d3
  have hi3' : Kd.C (Kd.int .u8) w2 A3 2 [10, 255] := hi3
  have HI := Lib.hid hi3'; have HL3 : Hid (2 ≤ c3) := hl3
  clear hi3 hi3' hl3
  go_wp2_with fail
  obtain ⟨w3, hw3⟩ : ∃ w3, Hid (w2.alloc (.cells #[.int .u8 10, .int .u8 255] 5) = w3) := ⟨_, Lib.hid rfl⟩
  have hb3 : Below w2.heap.size w2 w3 := by rw [← hw3.out]; exact (Below.refl _ _).alloc (Nat.le_refl _) _
  have C2 : Hid (Kd.C (Kd.int .u8) w3 (some ⟨w2.heap.size, 0, none⟩) 2 [10, 255]) := by
    rw [← hw3.out]; exact lit_C w2 [10, 255] (by decide)
  have H3 : Hid (Below w.heap.size w w3 ∧ Kd.C (Kd.int .u8) w3 A3 2 [10, 255] ∧ Kd.C k32 w3 (some ad) lEx.length lEx) := ⟨HB2.out.trans (hb3.mono HB2.out.size), Kd.C_below HI.out hb3, Kd.C_below HC2.out hb3⟩
  clear hb3
  rw [hw3.out]
  refine (tallyroomref01_Bytes.calls A3 c3 [10, 255] (some ⟨w2.heap.size, 0, none⟩) 2 [10, 255] true w3 H3.out.2.1 HL3.out C2.out (by decide) ex_bytes).mono ?_
  rintro e w4 ⟨rfl, hd4⟩
  have H4 : Hid (Below w.heap.size w w4 ∧ Kd.C k32 w4 (some ad) lEx.length lEx) := ⟨H3.out.1.trans (hd4.below.mono H3.out.1.size), Kd.C_below H3.out.2.2 hd4.below⟩
  clear hd4
  go_wp2_with fail
  refine (script_Ends.calls (some ad) c lEx true w4 H4.out.2 HCc.out ex_ends).mono ?_
  rintro e w5 ⟨rfl, hd5⟩
  have H5 : Hid (Below w.heap.size w w5) := H4.out.1.trans (hd5.below.mono H4.out.1.size)
  clear hd5
  go_wp2_with fail
  go_ret
  exact ⟨rfl, H5.out⟩
end Go.Proofs.YtbcdlbdljejlcaaDoor.Sc
set_option linter.unusedVariables false
set_option linter.unusedSimpArgs false
namespace Go.Proofs.YtbcdlbdljejlcaaDoor.Sc
open Go.RowKit Go.Proofs.YtbcdlbdljejlcaaDoor.B0 Go.Proofs.YtbcdlbdljejlcaaDoor.Ps Go.Proofs.YtbcdlbdljejlcaaDoorW.PrintWords Go.Proofs.YtbcdlbdljejlcaaDoor.Bld

theorem tick_only : parseL (sTick ++ [] ++ [10]) = some [⟨1, 0, 0, []⟩] := by decide +kernel
/-- what stands behind 'tick' on its line is not read. -/
theorem tick_odd (odd : List UInt8) (xs : List Stp) (h : parseL (sTick ++ odd ++ [10]) = some xs) : odd = [] ∨ odd.head? = some 10 := by
  obtain ⟨h1, h2⟩ := parseL_print _ _ h
  cases xs with
  | nil => simp [printL, sTick] at h1
  | cons x xs =>
    have hx := (h2 x List.mem_cons_self).1
    have h3 : lineL x ++ 10 :: printL xs = sTick ++ (odd ++ [10]) := by
      have e : printL (x :: xs) = lineL x ++ 10 :: printL xs := by simp [printL]
      rw [← e, h1, List.append_assoc]
    have h4 : x.f0 = 1 := by
      rcases hx with ⟨h, _⟩ | ⟨h | h | h, _⟩ | ⟨h, _⟩ <;> first | exact h | (exfalso; unfold lineL at h3; rw [h] at h3; simp [sTick, sDeliver, sFlush, sEnd, sClose] at h3)
    have h5 : lineL x = sTick := by unfold lineL; rw [h4]; rfl
    rw [h5] at h3
    have h6 := List.append_cancel_left h3
    cases odd with
    | nil => exact .inl rfl
    | cons c r => right; simp at h6; simp [h6.1]
end Go.Proofs.YtbcdlbdljejlcaaDoor.Sc
set_option linter.unusedVariables false
set_option linter.unusedSimpArgs false
namespace Go.Proofs.YtbcdlbdljejlcaaDoor.Sc
open Go.RowKit Go.Proofs.YtbcdlbdljejlcaaDoor.B0 Go.Proofs.YtbcdlbdljejlcaaDoor.Ps Go.Proofs.YtbcdlbdljejlcaaDoorW.PrintWords Go.Proofs.YtbcdlbdljejlcaaDoor.Bld

abbrev RStp := S35
/-- the document's as the program's. -/
def toS (x : RStp) : Stp := ⟨x.f0, x.f1, x.f2, x.f3⟩
def rstepV (x : RStp) (v : Value) : Value := .agg #[.int .i64 x.f0, .int .i64 x.f1, .int .i64 x.f2, v]
theorem natbeq (n : Nat) : ((n : Int) == 0) = (n == 0) := by rw [Bool.eq_iff_iff, beq_iff_eq, beq_iff_eq]; omega
def rcB (b : Bool) : Value := .int .i64 (if b then 0 else 1)

set_option maxHeartbeats 8000000 in
set_option maxRecDepth 100000 in
theorem rchk0 (w : World) (a b : Int) (A : Option Addr) (n c : Nat) (hn : n ≤ 3000) (b1 b2 b3 : Bool) (h1 : decide (0 ≤ a) = b1) (h2 : decide (a ≤ 15) = b2) (h3 : (b == 0) = b3) :
    Calls Tryd.prog 10 #[.agg #[.int .i64 0, .int .i64 a, .int .i64 b, .slice A n c]] w fun e w' => e = .returned (rcB (b1 && b2 && b3)) ∧ Below w.heap.size w w' := by
  have hb := Lib.hid ((Below.refl w.heap.size w).alloc (Nat.le_refl _) (.cells #[.int .i64 0, .int .i64 a, .int .i64 b, .slice A n c] 35))
  have hl : decide ((65536 : Int) < (n : Int)) = false := decide_eq_false (by omega)
  have hl2 : decide (65536 < n) = false := decide_eq_false (by omega)
  cases b1 <;> cases b2 <;> cases b3 <;>
  · go_enter Tryd.func10, Tryd.ntmps10
    go_wp2_with fail
    go_ret
    exact ⟨rfl, hb.out⟩
set_option maxHeartbeats 8000000 in
set_option maxRecDepth 100000 in
theorem rchk134 (w : World) (k a b : Int) (hk : k = 1 ∨ k = 3 ∨ k = 4) (A : Option Addr) (n c : Nat) (hn : n ≤ 3000) (b1 b2 b3 : Bool) (h1 : (a == 0) = b1) (h2 : (b == 0) = b2) (h3 : ((n : Int) == 0) = b3) (h4 : (n == 0) = b3) :
    Calls Tryd.prog 10 #[.agg #[.int .i64 k, .int .i64 a, .int .i64 b, .slice A n c]] w fun e w' => e = .returned (rcB (b1 && b2 && b3)) ∧ Below w.heap.size w w' := by
  have hb := Lib.hid ((Below.refl w.heap.size w).alloc (Nat.le_refl _) (.cells #[.int .i64 k, .int .i64 a, .int .i64 b, .slice A n c] 35))
  have hl : decide ((65536 : Int) < (n : Int)) = false := decide_eq_false (by omega)
  have hl2 : decide (65536 < n) = false := decide_eq_false (by omega)
  rcases hk with rfl | rfl | rfl <;> cases b1 <;> cases b2 <;> cases b3 <;>
  · go_enter Tryd.func10, Tryd.ntmps10
    go_wp2_with fail
    go_ret
    exact ⟨rfl, hb.out⟩
set_option maxHeartbeats 8000000 in
set_option maxRecDepth 100000 in
theorem rchk2 (w : World) (a b : Int) (A : Option Addr) (n c : Nat) (hn : n ≤ 3000) (b1 b2 b3 b4 : Bool) (h1 : (a == 0) = b1) (h2 : decide (0 ≤ b) = b2) (h3 : decide (b ≤ 63) = b3) (h4 : ((n : Int) == 0) = b4) (h5 : (n == 0) = b4) :
    Calls Tryd.prog 10 #[.agg #[.int .i64 2, .int .i64 a, .int .i64 b, .slice A n c]] w fun e w' => e = .returned (rcB (b1 && b2 && b3 && b4)) ∧ Below w.heap.size w w' := by
  have hb := Lib.hid ((Below.refl w.heap.size w).alloc (Nat.le_refl _) (.cells #[.int .i64 2, .int .i64 a, .int .i64 b, .slice A n c] 35))
  have hl : decide ((65536 : Int) < (n : Int)) = false := decide_eq_false (by omega)
  have hl2 : decide (65536 < n) = false := decide_eq_false (by omega)
  cases b1 <;> cases b2 <;> cases b3 <;> cases b4 <;>
  · go_enter Tryd.func10, Tryd.ntmps10
    go_wp2_with fail
    go_ret
    exact ⟨rfl, hb.out⟩
set_option maxHeartbeats 8000000 in
set_option maxRecDepth 100000 in
theorem rchkX (w : World) (k a b : Int) (A : Option Addr) (n c : Nat) (h0 : (k == 0) = false) (h1 : (k == 1) = false) (h2 : (k == 2) = false) (h3 : (k == 3) = false) (h4 : (k == 4) = false) :
    Calls Tryd.prog 10 #[.agg #[.int .i64 k, .int .i64 a, .int .i64 b, .slice A n c]] w fun e w' => e = .returned (rcB false) ∧ Below w.heap.size w w' := by
  have hb := Lib.hid ((Below.refl w.heap.size w).alloc (Nat.le_refl _) (.cells #[.int .i64 k, .int .i64 a, .int .i64 b, .slice A n c] 35))
  go_enter Tryd.func10, Tryd.ntmps10
  go_wp2_with fail
  go_ret
  exact ⟨rfl, hb.out⟩
/-- the document's Check, at steps that are not long. -/
theorem RCheck_c (x : RStp) (hl : x.f3.length ≤ 3000) (A : Option Addr) (c : Nat) (w : World) :
    ∃ r : Int, (r = 0 ∨ r = 1) ∧ (r = 0 ↔ okS (toS x)) ∧ Calls Tryd.prog 10 #[rstepV x (.slice A x.f3.length c)] w fun e w' => e = .returned (.int .i64 r) ∧ Below w.heap.size w w' := by
  obtain ⟨k, a, b, l⟩ := x
  have hl0 : l = [] ↔ l.length = 0 := ⟨fun h => by rw [h]; rfl, List.eq_nil_of_length_eq_zero⟩
  have fin : ∀ (q : Bool) (p : Prop), (q = true ↔ p) → Calls Tryd.prog 10 #[.agg #[.int .i64 k, .int .i64 a, .int .i64 b, .slice A l.length c]] w (fun e w' => e = .returned (rcB q) ∧ Below w.heap.size w w') →
      ∃ r : Int, (r = 0 ∨ r = 1) ∧ (r = 0 ↔ p) ∧ Calls Tryd.prog 10 #[.agg #[.int .i64 k, .int .i64 a, .int .i64 b, .slice A l.length c]] w fun e w' => e = .returned (.int .i64 r) ∧ Below w.heap.size w w' := by
    intro q p hqp h
    refine ⟨if q then 0 else 1, by cases q <;> simp, ?_, h⟩
    rw [← hqp]; cases q <;> simp
  have hl' : l.length ≤ 3000 := hl
  by_cases k0 : k = 0
  · subst k0
    refine fin _ _ ?_ (rchk0 w a b A l.length c hl _ _ _ rfl rfl rfl)
    dsimp only [okS, toS]
    simp only [hl0, Bool.and_eq_true, decide_eq_true_iff, beq_iff_eq, true_and]
    omega
  by_cases k2 : k = 2
  · subst k2
    refine fin _ _ ?_ (rchk2 w a b A l.length c hl _ _ _ (l.length == 0) rfl rfl rfl (natbeq _) rfl)
    dsimp only [okS, toS]
    simp only [hl0, Bool.and_eq_true, decide_eq_true_iff, beq_iff_eq, true_and]
    omega
  by_cases k1 : k = 1 ∨ k = 3 ∨ k = 4
  · refine fin _ _ ?_ (rchk134 w k a b k1 A l.length c hl _ _ (l.length == 0) rfl rfl (natbeq _) rfl)
    dsimp only [okS, toS]
    simp only [hl0, Bool.and_eq_true, decide_eq_true_iff, beq_iff_eq, true_and]
    omega
  · refine fin _ _ ?_ (rchkX w k a b A l.length c (beq_eq_false_iff_ne.2 k0) (beq_eq_false_iff_ne.2 (fun h => k1 (.inl h))) (beq_eq_false_iff_ne.2 k2) (beq_eq_false_iff_ne.2 (fun h => k1 (.inr (.inl h)))) (beq_eq_false_iff_ne.2 (fun h => k1 (.inr (.inr h)))))
    dsimp only [okS, toS]
    simp only [hl0]
    constructor
    · intro h; cases h
    · intro h; omega
end Go.Proofs.YtbcdlbdljejlcaaDoor.Sc
