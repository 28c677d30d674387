/- script: Check, line, as Calls. -/
import Derived.Test.YtbcdlbdljejlcaaDoorSc7
import Derived.Lib.ItoaLen
set_option linter.unusedVariables false
set_option linter.unusedSimpArgs false
namespace Go.Proofs.YtbcdlbdljejlcaaDoor.Sc
open Go.RowKit Go.Proofs.YtbcdlbdljejlcaaDoor.B0 Go.Proofs.YtbcdlbdljejlcaaDoor.Ps Go.Proofs.YtbcdlbdljejlcaaDoorW.PrintWords Go.Proofs.YtbcdlbdljejlcaaDoorW.PrintLast Go.Proofs.YtbcdlbdljejlcaaDoor.Bld

theorem cat_eq (a b : ByteArray) (l : List UInt8) (h : a.data.toList ++ b.data.toList = l) : a ++ b = ⟨l.toArray⟩ := by
  subst h
  apply ByteArray.ext
  simp
theorem Check_c (x : Stp) (A : Option Addr) (c : Nat) (w : World) (hr : Kd.C (Kd.int .u8) w A x.f3.length x.f3) (hc : x.f3.length ≤ c) : ∃ r, (r = 0 ∨ r = 1 ∨ r = 2) ∧ (r = 0 ↔ okS x) ∧
    Calls Tryd.prog 9 #[stepV x (.slice A x.f3.length c)] w fun e w' => e = .returned (.int .i64 r) ∧ Below w.heap.size w w' := by
  obtain ⟨r, h1, h2, h3⟩ := check_f x
  exact ⟨r, h2, h3, script_Check.calls 10 x.f0 x.f1 x.f2 A c x.f3 r w hr hc h1⟩

set_option maxHeartbeats 4000000 in
set_option maxRecDepth 100000 in
theorem line_a (x : Stp) (hx : okS x) (h0 : x.f0 ≠ 0) (v : Value) (hv : v.cells = #[v]) (w : World) (h : LP w) :
    Calls Tryd.prog 18 #[stepV x v] w fun e w' => e = .returned (strV (lineL x)) ∧ Below w.heap.size w w' := by
  have HL := Lib.hid h; clear h
  obtain ⟨a, b, c, l⟩ := x
  simp only [okS] at hx
  simp only at h0
  rcases hx with ⟨h, _⟩ | ⟨h, rfl, rfl, rfl⟩ | ⟨rfl, rfl, h1, h2, rfl⟩
  · exact absurd h h0
  · rcases h with rfl | rfl | rfl
    · unfold stepV
      go_enter Tryd.func18, Tryd.ntmps18
      go_wp2_with fail
      go_ret
      exact ⟨rfl, (Below.refl _ _).alloc (Nat.le_refl _) _⟩
    · unfold stepV
      go_enter Tryd.func18, Tryd.ntmps18
      go_wp2_with fail
      go_ret
      exact ⟨rfl, (Below.refl _ _).alloc (Nat.le_refl _) _⟩
    · unfold stepV
      go_enter Tryd.func18, Tryd.ntmps18
      go_wp2_with fail
      go_ret
      exact ⟨rfl, (Below.refl _ _).alloc (Nat.le_refl _) _⟩
  · unfold stepV
    go_enter Tryd.func18, Tryd.ntmps18
    go_wp2_with fail
    refine (Itoa_i c (by omega) (by omega) _ (HL.out.below ((Below.refl _ _).alloc (Nat.le_refl _) _)).1).mono ?_
    rintro e w1 ⟨rfl, hb⟩
    have HB : Hid (Below w.heap.size w w1) := ((Below.refl _ _).alloc (Nat.le_refl _) _).trans (hb.mono (by rw [show (w.alloc _).heap.size = w.heap.size + 1 from Array.size_push ..]; omega))
    clear hb
    obtain ⟨sb, hsb⟩ : ∃ sb : ByteArray, Hid (sb = ⟨(Lib.itoa c).toArray⟩ ∧ sb.size ≤ 21) := ⟨_, rfl, Lib.itoa_length_le c (by omega) (by omega)⟩
    rw [← hsb.out.1]
    have q1 : ByteArray.size ⟨#[99, 108, 111, 115, 101, 32]⟩ + sb.size ≤ 9223372036854775807 := by have := hsb.out.2; show 6 + sb.size ≤ _; omega
    have q2 : 6 + sb.size ≤ 9223372036854775807 := q1
    go_wp2_with fail
    go_ret
    refine ⟨?_, HB.out⟩
    rw [hsb.out.1]
    have e : (⟨#[99, 108, 111, 115, 101, 32]⟩ : ByteArray) ++ ⟨(Lib.itoa c).toArray⟩ = ⟨(lineL ⟨2, 0, c, []⟩).toArray⟩ := cat_eq _ _ _ rfl
    show Ending.returned (.string _) = .returned (.string _)
    rw [← e]

def T18_3 : Bool × List (List Nat × List Nat) := (true, [([], []), ([0], [0]), ([1], [1]), ([2], [2]), ([3], [3]), ([], []), ([5], [5]), ([6, 2], [6]), ([4, 7], [4, 7]), ([8, 7, 0, 1, 2, 3, 4, 5, 6, 7, 8], [8])])
def B18_3 : List Nat := [0, 1, 3, 7, 15, 0, 32, 103, 255, 511]
theorem tab18_3 : rtab .any (opsOf Tryd.f18 3) = T18_3 := by kernel_rfl
theorem bits18_3 : waitsOk T18_3.2 B18_3 = true := by kernel_rfl
set_option maxHeartbeats 4000000 in
set_option maxRecDepth 100000 in
theorem line_b (n : Int) (l : List Int) (h1 : 0 ≤ n) (h2 : n ≤ 15) (hl : l.length ≤ 65536) (hi : isB l) (A : Option Addr) (cp : Nat) (w : World) (h : LP w) (hr : ReadsInt w .u8 A l.length l) :
    Calls Tryd.prog 18 #[stepV ⟨0, n, 0, l⟩ (.slice A l.length cp)] w fun e w' => e = .returned (strV (lineL ⟨0, n, 0, l⟩)) ∧ Below w.heap.size w w' := by
  have HL := Lib.hid h; clear h
  have HR := Lib.hid hr; clear hr
  have HI := Lib.hid hi; clear hi
  unfold stepV
  go_enter Tryd.func18, Tryd.ntmps18
  go_wp2_with fail
  have BK : Hid ((w.alloc (.cells #[.int .i64 0, .int .i64 n, .int .i64 0, .slice A l.length cp] 32)).heap[w.heap.size]? = some (.cells #[.int .i64 0, .int .i64 n, .int .i64 0, .slice A l.length cp] 32 (0, 0))) := Lib.hid (Array.getElem?_push_size ..)
  have B1 : Hid (Below w.heap.size w (w.alloc (.cells #[.int .i64 0, .int .i64 n, .int .i64 0, .slice A l.length cp] 32))) := (Below.refl _ _).alloc (Nat.le_refl _) _
  generalize hgw : w.alloc (.cells #[.int .i64 0, .int .i64 n, .int .i64 0, .slice A l.length cp] 32) = w1 at BK B1 ⊢
  clear hgw
  have EC : Hid (∀ w', Below w1.heap.size w1 w' → w'.cell? ⟨w.heap.size, 1, none⟩ = some (.int .i64 n) ∧ w'.cell? ⟨w.heap.size, 3, none⟩ = some (.slice A l.length cp)) := fun w' h => ⟨pw_cell_below h (by rw [Lib.cell_of_heap BK.out]; rfl), pw_cell_below h (by rw [Lib.cell_of_heap BK.out]; rfl)⟩
  have HL1 : Hid (LP w1) := HL.out.below B1.out
  have HR1 : Hid (ReadsInt w1 .u8 A l.length l) := HR.out.below B1.out
  obtain ⟨sb, hsb⟩ : ∃ sb : ByteArray, Hid (sb = ⟨(Lib.itoa n).toArray⟩ ∧ sb.size ≤ 21) := ⟨_, rfl, Lib.itoa_length_le n (by omega) (by omega)⟩
  obtain ⟨sh, hsh⟩ : ∃ sh : ByteArray, Hid (strV (hexL l) = .string sh ∧ sh = ⟨(hexL l).toArray⟩ ∧ sh.size ≤ 200000) := ⟨_, rfl, rfl, by
    show (hexL l).length ≤ _
    unfold hexL
    split
    · decide
    · have := (unL_hexR l HI.out).2.2; omega⟩
  have n1 : ¬ (9223372036854775807 < 8 + sb.size) := by have := hsb.out.2; omega
  have n2 : ¬ (9223372036854775807 < 8 + sb.size + 1) := by have := hsb.out.2; omega
  have n3 : ¬ (9223372036854775807 < 8 + sb.size + 1 + sh.size) := by have := hsb.out.2; have := hsh.out.2.2; omega
  refine start_ (n := 10) (S := (fun w' => Below w1.heap.size w1 w')) (ds := []) #[false, false, false, false, false, false, false, false, false, false] (by kernel_rfl) (by rfl) (by rfl) (Below_drewN (Below.refl _ _) 1) (fun hHeld => ?_); refine with_tabW tab18_3 bits18_3 (fun HT_ HW_ => ?_)
  refine pure_ (i := 0) (N := some 7) (v := ?_) (a' := ?_) #[true, false, false, false, false, false, false, false, false, false] rfl rfl (any_of HT_.out (by kernel_rfl)) (fun _ _ _ h => h) (Or.inl ⟨by rfl, ?_⟩) ?_ ?_
  rotate_left
  · intro w'
    go_simp
    with_reducible rfl
  rotate_left
  · simp only [Act.put, List.setIfInBounds_toArray, List.set_cons_zero, List.set_cons_succ]
    rfl
  refine take_ (i := 1) (N := some 8) (v := ?_) (a' := ?_) #[true, true, false, false, false, false, false, false, false, false] rfl rfl (take_ofW HT_.out HW_.out (by kernel_rfl)) (fun _ _ _ h => h) (Or.inl ⟨by rfl, ?_⟩) hHeld ?_ ?_
  rotate_left
  · rintro w' hS; obtain ⟨s1, s3⟩ := EC.out w' hS
    go_simp
    with_reducible rfl
  rotate_left
  · simp only [Act.put, List.setIfInBounds_toArray, List.set_cons_zero, List.set_cons_succ]
    rfl
  refine pure_ (i := 5) (N := some 12) (v := ?_) (a' := ?_) #[true, true, false, false, false, true, false, false, false, false] rfl rfl (any_of HT_.out (by kernel_rfl)) (fun _ _ _ h => h) (Or.inl ⟨by rfl, ?_⟩) ?_ ?_
  rotate_left
  · intro w'
    go_simp
    with_reducible rfl
  rotate_left
  · simp only [Act.put, List.setIfInBounds_toArray, List.set_cons_zero, List.set_cons_succ]
    rfl
  refine take_ (i := 6) (N := some 13) (v := ?_) (a' := ?_) #[true, true, false, false, false, true, true, false, false, false] rfl rfl (take_ofW HT_.out HW_.out (by kernel_rfl)) (fun _ _ _ h => h) (Or.inl ⟨by rfl, ?_⟩) hHeld ?_ ?_
  rotate_left
  · rintro w' hS; obtain ⟨s1, s3⟩ := EC.out w' hS
    go_simp
    with_reducible rfl
  rotate_left
  · simp only [Act.put, List.setIfInBounds_toArray, List.set_cons_zero, List.set_cons_succ]
    rfl
  refine one_ (i := 2) (N := some 9) #[true, true, true, false, false, true, true, false, false, false] rfl rfl (one_of HT_.out (by kernel_rfl)) (by decide) (fun K hK => ?_)
  rw [if_pos (by rfl)]
  go_simp
  go_at_call 27; refine (Itoa_i n (by omega) (by omega) _ (HL1.out.below hHeld).1).mono ?_; rintro e w2 ⟨rfl, hb⟩; rw [← hsb.out.1]
  refine hK.out _ _ (hHeld.trans (hb.mono hHeld.size)) (fun hHeld => ?_)
  clear hK K
  refine pure_ (i := 3) (N := some 10) (v := ?_) (a' := ?_) #[true, true, true, true, false, true, true, false, false, false] rfl rfl (any_of HT_.out (by kernel_rfl)) (fun _ _ _ h => h) (Or.inl ⟨by rfl, ?_⟩) ?_ ?_
  rotate_left
  · intro w'
    go_simp
    with_reducible rfl
  rotate_left
  · simp only [Act.put, List.setIfInBounds_toArray, List.set_cons_zero, List.set_cons_succ]
    rfl
  refine pure_ (i := 4) (N := some 11) (v := ?_) (a' := ?_) #[true, true, true, true, true, true, true, false, false, false] rfl rfl (any_of HT_.out (by kernel_rfl)) (fun _ _ _ h => h) (Or.inl ⟨by rfl, ?_⟩) ?_ ?_
  rotate_left
  · intro w'
    go_simp
    with_reducible rfl
  rotate_left
  · simp only [Act.put, List.setIfInBounds_toArray, List.set_cons_zero, List.set_cons_succ]
    rfl
  refine one_ (i := 7) (N := some 14) #[true, true, true, true, true, true, true, true, false, false] rfl rfl (one_of HT_.out (by kernel_rfl)) (by decide) (fun K hK => ?_)
  rw [if_pos (by rfl)]
  go_simp
  go_at_call 28; refine (hex_c _ A cp l (HR1.out.below hHeld) HI.out (by omega)).mono ?_; rintro e w3 ⟨rfl, hb⟩; rw [hsh.out.1]; have HW3 := Lib.hid (hHeld.trans (hb.mono hHeld.size))
  refine hK.out _ _ (hHeld.trans (hb.mono hHeld.size)) (fun hHeld => ?_)
  clear hK K
  refine pure_ (i := 8) (N := some 15) (v := ?_) (a' := ?_) #[true, true, true, true, true, true, true, true, true, false] rfl rfl (any_of HT_.out (by kernel_rfl)) (fun _ _ _ h => h) (Or.inl ⟨by rfl, ?_⟩) ?_ ?_
  rotate_left
  · intro w'
    go_simp
    with_reducible rfl
  rotate_left
  · simp only [Act.put, List.setIfInBounds_toArray, List.set_cons_zero, List.set_cons_succ]
    rfl
  refine pure_ (i := 9) (N := some 2) (v := ?_) (a' := ?_) #[true, true, true, true, true, true, true, true, true, true] rfl rfl (any_of HT_.out (by kernel_rfl)) (fun _ _ _ h => h) (Or.inl ⟨by rfl, ?_⟩) ?_ ?_
  rotate_left
  · intro w'
    go_simp
    with_reducible rfl
  rotate_left
  · simp only [Act.put, List.setIfInBounds_toArray, List.set_cons_zero, List.set_cons_succ]
    rfl
  refine done_ (done_of HT_.out (by kernel_rfl)) ?_
  clear HT_ HW_ hHeld
  go_wp2_with fail
  go_ret
  refine ⟨?_, B1.out.trans (HW3.out.mono B1.out.size)⟩
  show Ending.returned (.string _) = .returned (.string _)
  rw [hsb.out.1, hsh.out.2.1]
  congr 2
  apply ByteArray.ext
  simp [lineL, sDeliver]
/-- line, of a step that may be. -/
theorem line_c (x : Stp) (hx : okS x) (hi : isB x.f3) (A : Option Addr) (cp : Nat) (w : World) (h : LP w) (hr : ReadsInt w .u8 A x.f3.length x.f3) :
    Calls Tryd.prog 18 #[stepV x (.slice A x.f3.length cp)] w fun e w' => e = .returned (strV (lineL x)) ∧ Below w.heap.size w w' := by
  by_cases h0 : x.f0 = 0
  · obtain ⟨a, b, c, l⟩ := x
    simp only at h0; subst h0
    simp only [okS] at hx
    rcases hx with ⟨_, h1, h2, rfl, h3⟩ | ⟨h, _⟩ | ⟨h, _⟩
    · exact line_b b l h1 h2 h3 hi A cp w h hr
    · omega
    · omega
  · exact line_a x hx h0 _ rfl w h
end Go.Proofs.YtbcdlbdljejlcaaDoor.Sc
