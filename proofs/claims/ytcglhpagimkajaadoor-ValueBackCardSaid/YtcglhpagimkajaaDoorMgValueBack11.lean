/- the two printed value Gets are valG. No memory in it. the printed value.Get is valG. No memory in it. the two value Gets at bytes that are read. a value's bytes: how many, and that they are bytes; value.Get at a cut. ValueBack: the law's walk. -/
import Derived.Test.YtcglhpagimkajaaDoorMgValueBack9
import Derived.Test.YtcglhpagimkajaaDoorMgValueBack10
import Derived.Test.YtcglhpagimkajaaDoorMgValueBack8
import Derived.Lib.SliceRun
set_option linter.unusedVariables false
set_option linter.unusedSimpArgs false
namespace Go.Proofs.YtcglhpagimkajaaDoor.Vl
open Go.RowKit Go.Proofs.YtcglhpagimkajaaDoor.B0 Go.Proofs.YtcglhpagimkajaaDoor.Pv Go.Proofs.YtcglhpagimkajaaDoorW.PrintWords

def partsV (r : Va × Int × Int) : Int × Int × ByteArray × Int × Int := (r.1.k, r.1.n, r.1.s, r.2.1, r.2.2)
theorem rval_j0 (b : Int) (bs : List Int) (h13 : b = 1 ∨ b = 3) (hb : isBytes bs) (hl : bs.length < 900000) : tallyroomref04_Get.j0 (2 * bs.length + 2) (b :: bs) false = some (partsV (valG (b :: bs))) := by
  have hB := getG_bound bs 0 0 (by decide) (by decide)
  have hlc : ((b :: bs).length : Int) = (bs.length : Int) + 1 := by simp
  have hr0 : rd (b :: bs) 0 = b := rfl
  rw [show 2 * bs.length + 2 = 2 * bs.length + 1 + 1 from rfl, tallyroomref04_Get.j0, if_neg (by decide), if_pos (by omega), show (b :: bs).drop 1 = bs from rfl, rget_f bs hb (by omega), Option.bind_some, hr0, valG, if_neg (show ¬ b = 2 by omega), if_neg (show ¬ (b ≠ 1 ∧ b ≠ 3) by omega)]
  generalize getG bs 0 0 = g at *
  obtain ⟨gn, gk, ge⟩ := g
  simp only at hB ⊢
  obtain ⟨m, rfl⟩ : ∃ m : Nat, gn = (m : Int) := ⟨gn.toNat, by omega⟩
  by_cases he : ge = 0
  · subst he
    rw [if_pos rfl, if_pos (by omega), if_neg (show ¬ ((0 : Int) ≠ 0) by decide)]
    by_cases h1 : b = 1
    · rw [if_pos h1, if_pos h1, Int.toNat_natCast, Int.tmod_eq_emod_of_nonneg (by omega), Int.tdiv_eq_ediv_of_nonneg (by omega)]
      have e1 : wrap64 (IntKind.u64.wrap ((m : Int) / 2)) = ((m / 2 : Nat) : Int) := by rw [IntKind.wrap_u64]; unfold wrap64; omega
      have e2 : wrap64 (gk + 1) = gk + 1 := by unfold wrap64; omega
      rw [e1, e2]
      unfold zagN partsV
      by_cases hm : m % 2 = 1
      · have e3 : wrap64 ((wrap64 (-((m / 2 : Nat) : Int))) - 1) = -((m / 2 : Nat) : Int) - 1 := by unfold wrap64; omega
        rw [if_pos (show (m : Int) % 2 = 1 by omega), if_pos hm, e3]
        rfl
      · rw [if_neg (show ¬ (m : Int) % 2 = 1 by omega), if_neg hm]
        rfl
    · rw [if_neg h1, if_neg h1]
      by_cases h4 : (4096 : Int) < m
      · rw [if_pos (show (m : Int) > 4096 from h4), if_pos h4]; rfl
      · have e1 : wrap64 (1 + gk) = 1 + gk := by unfold wrap64; omega
        have e2 : wrap64 (m : Int) = m := by unfold wrap64; omega
        have e3 : wrap64 (1 + gk + (m : Int)) = 1 + gk + m := by unfold wrap64; omega
        rw [if_neg (show ¬ (m : Int) > 4096 from h4), if_neg h4, e1, e2, e3]
        by_cases h5 : (bs.length : Int) < gk + m
        · rw [if_pos (show ((b :: bs).length : Int) < 1 + gk + m by omega), if_pos h5]; rfl
        · rw [if_neg (show ¬ ((b :: bs).length : Int) < 1 + gk + m by omega), if_neg h5, if_pos (show (0 : Int) ≤ 1 + gk by omega), if_pos (show 1 + gk ≤ 1 + gk + (m : Int) by omega), if_pos (show 1 + gk + (m : Int) ≤ ((b :: bs).length : Int) by omega)]
          unfold partsV
          have e4 : ((b :: bs).take (1 + gk + (m : Int)).toNat).drop (1 + gk).toNat = (bs.drop gk.toNat).take (m : Int).toNat := by
            rw [show (1 + gk + (m : Int)).toNat = (gk.toNat + m) + 1 by omega, show (1 + gk).toNat = gk.toNat + 1 by omega, List.take_succ_cons, List.drop_succ_cons, List.drop_take, Int.toNat_natCast, Nat.add_sub_cancel_left]
          rw [e4]
  · rw [if_neg he, if_pos he]; rfl
theorem rval_f (l : List Int) (hb : isBytes l) (hl : l.length < 900000) : tallyroomref04_Get.f (2 * l.length) l = some (partsV (valG l)) := by
  cases l with
  | nil => rfl
  | cons b bs =>
    have hlc : ((b :: bs).length : Int) = (bs.length : Int) + 1 := by simp
    have hl2 : bs.length < 900000 := by rw [List.length_cons] at hl; omega
    have hb2 : isBytes bs := fun x hx => hb x (List.mem_cons_of_mem _ hx)
    have hf : 2 * (b :: bs).length = 2 * bs.length + 2 := by rw [List.length_cons]; omega
    rw [tallyroomref04_Get.f, if_neg (show ¬ ((b :: bs).length : Int) = 0 by omega), if_pos (show 0 < ((b :: bs).length : Int) by omega), show rd (b :: bs) 0 = b from rfl, hf]
    by_cases h2 : b = 2
    · rw [if_pos h2, valG, if_pos h2]
      cases bs with
      | nil => rfl
      | cons b1 cs =>
        have h1 := hb2 b1 (List.mem_cons_self ..)
        have hlc2 : ((b :: b1 :: cs).length : Int) = (cs.length : Int) + 2 := by simp; omega
        have hw : wrap64 b1 = b1 := by unfold wrap64; omega
        rw [if_neg (show ¬ ((b :: b1 :: cs).length : Int) = 1 by omega), if_pos (show 1 < ((b :: b1 :: cs).length : Int) by omega), show rd (b :: b1 :: cs) 1 = b1 from rfl, hw, val2]
        by_cases h3 : 1 < b1
        · rw [if_pos (show b1 > 1 from h3), if_pos h3]; rfl
        · rw [if_neg (show ¬ b1 > 1 from h3), if_neg h3]; rfl
    · rw [if_neg h2]
      by_cases h1 : b = 1
      · rw [if_pos h1]
        exact rval_j0 b bs (Or.inl h1) hb2 hl2
      · rw [if_neg h1]
        by_cases h3 : b = 3
        · rw [show (b != 3) = false by simp [h3]]
          exact rval_j0 b bs (Or.inr h3) hb2 hl2
        · rw [show (b != 3) = true by simp [h3], show 2 * bs.length + 2 = 2 * bs.length + 1 + 1 from rfl, tallyroomref04_Get.j0, if_pos rfl, valG, if_neg h2, if_pos ⟨h1, h3⟩]
          rfl
end Go.Proofs.YtcglhpagimkajaaDoor.Vl
set_option linter.unusedVariables false
set_option linter.unusedSimpArgs false
namespace Go.Proofs.YtcglhpagimkajaaDoor.Vl
open Go.RowKit Go.Proofs.YtcglhpagimkajaaDoor.B0 Go.Proofs.YtcglhpagimkajaaDoor.Pv Go.Proofs.YtcglhpagimkajaaDoorW.PrintWords

theorem vval_j0 (b : Int) (bs : List Int) (h13 : b = 1 ∨ b = 3) (hb : isBytes bs) (hl : bs.length < 900000) : value_Get.j0 (2 * bs.length + 2) (b :: bs) false = some (partsV (valG (b :: bs))) := by
  have hB := getG_bound bs 0 0 (by decide) (by decide)
  have hlc : ((b :: bs).length : Int) = (bs.length : Int) + 1 := by simp
  have hr0 : rd (b :: bs) 0 = b := rfl
  rw [show 2 * bs.length + 2 = 2 * bs.length + 1 + 1 from rfl, value_Get.j0, if_neg (by decide), if_pos (show 0 < ((b :: bs).length : Int) by omega), hr0, if_neg (show ¬ b = 2 by omega), if_pos (show 1 ≤ ((b :: bs).length : Int) by omega), show (b :: bs).drop 1 = bs from rfl, vget_f bs hb (by omega), Option.bind_some, valG, if_neg (show ¬ b = 2 by omega), if_neg (show ¬ (b ≠ 1 ∧ b ≠ 3) by omega)]
  generalize getG bs 0 0 = g at *
  obtain ⟨gn, gk, ge⟩ := g
  simp only at hB ⊢
  obtain ⟨m, rfl⟩ : ∃ m : Nat, gn = (m : Int) := ⟨gn.toNat, by omega⟩
  by_cases he : ge = 0
  · subst he
    rw [if_pos rfl, if_neg (show ¬ ((0 : Int) ≠ 0) by decide)]
    by_cases h1 : b = 1
    · have e2 : wrap64 (gk + 1) = gk + 1 := by unfold wrap64; omega
      rw [if_pos h1, if_pos h1, Int.toNat_natCast, zag_f m (by omega), Option.bind_some, e2]
      rfl
    · rw [if_neg h1, if_neg h1]
      by_cases h4 : (4096 : Int) < m
      · rw [if_pos (show (m : Int) > 4096 from h4), if_pos h4]; rfl
      · have e1 : wrap64 (1 + gk) = 1 + gk := by unfold wrap64; omega
        have e2 : wrap64 (m : Int) = m := by unfold wrap64; omega
        have e3 : wrap64 (1 + gk + (m : Int)) = 1 + gk + m := by unfold wrap64; omega
        rw [if_neg (show ¬ (m : Int) > 4096 from h4), if_neg h4, e1, e2, e3]
        by_cases h5 : (bs.length : Int) < gk + m
        · rw [if_pos (show 1 + gk + (m : Int) > ((b :: bs).length : Int) by omega), if_pos h5]; rfl
        · rw [if_neg (show ¬ 1 + gk + (m : Int) > ((b :: bs).length : Int) by omega), if_neg h5, if_pos (show (0 : Int) ≤ 1 + gk by omega), if_pos (show 1 + gk ≤ 1 + gk + (m : Int) by omega), if_pos (show 1 + gk + (m : Int) ≤ ((b :: bs).length : Int) by omega)]
          unfold partsV
          have e4 : ((b :: bs).take (1 + gk + (m : Int)).toNat).drop (1 + gk).toNat = (bs.drop gk.toNat).take (m : Int).toNat := by
            rw [show (1 + gk + (m : Int)).toNat = (gk.toNat + m) + 1 by omega, show (1 + gk).toNat = gk.toNat + 1 by omega, List.take_succ_cons, List.drop_succ_cons, List.drop_take, Int.toNat_natCast, Nat.add_sub_cancel_left]
          rw [e4]
  · rw [if_neg he, if_pos he]; rfl
theorem vval_f (l : List Int) (hb : isBytes l) (hl : l.length < 900000) : value_Get.f (2 * l.length) l = some (partsV (valG l)) := by
  cases l with
  | nil => rfl
  | cons b bs =>
    have hlc : ((b :: bs).length : Int) = (bs.length : Int) + 1 := by simp
    have hl2 : bs.length < 900000 := by rw [List.length_cons] at hl; omega
    have hb2 : isBytes bs := fun x hx => hb x (List.mem_cons_of_mem _ hx)
    have hf : 2 * (b :: bs).length = 2 * bs.length + 2 := by rw [List.length_cons]; omega
    rw [value_Get.f, if_neg (show ¬ ((b :: bs).length : Int) = 0 by omega), if_pos (show 0 < ((b :: bs).length : Int) by omega), show rd (b :: bs) 0 = b from rfl, hf]
    have hq : (if b < 1 then value_Get.j0 (2 * bs.length + 2) (b :: bs) true else value_Get.j0 (2 * bs.length + 2) (b :: bs) (decide (b > 3))) = value_Get.j0 (2 * bs.length + 2) (b :: bs) (decide (b < 1 ∨ b > 3)) := by
      by_cases h : b < 1
      · rw [if_pos h, decide_eq_true (Or.inl h)]
      · rw [if_neg h]
        congr 1
        rw [decide_eq_decide]; omega
    rw [hq]
    by_cases hF : b < 1 ∨ b > 3
    · rw [decide_eq_true hF, show 2 * bs.length + 2 = 2 * bs.length + 1 + 1 from rfl, value_Get.j0, if_pos rfl, valG, if_neg (show ¬ b = 2 by omega), if_pos (show b ≠ 1 ∧ b ≠ 3 by omega)]
      rfl
    · rw [decide_eq_false hF]
      by_cases h2 : b = 2
      · rw [show 2 * bs.length + 2 = 2 * bs.length + 1 + 1 from rfl, value_Get.j0, if_neg (by decide), if_pos (show 0 < ((b :: bs).length : Int) by omega), show rd (b :: bs) 0 = b from rfl, if_pos h2, valG, if_pos h2]
        cases bs with
        | nil => rfl
        | cons b1 cs =>
          have h1 := hb2 b1 (List.mem_cons_self ..)
          have hlc2 : ((b :: b1 :: cs).length : Int) = (cs.length : Int) + 2 := by simp; omega
          have hw : wrap64 b1 = b1 := by unfold wrap64; omega
          rw [value_truth.f, if_neg (show ¬ ((b :: b1 :: cs).length : Int) < 2 by omega), if_pos (show 1 < ((b :: b1 :: cs).length : Int) by omega), show rd (b :: b1 :: cs) 1 = b1 from rfl, hw, val2]
          by_cases h3 : 1 < b1
          · rw [if_pos (show b1 > 1 from h3), if_pos h3]; rfl
          · rw [if_neg (show ¬ b1 > 1 from h3), if_neg h3]; rfl
      · exact vval_j0 b bs (by omega) hb2 hl2
end Go.Proofs.YtcglhpagimkajaaDoor.Vl
set_option linter.unusedVariables false
set_option linter.unusedSimpArgs false
namespace Go.Proofs.YtcglhpagimkajaaDoor.Vl
open Go.RowKit Go.Proofs.YtcglhpagimkajaaDoor.B0 Go.Proofs.YtcglhpagimkajaaDoor.Pv Go.Proofs.YtcglhpagimkajaaDoorW.PrintWords

theorem VGetV_c (w : World) (A : Option Addr) (c : Nat) (l : List Int) (hr : ReadsInt w .u8 A l.length l) (hc : l.length ≤ c) (hb : isBytes l) (hl : l.length < 900000) :
    Calls Tryd.prog 21 #[.slice A l.length c] w fun e w' => e = .returned (.tuple #[(valG l).1.c, .int .i64 (valG l).2.1, .int .i64 (valG l).2.2]) ∧ Below w.heap.size w w' :=
  (value_Get.calls (2 * l.length) A c l _ _ _ _ _ w (Kd.C_of_reads hr) hc (vval_f l hb hl)).mono fun e w' ⟨he, hd⟩ => ⟨he, by first | exact hd | exact hd.below⟩
theorem RGetV_c (w : World) (A : Option Addr) (c : Nat) (l : List Int) (hr : ReadsInt w .u8 A l.length l) (hc : l.length ≤ c) (hb : isBytes l) (hl : l.length < 900000) :
    Calls Tryd.prog 22 #[.slice A l.length c] w fun e w' => e = .returned (.tuple #[(valG l).1.c, .int .i64 (valG l).2.1, .int .i64 (valG l).2.2]) ∧ Below w.heap.size w w' :=
  (tallyroomref04_Get.calls (2 * l.length) A c l _ _ _ _ _ w (Kd.C_of_reads hr) hc (rval_f l hb hl)).mono fun e w' ⟨he, hd⟩ => ⟨he, by first | exact hd | exact hd.below⟩
end Go.Proofs.YtcglhpagimkajaaDoor.Vl
set_option linter.unusedVariables false
set_option linter.unusedSimpArgs false
namespace Go.Proofs.YtcglhpagimkajaaDoor.Vl
open Go.RowKit Go.Proofs.YtcglhpagimkajaaDoor.B0 Go.Proofs.YtcglhpagimkajaaDoor.Pv Go.Proofs.YtcglhpagimkajaaDoorW.PrintWords

theorem putL_bytes (n : Nat) : isBytes (putL n) := by
  induction n using Nat.strongRecOn with
  | ind n ih =>
    rw [putL]
    split
    · intro b hb
      simp at hb
      omega
    · intro b hb
      simp only [List.mem_cons] at hb
      rcases hb with rfl | hb
      · omega
      · exact ih (n / 128) (by omega) b hb
theorem bytesOf_bytes (s : ByteArray) : isBytes (bytesOf s) := by
  intro b hb
  unfold bytesOf at hb
  simp only [List.mem_map] at hb
  obtain ⟨u, _, rfl⟩ := hb
  have := u.toNat_lt
  omega
theorem isBytes_app {a b : List Int} (ha : isBytes a) (hb : isBytes b) : isBytes (a ++ b) := by
  intro x hx
  rcases List.mem_append.1 hx with h | h
  · exact ha x h
  · exact hb x h
theorem isBytes_take {a : List Int} (ha : isBytes a) (k : Nat) : isBytes (a.take k) := fun x hx => ha x (List.mem_of_mem_take hx)
theorem bytesV_bytes (x : Va) : isBytes (bytesV x) := by
  unfold bytesV
  split
  · rename_i hr
    have hk := kinds_of hr
    split
    · intro b hb
      simp only [List.mem_cons] at hb
      rcases hb with rfl | hb
      · omega
      · exact putL_bytes _ b hb
    · split
      · rename_i h2
        obtain ⟨k, n, s⟩ := x
        simp only at h2
        subst h2
        have := bool_of hr
        intro b hb
        simp at hb
        omega
      · intro b hb
        simp only [List.mem_cons] at hb
        rcases hb with rfl | hb
        · omega
        · exact isBytes_app (putL_bytes _) (bytesOf_bytes _) b hb
  · intro b hb
    simp at hb
theorem bytesV_len (x : Va) (hx : okV x) (hs : x.s.size ≤ 10000) : (bytesV x).length ≤ 11 + x.s.size := by
  unfold bytesV
  split
  · split
    · have := putL_len (zigN x.n) (zigN_lt x.n hx.1 hx.2)
      simp; omega
    · split
      · simp; omega
      · have := putL_len x.s.size (by omega)
        have := bytesOf_length x.s
        simp; omega
  · simp
theorem VGetV_n (w : World) (A : Option Addr) (n c : Nat) (l : List Int) (hn : l.length = n) (hr : ReadsInt w .u8 A n l) (hc : n ≤ c) (hb : isBytes l) (hl : n < 900000) :
    Calls Tryd.prog 21 #[.slice A n c] w fun e w' => e = .returned (.tuple #[(valG l).1.c, .int .i64 (valG l).2.1, .int .i64 (valG l).2.2]) ∧ Below w.heap.size w w' := by
  subst hn
  exact VGetV_c w A c l hr hc hb hl
end Go.Proofs.YtcglhpagimkajaaDoor.Vl
set_option linter.unusedVariables false
set_option linter.unusedSimpArgs false
namespace Go.Proofs.YtcglhpagimkajaaDoor.valueBack
open Go.RowKit Go.Proofs.YtcglhpagimkajaaDoor.B0 Go.Proofs.YtcglhpagimkajaaDoor.Pv Go.Proofs.YtcglhpagimkajaaDoorW.PrintWords Go.Proofs.YtcglhpagimkajaaDoorW.PrintLast Go.Proofs.YtcglhpagimkajaaDoor.Vl Go.Proofs.YtcglhpagimkajaaDoor.Kn
attribute [local go_sem high] eqA23

def va (y : S23) : Va := ⟨y.f0, y.f1, y.f2⟩
theorem i64_wf {a : Int} (h : (Lit.int .i64 a).wf = true) : -9223372036854775808 ≤ a ∧ a ≤ 9223372036854775807 := by
  have h : IntKind.i64.min ≤ a ∧ a ≤ IntKind.i64.max := by simpa [Lit.wf] using h
  rw [show IntKind.i64.min = -9223372036854775808 from by decide, show IntKind.i64.max = 9223372036854775807 from by decide] at h
  exact h
theorem u8_wf {a : Int} (h : (Lit.int .u8 a).wf = true) : 0 ≤ a ∧ a ≤ 255 := by
  have h : IntKind.u8.min ≤ a ∧ a ≤ IntKind.u8.max := by simpa [Lit.wf] using h
  rw [show IntKind.u8.min = 0 from by decide, show IntKind.u8.max = 255 from by decide] at h
  exact h
theorem box1 {w wa : World} {o0 : Obj} (h : Below (w.alloc o0).heap.size (w.alloc o0) wa) : wa.heap[w.heap.size]? = some o0 := by
  rw [h.block _ (by rw [size_alloc]; omega), allocN]

set_option maxRecDepth 100000 in
set_option maxHeartbeats 2000000 in
theorem valueBack_walk (w : World) (ht : tabP w) (a : S23) (csa : Array Value) (Ka : k23.K w a csa.toList) (Wa : W23 a) (A1 : Option Addr) (c1 : Nat) (l1 : List Int) (C1 : Kd.C (Kd.int .u8) w A1 l1.length l1) (hc1 : l1.length ≤ c1) (m1 : l1.length ≤ maxLen) (W1 : ∀ x ∈ l1, (Lit.int .u8 x).wf = true) :
    Calls Tryd.prog 7 #[.agg csa, .slice A1 l1.length c1] w fun e w' => e = .returned (.bool true) ∧ Below w.heap.size w w' := by
  have ea := k23_open Ka
  obtain rfl : csa = #[.int .i64 a.f0, .int .i64 a.f1, .string a.f2] := by cases csa; simpa using ea
  have hok : Hid (okV (va a)) := i64_wf Wa.2.1
  have HR1 : Hid (ReadsInt w .u8 A1 l1.length l1) := Kd.reads_of_C (enc := Value.int .u8) (d := (0 : Int)) (h1 := fun _ => rfl) C1
  have HB1 : Hid (isBytes l1) := fun x hx => (by have := u8_wf (W1 x hx); omega)
  clear Ka Wa ea C1 W1 m1
  have HC1 := Lib.hid hc1; clear hc1
  have HT := Lib.hid ht; clear ht
  go_enter Tryd.func7, Tryd.ntmps7
  go_wp2_with fail
  refine (alive04 _ (HT.out.below ((Below.refl _ w).alloc (Nat.le_refl _) _) (Nat.le_refl _))).mono ?_
  rintro e wa ⟨rfl, hBa⟩
  have HB0 := Lib.hid (box1 hBa)
  have HBa : Hid (Below w.heap.size w wa) := ((Below.refl _ w).alloc (Nat.le_refl _) _) |>.trans (hBa.mono (by simp))
  clear hBa
  have EC : Hid (∀ w', Below wa.heap.size wa w' → w'.cell? ⟨w.heap.size, 0, none⟩ = some (.int .i64 a.f0) ∧ w'.cell? ⟨w.heap.size, 1, none⟩ = some (.int .i64 a.f1) ∧ w'.cell? ⟨w.heap.size, 2, none⟩ = some (.string a.f2)) := fun w' h => ⟨pw_cell_below h (cellB HB0.out 0), pw_cell_below h (cellB HB0.out 1), pw_cell_below h (cellB HB0.out 2)⟩
  obtain ⟨a0, a1, a2⟩ := EC.out wa (Below.refl _ _)
  by_cases h3 : (300 : Int) < a.f2.size
  · go_wp2_with fail
    go_ret
    exact ⟨rfl, HBa.out⟩
  by_cases h1 : (100 : Int) < l1.length
  · go_wp2_with fail
    go_ret
    exact ⟨rfl, HBa.out⟩
  have hd3 : decide ((300 : Int) < a.f2.size) = false := by simpa using h3
  have hd1 : decide ((100 : Int) < l1.length) = false := by simpa using h1
  go_wp2_with fail
  refine (Right_c (va a) _).mono ?_
  rintro e w1 ⟨rfl, hb⟩
  have G1 : Hid (Below wa.heap.size wa w1) := hb
  clear hb a0 a1 a2
  obtain ⟨a0, a1, a2⟩ := EC.out w1 G1.out
  cases hr : rightB (va a) with
  | false =>
    clear hr
    go_wp2_with fail
    go_ret
    exact ⟨by first | rfl | (simp; done), HBa.out.trans (G1.out.mono HBa.out.size)⟩
  | true =>
    have HR := Lib.hid hr; clear hr
    go_wp2_with fail
    refine (Put_c (va a) hok.out (by show a.f2.size ≤ 10000; omega) _ none 0 [] (ReadsInt.nil _ _) (by simp)).mono ?_
    rintro e w2 ⟨v2, rfl, hO, hb⟩
    have G2 : Hid (Below wa.heap.size wa w2) := G1.out.trans (hb.mono G1.out.size)
    obtain ⟨bs, hbs⟩ : ∃ bs, Hid (bs = bytesV (va a)) := ⟨_, Lib.hid rfl⟩
    rw [List.nil_append, ← hbs.out] at hO
    have hbl : bs.length ≤ 400 := by have := bytesV_len (va a) hok.out (by show a.f2.size ≤ 10000; omega); have h2 : (va a).s.size = a.f2.size := rfl; rw [hbs.out]; omega
    have hbb : Hid (isBytes bs) := by rw [hbs.out]; exact bytesV_bytes _
    obtain ⟨A2, c2, rfl, hcap, hrd⟩ := hO.cap
    have R2 := Lib.hid hrd
    clear hb hO hrd a0 a1 a2
    obtain ⟨a0, a1, a2⟩ := EC.out w2 G2.out
    go_wp2_with (at_builtin; go_loud (refine print_append_row (w0 := w2) w2.heap.size rfl _ _ 40 5 .u8 1 rfl Tryd.underlying40 Vl.info5 (by decide) (.slice (some ⟨w2.heap.size, 0, none⟩) 0 0) [] bs A2 bs.length c2 rfl rfl (World.ownsRow_made w2 #[] 0 (Nat.le_refl _) (Nat.zero_le _) (by simp)) (R2.out.allocS _) ((Below.refl _ _).alloc (Nat.le_refl _) _) (by simp) (by simp; omega) ?_))
    intro v3 w3 k1 k2 k3 k4
    have K1 : Hid (OB w3 w2.heap.size v3 bs) := k1
    have K2 := Lib.hid k2
    have HR3 : Hid (ReadsInt w3 .u8 A1 l1.length l1) := HR1.out.below ((HBa.out.trans (G2.out.mono HBa.out.size)).trans (k2.mono (Nat.le_trans HBa.out.size G2.out.size)))
    clear k1 k2 k3 k4 a0 a1 a2
    obtain ⟨a0, a1, a2⟩ := EC.out w3 (G2.out.trans (K2.out.mono G2.out.size))
    go_wp2_with (at_builtin; refine print_append_row (w0 := w2) w2.heap.size rfl _ _ 40 5 .u8 1 rfl Tryd.underlying40 Vl.info5 (by decide) v3 bs l1 A1 l1.length c1 rfl rfl K1.out HR3.out K2.out K2.out.size (by simp; omega) ?_)
    intro v4 w4 k1 k2 k3 k4
    have k0 : OB w4 w2.heap.size v4 (bs ++ l1) := by unfold OB; rw [List.length_append]; exact k1
    obtain ⟨ys, hys⟩ : ∃ ys, Hid (ys = bs ++ l1) := ⟨_, Lib.hid rfl⟩
    rw [← hys.out] at k0
    have hyl : ys.length ≤ 500 := by rw [hys.out]; simp; omega
    obtain ⟨A4, c4, rfl, hcap4, hrd4⟩ := k0.cap
    have R4 := Lib.hid hrd4
    have G4 : Hid (Below wa.heap.size wa w4) := G2.out.trans (k2.mono G2.out.size)
    have R42 : Hid (ReadsInt w4 .u8 A2 bs.length bs) := R2.out.below k2
    clear k0 k1 k2 k3 k4 hrd4 K1 K2 HR3 R2 a0 a1 a2
    obtain ⟨a0, a1, a2⟩ := EC.out w4 G4.out
    have hvg : Hid (valG ys = (va a, (bs.length : Int), 0)) := by rw [hys.out, hbs.out]; exact valG_bytes _ HR.out hok.out _
    go_wp2_with fail
    refine (VGetV_c w4 A4 c4 ys R4.out hcap4 (by rw [hys.out]; exact isBytes_app hbb.out HB1.out) (by omega)).mono ?_
    rintro e w5 ⟨rfl, hb⟩
    rw [hvg.out]
    have G5 : Hid (Below wa.heap.size wa w5) := G4.out.trans (hb.mono G4.out.size)
    have R5 : Hid (ReadsInt w5 .u8 A2 bs.length bs) := R42.out.below hb
    clear hb R42 R4 hcap4 a0 a1 a2
    obtain ⟨a0, a1, a2⟩ := EC.out w5 G5.out
    have hsz5 : w.heap.size < w5.heap.size := by have := lt_of_get HB0.out; have := G5.out.size; omega
    unfold Va.c va
    go_wp2_with fail
    have hlt0 : Hid (wa.heap.size ≤ w5.heap.size) := G5.out.size
    clear a0 a1 a2 hsz5
    go_loopw [9] (fun iv wr => ∃ k : Nat, iv = .int .i64 k ∧ k ≤ bs.length ∧ Hid (Below wa.heap.size wa wr ∧ ReadsInt wr .u8 A2 bs.length bs)) (fun iv _ => bs.length - (intOf iv).toNat)
    case atStart => exact ⟨0, rfl, Nat.zero_le _, (G5.out.alloc hlt0.out _), R5.out.allocS _⟩
    case round =>
      obtain ⟨k, rfl, hk, HW⟩ := hrel
      by_cases hlt : k < bs.length
      · have hki : (k : Int) < bs.length := by omega
        have hkc : (k : Int) ≤ c2 := by omega
        have htl : Hid ((bs.take k).length = k) := by show _ = _; simp; omega
        have hcut : Hid (valG (bs.take k) = (zeroV, 0, 10)) := by rw [hbs.out]; exact valG_cut _ HR.out hok.out k (by rw [← hbs.out]; exact hlt)
        have HS : Hid (wa.heap.size ≤ wr.heap.size) := HW.out.1.size
        go_wp2_with fail
        refine (VGetV_n wr A2 k c2 (bs.take k) htl.out (HW.out.2.take_ k hk) (by omega) (isBytes_take hbb.out k) (by omega)).mono ?_
        rintro e w6 ⟨rfl, hb⟩
        rw [hcut.out]
        have HW6 : Hid (Below wa.heap.size wa w6 ∧ ReadsInt w6 .u8 A2 bs.length bs) := ⟨HW.out.1.trans (hb.mono HW.out.1.size), HW.out.2.below hb⟩
        clear hb HW
        unfold Va.c zeroV
        go_wp2_with fail
        go_roundw
        case rel => exact ⟨k + 1, by go_num, by omega, (HW6.out.1.alloc HW6.out.1.size _), HW6.out.2.allocS _⟩
        case measure => simp [intOf]; omega
      · obtain rfl : k = bs.length := by omega
        go_wp2_with fail
        go_ret
        exact ⟨rfl, HBa.out.trans (HW.out.1.mono HBa.out.size)⟩
end Go.Proofs.YtcglhpagimkajaaDoor.valueBack
