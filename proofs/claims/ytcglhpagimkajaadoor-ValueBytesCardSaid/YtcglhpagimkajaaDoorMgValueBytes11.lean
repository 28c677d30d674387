/- the two printed value Gets are valG. No memory in it. the printed value.Get is valG. No memory in it. the two value Gets at bytes that are read. a value's bytes: how many, and that they are bytes; value.Get at a cut. -/
import Derived.Test.YtcglhpagimkajaaDoorMgValueBytes9
import Derived.Test.YtcglhpagimkajaaDoorMgValueBytes10
set_option linter.unusedVariables false
set_option linter.unusedSimpArgs false
namespace Go.Proofs.YtcglhpagimkajaaDoor.Vl
open Go.RowKit Go.Proofs.YtcglhpagimkajaaDoor.B0 Go.Proofs.YtcglhpagimkajaaDoor.Pv Go.Proofs.YtcglhpagimkajaaDoorW.PrintWords

def partsV (r : Va × Int × Int) : Int × Int × ByteArray × Int × Int := (r.1.k, r.1.n, r.1.s, r.2.1, r.2.2)
theorem rval_j0 (b : Int) (bs : List Int) (h13 : b = 1 ∨ b = 3) (hb : isBytes bs) (hl : bs.length < 900000) : tallyroomref04_Get.j0 (2 * bs.length + 2) (b :: bs) false = some (partsV (valG (b :: bs))) := by
  have hB := getG_bound bs 0 0 (by decide) (by decide)
  have hlc : ((b :: bs).length : Int) = (bs.length : Int) + 1 := by simp
  have hr0 : rd (b :: bs) 0 = b := rfl
  rw [show 2 * bs.length + 2 = 2 * bs.length + 1 + 1 from rfl, tallyroomref04_Get.j0, if_neg (by decide), if_pos (by omega), show (b :: bs).drop 1 = bs from rfl, rget_f bs hb (by omega), Option.bind_some, hr0, valG, if_neg (show ¬ b = 2 by omega), if_neg (show ¬ (b ≠ 1 ∧ b ≠ 3) by omega)]
  generalize getG bs 0 0 = g at *
  obtain ⟨gn, gk, ge⟩ := g
  simp only at hB ⊢
  obtain ⟨m, rfl⟩ : ∃ m : Nat, gn = (m : Int) := ⟨gn.toNat, by omega⟩
  by_cases he : ge = 0
  · subst he
    rw [if_pos rfl, if_pos (by omega), if_neg (show ¬ ((0 : Int) ≠ 0) by decide)]
    by_cases h1 : b = 1
    · rw [if_pos h1, if_pos h1, Int.toNat_natCast, Int.tmod_eq_emod_of_nonneg (by omega), Int.tdiv_eq_ediv_of_nonneg (by omega)]
      have e1 : wrap64 (IntKind.u64.wrap ((m : Int) / 2)) = ((m / 2 : Nat) : Int) := by rw [IntKind.wrap_u64]; unfold wrap64; omega
      have e2 : wrap64 (gk + 1) = gk + 1 := by unfold wrap64; omega
      rw [e1, e2]
      unfold zagN partsV
      by_cases hm : m % 2 = 1
      · have e3 : wrap64 ((wrap64 (-((m / 2 : Nat) : Int))) - 1) = -((m / 2 : Nat) : Int) - 1 := by unfold wrap64; omega
        rw [if_pos (show (m : Int) % 2 = 1 by omega), if_pos hm, e3]
        rfl
      · rw [if_neg (show ¬ (m : Int) % 2 = 1 by omega), if_neg hm]
        rfl
    · rw [if_neg h1, if_neg h1]
      by_cases h4 : (4096 : Int) < m
      · rw [if_pos (show (m : Int) > 4096 from h4), if_pos h4]; rfl
      · have e1 : wrap64 (1 + gk) = 1 + gk := by unfold wrap64; omega
        have e2 : wrap64 (m : Int) = m := by unfold wrap64; omega
        have e3 : wrap64 (1 + gk + (m : Int)) = 1 + gk + m := by unfold wrap64; omega
        rw [if_neg (show ¬ (m : Int) > 4096 from h4), if_neg h4, e1, e2, e3]
        by_cases h5 : (bs.length : Int) < gk + m
        · rw [if_pos (show ((b :: bs).length : Int) < 1 + gk + m by omega), if_pos h5]; rfl
        · rw [if_neg (show ¬ ((b :: bs).length : Int) < 1 + gk + m by omega), if_neg h5, if_pos (show (0 : Int) ≤ 1 + gk by omega), if_pos (show 1 + gk ≤ 1 + gk + (m : Int) by omega), if_pos (show 1 + gk + (m : Int) ≤ ((b :: bs).length : Int) by omega)]
          unfold partsV
          have e4 : ((b :: bs).take (1 + gk + (m : Int)).toNat).drop (1 + gk).toNat = (bs.drop gk.toNat).take (m : Int).toNat := by
            rw [show (1 + gk + (m : Int)).toNat = (gk.toNat + m) + 1 by omega, show (1 + gk).toNat = gk.toNat + 1 by omega, List.take_succ_cons, List.drop_succ_cons, List.drop_take, Int.toNat_natCast, Nat.add_sub_cancel_left]
          rw [e4]
  · rw [if_neg he, if_pos he]; rfl
theorem rval_f (l : List Int) (hb : isBytes l) (hl : l.length < 900000) : tallyroomref04_Get.f (2 * l.length) l = some (partsV (valG l)) := by
  cases l with
  | nil => rfl
  | cons b bs =>
    have hlc : ((b :: bs).length : Int) = (bs.length : Int) + 1 := by simp
    have hl2 : bs.length < 900000 := by rw [List.length_cons] at hl; omega
    have hb2 : isBytes bs := fun x hx => hb x (List.mem_cons_of_mem _ hx)
    have hf : 2 * (b :: bs).length = 2 * bs.length + 2 := by rw [List.length_cons]; omega
    rw [tallyroomref04_Get.f, if_neg (show ¬ ((b :: bs).length : Int) = 0 by omega), if_pos (show 0 < ((b :: bs).length : Int) by omega), show rd (b :: bs) 0 = b from rfl, hf]
    by_cases h2 : b = 2
    · rw [if_pos h2, valG, if_pos h2]
      cases bs with
      | nil => rfl
      | cons b1 cs =>
        have h1 := hb2 b1 (List.mem_cons_self ..)
        have hlc2 : ((b :: b1 :: cs).length : Int) = (cs.length : Int) + 2 := by simp; omega
        have hw : wrap64 b1 = b1 := by unfold wrap64; omega
        rw [if_neg (show ¬ ((b :: b1 :: cs).length : Int) = 1 by omega), if_pos (show 1 < ((b :: b1 :: cs).length : Int) by omega), show rd (b :: b1 :: cs) 1 = b1 from rfl, hw, val2]
        by_cases h3 : 1 < b1
        · rw [if_pos (show b1 > 1 from h3), if_pos h3]; rfl
        · rw [if_neg (show ¬ b1 > 1 from h3), if_neg h3]; rfl
    · rw [if_neg h2]
      by_cases h1 : b = 1
      · rw [if_pos h1]
        exact rval_j0 b bs (Or.inl h1) hb2 hl2
      · rw [if_neg h1]
        by_cases h3 : b = 3
        · rw [show (b != 3) = false by simp [h3]]
          exact rval_j0 b bs (Or.inr h3) hb2 hl2
        · rw [show (b != 3) = true by simp [h3], show 2 * bs.length + 2 = 2 * bs.length + 1 + 1 from rfl, tallyroomref04_Get.j0, if_pos rfl, valG, if_neg h2, if_pos ⟨h1, h3⟩]
          rfl
end Go.Proofs.YtcglhpagimkajaaDoor.Vl
set_option linter.unusedVariables false
set_option linter.unusedSimpArgs false
namespace Go.Proofs.YtcglhpagimkajaaDoor.Vl
open Go.RowKit Go.Proofs.YtcglhpagimkajaaDoor.B0 Go.Proofs.YtcglhpagimkajaaDoor.Pv Go.Proofs.YtcglhpagimkajaaDoorW.PrintWords

theorem vval_j0 (b : Int) (bs : List Int) (h13 : b = 1 ∨ b = 3) (hb : isBytes bs) (hl : bs.length < 900000) : value_Get.j0 (2 * bs.length + 2) (b :: bs) false = some (partsV (valG (b :: bs))) := by
  have hB := getG_bound bs 0 0 (by decide) (by decide)
  have hlc : ((b :: bs).length : Int) = (bs.length : Int) + 1 := by simp
  have hr0 : rd (b :: bs) 0 = b := rfl
  rw [show 2 * bs.length + 2 = 2 * bs.length + 1 + 1 from rfl, value_Get.j0, if_neg (by decide), if_pos (show 0 < ((b :: bs).length : Int) by omega), hr0, if_neg (show ¬ b = 2 by omega), if_pos (show 1 ≤ ((b :: bs).length : Int) by omega), show (b :: bs).drop 1 = bs from rfl, vget_f bs hb (by omega), Option.bind_some, valG, if_neg (show ¬ b = 2 by omega), if_neg (show ¬ (b ≠ 1 ∧ b ≠ 3) by omega)]
  generalize getG bs 0 0 = g at *
  obtain ⟨gn, gk, ge⟩ := g
  simp only at hB ⊢
  obtain ⟨m, rfl⟩ : ∃ m : Nat, gn = (m : Int) := ⟨gn.toNat, by omega⟩
  by_cases he : ge = 0
  · subst he
    rw [if_pos rfl, if_neg (show ¬ ((0 : Int) ≠ 0) by decide)]
    by_cases h1 : b = 1
    · have e2 : wrap64 (gk + 1) = gk + 1 := by unfold wrap64; omega
      rw [if_pos h1, if_pos h1, Int.toNat_natCast, zag_f m (by omega), Option.bind_some, e2]
      rfl
    · rw [if_neg h1, if_neg h1]
      by_cases h4 : (4096 : Int) < m
      · rw [if_pos (show (m : Int) > 4096 from h4), if_pos h4]; rfl
      · have e1 : wrap64 (1 + gk) = 1 + gk := by unfold wrap64; omega
        have e2 : wrap64 (m : Int) = m := by unfold wrap64; omega
        have e3 : wrap64 (1 + gk + (m : Int)) = 1 + gk + m := by unfold wrap64; omega
        rw [if_neg (show ¬ (m : Int) > 4096 from h4), if_neg h4, e1, e2, e3]
        by_cases h5 : (bs.length : Int) < gk + m
        · rw [if_pos (show 1 + gk + (m : Int) > ((b :: bs).length : Int) by omega), if_pos h5]; rfl
        · rw [if_neg (show ¬ 1 + gk + (m : Int) > ((b :: bs).length : Int) by omega), if_neg h5, if_pos (show (0 : Int) ≤ 1 + gk by omega), if_pos (show 1 + gk ≤ 1 + gk + (m : Int) by omega), if_pos (show 1 + gk + (m : Int) ≤ ((b :: bs).length : Int) by omega)]
          unfold partsV
          have e4 : ((b :: bs).take (1 + gk + (m : Int)).toNat).drop (1 + gk).toNat = (bs.drop gk.toNat).take (m : Int).toNat := by
            rw [show (1 + gk + (m : Int)).toNat = (gk.toNat + m) + 1 by omega, show (1 + gk).toNat = gk.toNat + 1 by omega, List.take_succ_cons, List.drop_succ_cons, List.drop_take, Int.toNat_natCast, Nat.add_sub_cancel_left]
          rw [e4]
  · rw [if_neg he, if_pos he]; rfl
theorem vval_f (l : List Int) (hb : isBytes l) (hl : l.length < 900000) : value_Get.f (2 * l.length) l = some (partsV (valG l)) := by
  cases l with
  | nil => rfl
  | cons b bs =>
    have hlc : ((b :: bs).length : Int) = (bs.length : Int) + 1 := by simp
    have hl2 : bs.length < 900000 := by rw [List.length_cons] at hl; omega
    have hb2 : isBytes bs := fun x hx => hb x (List.mem_cons_of_mem _ hx)
    have hf : 2 * (b :: bs).length = 2 * bs.length + 2 := by rw [List.length_cons]; omega
    rw [value_Get.f, if_neg (show ¬ ((b :: bs).length : Int) = 0 by omega), if_pos (show 0 < ((b :: bs).length : Int) by omega), show rd (b :: bs) 0 = b from rfl, hf]
    have hq : (if b < 1 then value_Get.j0 (2 * bs.length + 2) (b :: bs) true else value_Get.j0 (2 * bs.length + 2) (b :: bs) (decide (b > 3))) = value_Get.j0 (2 * bs.length + 2) (b :: bs) (decide (b < 1 ∨ b > 3)) := by
      by_cases h : b < 1
      · rw [if_pos h, decide_eq_true (Or.inl h)]
      · rw [if_neg h]
        congr 1
        rw [decide_eq_decide]; omega
    rw [hq]
    by_cases hF : b < 1 ∨ b > 3
    · rw [decide_eq_true hF, show 2 * bs.length + 2 = 2 * bs.length + 1 + 1 from rfl, value_Get.j0, if_pos rfl, valG, if_neg (show ¬ b = 2 by omega), if_pos (show b ≠ 1 ∧ b ≠ 3 by omega)]
      rfl
    · rw [decide_eq_false hF]
      by_cases h2 : b = 2
      · rw [show 2 * bs.length + 2 = 2 * bs.length + 1 + 1 from rfl, value_Get.j0, if_neg (by decide), if_pos (show 0 < ((b :: bs).length : Int) by omega), show rd (b :: bs) 0 = b from rfl, if_pos h2, valG, if_pos h2]
        cases bs with
        | nil => rfl
        | cons b1 cs =>
          have h1 := hb2 b1 (List.mem_cons_self ..)
          have hlc2 : ((b :: b1 :: cs).length : Int) = (cs.length : Int) + 2 := by simp; omega
          have hw : wrap64 b1 = b1 := by unfold wrap64; omega
          rw [value_truth.f, if_neg (show ¬ ((b :: b1 :: cs).length : Int) < 2 by omega), if_pos (show 1 < ((b :: b1 :: cs).length : Int) by omega), show rd (b :: b1 :: cs) 1 = b1 from rfl, hw, val2]
          by_cases h3 : 1 < b1
          · rw [if_pos (show b1 > 1 from h3), if_pos h3]; rfl
          · rw [if_neg (show ¬ b1 > 1 from h3), if_neg h3]; rfl
      · exact vval_j0 b bs (by omega) hb2 hl2
end Go.Proofs.YtcglhpagimkajaaDoor.Vl
set_option linter.unusedVariables false
set_option linter.unusedSimpArgs false
namespace Go.Proofs.YtcglhpagimkajaaDoor.Vl
open Go.RowKit Go.Proofs.YtcglhpagimkajaaDoor.B0 Go.Proofs.YtcglhpagimkajaaDoor.Pv Go.Proofs.YtcglhpagimkajaaDoorW.PrintWords

theorem VGetV_c (w : World) (A : Option Addr) (c : Nat) (l : List Int) (hr : ReadsInt w .u8 A l.length l) (hc : l.length ≤ c) (hb : isBytes l) (hl : l.length < 900000) :
    Calls Tryd.prog 21 #[.slice A l.length c] w fun e w' => e = .returned (.tuple #[(valG l).1.c, .int .i64 (valG l).2.1, .int .i64 (valG l).2.2]) ∧ Below w.heap.size w w' :=
  (value_Get.calls (2 * l.length) A c l _ _ _ _ _ w (Kd.C_of_reads hr) hc (vval_f l hb hl)).mono fun e w' ⟨he, hd⟩ => ⟨he, by first | exact hd | exact hd.below⟩
theorem RGetV_c (w : World) (A : Option Addr) (c : Nat) (l : List Int) (hr : ReadsInt w .u8 A l.length l) (hc : l.length ≤ c) (hb : isBytes l) (hl : l.length < 900000) :
    Calls Tryd.prog 22 #[.slice A l.length c] w fun e w' => e = .returned (.tuple #[(valG l).1.c, .int .i64 (valG l).2.1, .int .i64 (valG l).2.2]) ∧ Below w.heap.size w w' :=
  (tallyroomref04_Get.calls (2 * l.length) A c l _ _ _ _ _ w (Kd.C_of_reads hr) hc (rval_f l hb hl)).mono fun e w' ⟨he, hd⟩ => ⟨he, by first | exact hd | exact hd.below⟩
end Go.Proofs.YtcglhpagimkajaaDoor.Vl
set_option linter.unusedVariables false
set_option linter.unusedSimpArgs false
namespace Go.Proofs.YtcglhpagimkajaaDoor.Vl
open Go.RowKit Go.Proofs.YtcglhpagimkajaaDoor.B0 Go.Proofs.YtcglhpagimkajaaDoor.Pv Go.Proofs.YtcglhpagimkajaaDoorW.PrintWords

theorem putL_bytes (n : Nat) : isBytes (putL n) := by
  induction n using Nat.strongRecOn with
  | ind n ih =>
    rw [putL]
    split
    · intro b hb
      simp at hb
      omega
    · intro b hb
      simp only [List.mem_cons] at hb
      rcases hb with rfl | hb
      · omega
      · exact ih (n / 128) (by omega) b hb
theorem bytesOf_bytes (s : ByteArray) : isBytes (bytesOf s) := by
  intro b hb
  unfold bytesOf at hb
  simp only [List.mem_map] at hb
  obtain ⟨u, _, rfl⟩ := hb
  have := u.toNat_lt
  omega
theorem isBytes_app {a b : List Int} (ha : isBytes a) (hb : isBytes b) : isBytes (a ++ b) := by
  intro x hx
  rcases List.mem_append.1 hx with h | h
  · exact ha x h
  · exact hb x h
theorem isBytes_take {a : List Int} (ha : isBytes a) (k : Nat) : isBytes (a.take k) := fun x hx => ha x (List.mem_of_mem_take hx)
theorem bytesV_bytes (x : Va) : isBytes (bytesV x) := by
  unfold bytesV
  split
  · rename_i hr
    have hk := kinds_of hr
    split
    · intro b hb
      simp only [List.mem_cons] at hb
      rcases hb with rfl | hb
      · omega
      · exact putL_bytes _ b hb
    · split
      · rename_i h2
        obtain ⟨k, n, s⟩ := x
        simp only at h2
        subst h2
        have := bool_of hr
        intro b hb
        simp at hb
        omega
      · intro b hb
        simp only [List.mem_cons] at hb
        rcases hb with rfl | hb
        · omega
        · exact isBytes_app (putL_bytes _) (bytesOf_bytes _) b hb
  · intro b hb
    simp at hb
theorem bytesV_len (x : Va) (hx : okV x) (hs : x.s.size ≤ 10000) : (bytesV x).length ≤ 11 + x.s.size := by
  unfold bytesV
  split
  · split
    · have := putL_len (zigN x.n) (zigN_lt x.n hx.1 hx.2)
      simp; omega
    · split
      · simp; omega
      · have := putL_len x.s.size (by omega)
        have := bytesOf_length x.s
        simp; omega
  · simp
theorem VGetV_n (w : World) (A : Option Addr) (n c : Nat) (l : List Int) (hn : l.length = n) (hr : ReadsInt w .u8 A n l) (hc : n ≤ c) (hb : isBytes l) (hl : n < 900000) :
    Calls Tryd.prog 21 #[.slice A n c] w fun e w' => e = .returned (.tuple #[(valG l).1.c, .int .i64 (valG l).2.1, .int .i64 (valG l).2.2]) ∧ Below w.heap.size w w' := by
  subst hn
  exact VGetV_c w A c l hr hc hb hl
end Go.Proofs.YtcglhpagimkajaaDoor.Vl
