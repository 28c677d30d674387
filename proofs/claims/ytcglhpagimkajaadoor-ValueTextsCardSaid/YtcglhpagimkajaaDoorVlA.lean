/- value: the reference's Right, Digits and Text; what goes to any and comes back. -/
import Derived.Test.YtcglhpagimkajaaDoorVlO
import Derived.Test.YtcglhpagimkajaaDoorPv16
set_option linter.unusedVariables false
set_option linter.unusedSimpArgs false
namespace Go.Proofs.YtcglhpagimkajaaDoor.Vl
open Go.RowKit Go.Proofs.YtcglhpagimkajaaDoor.B0 Go.Proofs.YtcglhpagimkajaaDoor.Pv Go.Proofs.YtcglhpagimkajaaDoorW.PrintWords Go.Proofs.YtcglhpagimkajaaDoor.By

theorem Below_drewN {B : Nat} {a b : World} (h : Below B a b) (n : Nat) : Below B a (b.drewN n) := ⟨h.os, h.tape, h.output, h.size, h.block⟩
theorem rright_f (x : Va) : tallyroomref04_Right.f x.k x.n x.s = some (rightB x) := by
  unfold tallyroomref04_Right.f rightB
  obtain ⟨k, n, s⟩ := x
  simp only
  by_cases h1 : k = 1
  · subst h1
    by_cases hs : s.toList = []
    · simp [hs]
    · have : (s.toList == []) = false := by simpa using hs
      simp [hs]
  · by_cases h2 : k = 2
    · subst h2
      by_cases hs : s.toList = []
      · by_cases h0 : n = 0
        · simp [hs, h0]
        · by_cases h3 : n = 1 <;> simp [hs, h0, h3]
      · simp [hs]
    · by_cases h3 : k = 3
      · subst h3
        by_cases h0 : n = 0 <;> simp [h0]
      · simp [h1, h2, h3]
theorem RRight_c (x : Va) (w : World) : Calls Tryd.prog 10 #[x.c] w fun e w' => e = .returned (.bool (rightB x)) ∧ Below w.heap.size w w' :=
  tallyroomref04_Right.calls x.k x.n x.s _ w (rright_f x)

theorem one_digit (c : Nat) (h : c < 10) : strOfNums [(IntKind.u64.wrap (48 + (c : Int))) % 256] = ⟨#[UInt8.ofNat (48 + c)]⟩ := by
  have e : (IntKind.u64.wrap (48 + (c : Int))) % 256 = ((48 + c : Nat) : Int) := by
    rw [IntKind.wrap_u64]; omega
  rw [e]
  show (⟨#[UInt8.ofNat (((48 + c : Nat) : Int)).toNat]⟩ : ByteArray) = _
  rw [Int.toNat_natCast]
theorem dec_ba (u : Nat) (x : ByteArray) : (⟨(Lib.decDigits u).toArray⟩ : ByteArray) ++ x = if u < 10 then (⟨#[UInt8.ofNat (48 + u)]⟩ : ByteArray) ++ x else (⟨(Lib.decDigits (u / 10)).toArray⟩ : ByteArray) ++ ((⟨#[UInt8.ofNat (48 + u % 10)]⟩ : ByteArray) ++ x) := by
  rw [Lib.decDigits]
  split
  · rfl
  · rw [← ByteArray.append_assoc]
    congr 1
theorem dig_l0 (x3 : ByteArray) (h3 : x3.size ≤ 1) : ∀ (d u : Nat) (x : ByteArray), u < 10 ^ d → u < 2 ^ 64 → x.size + d ≤ 100 → ∃ k, tallyroomref04_Digits.l0 k x3 u x = some (x3 ++ ((⟨(Lib.decDigits u).toArray⟩ : ByteArray) ++ x)) := by
  intro d
  induction d with
  | zero =>
    intro u x hu _ hx
    have : u = 0 := by simpa using hu
    subst this
    refine ⟨1, ?_⟩
    have e := one_digit 0 (by omega)
    have hsz : (⟨#[UInt8.ofNat (48 + 0)]⟩ : ByteArray).size = 1 := rfl
    have hw : IntKind.u64.wrap (Int.tdiv ((0 : Nat) : Int) 10) = 0 := by kernel_rfl
    have hm : Int.tmod ((0 : Nat) : Int) 10 = ((0 : Nat) : Int) := by kernel_rfl
    rw [dec_ba, if_pos (by omega), tallyroomref04_Digits.l0]
    simp only [Option.bind_some]
    rw [hm, e, hw, if_pos (by rw [hsz]; omega), if_pos rfl, if_pos (by rw [ByteArray.size_append, hsz]; omega)]
  | succ d ih =>
    intro u x hu hu2 hx
    have hm : Int.tmod ((u : Nat) : Int) 10 = ((u % 10 : Nat) : Int) := by rw [Int.tmod_eq_emod_of_nonneg (by omega)]; omega
    have hw : IntKind.u64.wrap (Int.tdiv ((u : Nat) : Int) 10) = ((u / 10 : Nat) : Int) := by rw [Int.tdiv_eq_ediv_of_nonneg (by omega), IntKind.wrap_u64]; omega
    have e := one_digit (u % 10) (by omega)
    have hsz : (⟨#[UInt8.ofNat (48 + u % 10)]⟩ : ByteArray).size = 1 := rfl
    by_cases h10 : u < 10
    · refine ⟨1, ?_⟩
      have h0 : u / 10 = 0 := by omega
      have hs2 : (⟨#[UInt8.ofNat (48 + u)]⟩ : ByteArray).size = 1 := rfl
      rw [dec_ba, if_pos h10, tallyroomref04_Digits.l0]
      simp only [Option.bind_some]
      rw [hm, e, hw, show u % 10 = u from by omega, h0, if_pos (by rw [hs2]; omega), if_pos (by rfl), if_pos (by rw [ByteArray.size_append, hs2]; omega)]
    · obtain ⟨k, hk⟩ := ih (u / 10) ((⟨#[UInt8.ofNat (48 + u % 10)]⟩ : ByteArray) ++ x) (by rw [Nat.pow_succ] at hu; omega) (by omega) (by rw [ByteArray.size_append, hsz]; omega)
      refine ⟨k + 1, ?_⟩
      rw [dec_ba, if_neg h10, tallyroomref04_Digits.l0]
      simp only [Option.bind_some]
      rw [hm, e, hw, if_pos (by rw [hsz]; omega), if_neg (by omega), hk]
theorem digits_f (n : Int) (h0 : -9223372036854775808 ≤ n) (h1 : n ≤ 9223372036854775807) : ∃ k, tallyroomref04_Digits.f k n = some (itoaS n) := by
  unfold tallyroomref04_Digits.f itoaS Lib.itoa
  by_cases hn : n < 0
  · obtain ⟨k, hk⟩ := dig_l0 ⟨#[45]⟩ (by decide) 20 n.natAbs ByteArray.empty (by omega) (by omega) (by decide)
    refine ⟨k + 1, ?_⟩
    have e : (IntKind.u64.wrap ((IntKind.u64.wrap (wrap64 (-(wrap64 (n + 1))))) + 1)) = (n.natAbs : Int) := by
      rw [IntKind.wrap_u64, IntKind.wrap_u64]; unfold wrap64; omega
    rw [if_pos hn, if_pos hn, tallyroomref04_Digits.j0, e]
    refine hk.trans ?_
    congr 1
    apply ByteArray.ext
    simp
  · obtain ⟨k, hk⟩ := dig_l0 ⟨#[]⟩ (by decide) 20 n.toNat ByteArray.empty (by omega) (by omega) (by decide)
    refine ⟨k + 1, ?_⟩
    have e : IntKind.u64.wrap n = (n.toNat : Int) := by rw [IntKind.wrap_u64]; omega
    rw [if_neg hn, if_neg hn, tallyroomref04_Digits.j0, e]
    refine hk.trans ?_
    congr 1
    apply ByteArray.ext
    simp
def okV (x : Va) : Prop := -9223372036854775808 ≤ x.n ∧ x.n ≤ 9223372036854775807
theorem RText_c (x : Va) (hx : okV x) (hr : rightB x = true) (w : World) : Calls Tryd.prog 14 #[x.c] w fun e w' => e = .returned (.string (textA (anyA x))) ∧ Below w.heap.size w w' := by
  obtain ⟨k, hk⟩ := digits_f x.n hx.1 hx.2
  refine tallyroomref04_Text.calls k x.k x.n x.s _ w ?_
  unfold tallyroomref04_Text.f
  have hk3 := kinds_of hr
  obtain ⟨xk, n, s⟩ := x
  simp only at hk hk3 ⊢
  rcases hk3 with rfl | rfl | rfl
  · rw [if_pos rfl, hk]
    unfold anyA; rw [hr]; rfl
  · rw [if_neg (by decide), if_pos rfl]
    unfold anyA; rw [hr]
    by_cases h1 : n = 1
    · subst h1; rfl
    · rw [if_neg h1]
      have : (n == 1) = false := by simpa using h1
      show _ = some (bS (n == 1))
      rw [this]; rfl
  · rw [if_neg (by decide), if_neg (by decide)]
    unfold anyA; rw [hr]; rfl

theorem empty_of {s : ByteArray} (h : s.toList = []) : s = ByteArray.empty := toList_inj (h.trans (by rw [ByteArray.toList_eq]; rfl))
theorem of_any (x : Va) (hr : rightB x = true) : ofA (anyA x) = (x, 0) := by
  have hk3 := kinds_of hr
  have hr' := hr
  obtain ⟨k, n, s⟩ := x
  simp only at hk3
  rcases hk3 with rfl | rfl | rfl
  · unfold rightB at hr'
    simp at hr'
    unfold anyA; rw [hr]
    obtain rfl := empty_of hr'
    rfl
  · unfold rightB at hr'
    simp at hr'
    unfold anyA; rw [hr]
    obtain rfl := empty_of hr'.1
    rcases hr'.2 with rfl | rfl <;> rfl
  · unfold rightB at hr'
    simp at hr'
    unfold anyA; rw [hr]
    obtain ⟨rfl, h⟩ := hr'
    show (if (s.size : Int) ≤ 4096 then _ else _) = _
    rw [if_pos (by omega)]
theorem int_any (x : Va) (hr : rightB x = true) : intA (anyA x) = (x.n, decide (x.k ≠ 3)) := by
  have hk3 := kinds_of hr
  have hr' := hr
  obtain ⟨k, n, s⟩ := x
  simp only at hk3
  rcases hk3 with rfl | rfl | rfl
  · unfold anyA; rw [hr]; rfl
  · unfold rightB at hr'
    simp at hr'
    unfold anyA; rw [hr]
    rcases hr'.2 with rfl | rfl <;> rfl
  · unfold rightB at hr'
    simp at hr'
    unfold anyA; rw [hr]
    obtain ⟨rfl, h⟩ := hr'
    rfl
theorem any_ok (x : Va) (hx : okV x) : okA (anyA x) := by
  unfold anyA
  split
  · split
    · exact hx
    · split <;> exact trivial
  · exact trivial
end Go.Proofs.YtcglhpagimkajaaDoor.Vl
