/- The order of strings and of lists of strings; the key of a list of strings. No memory in it. -/
import Derived.Test.YtkmfgacfccgdcaaDoorMgSeriesOrder5
import Derived.Test.YtkmfgacfccgdcaaDoorMgSeriesOrder4
import Derived.Test.YtkmfgacfccgdcaaDoorMgSeriesOrder1
import Derived.Lib.ItoaNum
set_option linter.unusedVariables false
set_option linter.unusedSimpArgs false
namespace Go.Proofs.YtkmfgacfccgdcaaDoor.Sr
open Go.RowKit Go.Proofs.YtkmfgacfccgdcaaDoor.B0 Go.Proofs.YtkmfgacfccgdcaaDoor.Ps Go.Proofs.YtkmfgacfccgdcaaDoorW.PrintWords Go.Proofs.YtkmfgacfccgdcaaDoor.By

def cs (a b : ByteArray) : Int := if Op.bytesLess a.toList b.toList = true then -1 else if Op.bytesLess b.toList a.toList = true then 1 else 0
theorem cmp_s (a b : ByteArray) : cmp_Compare_string.f a b = some (cs a b) := by
  unfold cmp_Compare_string.f cmp_isNaN_string.f cs
  simp only [Option.bind_some, ne_eq, not_true_eq_false, decide_false, bne_self_eq_false, Bool.false_eq_true, if_false]
  split
  · rfl
  · split <;> rfl
theorem toList_inj {a b : ByteArray} (h : a.toList = b.toList) : a = b := by
  rw [ByteArray.toList_eq, ByteArray.toList_eq] at h
  cases a; cases b; congr 1; exact Array.toList_inj.1 h
theorem data_inj {a b : ByteArray} (h : a.data.toList = b.data.toList) : a = b := by
  cases a; cases b; congr 1; exact Array.toList_inj.1 h
theorem cs_lt {a b : ByteArray} : cs a b < 0 ↔ Op.bytesLess a.toList b.toList = true := by
  unfold cs; split
  · simp_all
  · split <;> simp_all
theorem cs_eq {a b : ByteArray} : cs a b = 0 ↔ a = b := by
  unfold cs
  constructor
  · intro h
    split at h
    · omega
    · split at h
      · omega
      · rename_i h1 h2
        exact toList_inj (bl_total (by simpa using h1) (by simpa using h2))
  · rintro rfl
    rw [bl_irrefl]; rfl
theorem cs_val (a b : ByteArray) : cs a b = -1 ∨ cs a b = 0 ∨ cs a b = 1 := by unfold cs; split <;> (try split) <;> simp
theorem cs_neg (a b : ByteArray) : cs b a = - cs a b := by
  unfold cs
  cases h : Op.bytesLess a.toList b.toList with
  | true => rw [bl_asymm h]; rfl
  | false => cases h2 : Op.bytesLess b.toList a.toList <;> rfl
theorem cs_trans {a b c : ByteArray} (h1 : cs a b < 0) (h2 : cs b c < 0) : cs a c < 0 := cs_lt.2 (bl_trans (cs_lt.1 h1) (cs_lt.1 h2))

/-- lists of texts. -/
def cmpL : List ByteArray → List ByteArray → Int
  | [], [] => 0
  | [], _ :: _ => -1
  | _ :: _, [] => 1
  | x :: xs, y :: ys => if cs x y = 0 then cmpL xs ys else cs x y
theorem cmpL_val : ∀ a b : List ByteArray, cmpL a b = -1 ∨ cmpL a b = 0 ∨ cmpL a b = 1
  | [], [] => by simp [cmpL]
  | [], _ :: _ => by simp [cmpL]
  | _ :: _, [] => by simp [cmpL]
  | x :: xs, y :: ys => by
    simp only [cmpL]
    split
    · exact cmpL_val xs ys
    · exact cs_val x y
theorem cmpL_eq : ∀ {a b : List ByteArray}, cmpL a b = 0 ↔ a = b
  | [], [] => by simp [cmpL]
  | [], _ :: _ => by simp [cmpL]
  | _ :: _, [] => by simp [cmpL]
  | x :: xs, y :: ys => by
    simp only [cmpL]
    split
    · rename_i h
      rw [cmpL_eq, cs_eq.1 h]; simp
    · rename_i h
      constructor
      · intro h2; exact absurd h2 h
      · intro h2; simp only [List.cons.injEq] at h2; exact absurd (cs_eq.2 h2.1) h
theorem cmpL_neg : ∀ a b : List ByteArray, cmpL b a = - cmpL a b
  | [], [] => by simp [cmpL]
  | [], _ :: _ => by simp [cmpL]
  | _ :: _, [] => by simp [cmpL]
  | x :: xs, y :: ys => by
    simp only [cmpL]
    rw [cs_neg x y]
    by_cases h : cs x y = 0
    · rw [if_pos (by omega), if_pos h]; exact cmpL_neg xs ys
    · rw [if_neg (by omega), if_neg h]
theorem cmpL_lt_trans : ∀ {a b c : List ByteArray}, cmpL a b < 0 → cmpL b c < 0 → cmpL a c < 0
  | [], [], _, h1, _ => by simp [cmpL] at h1
  | [], _ :: _, [], _, h2 => by simp [cmpL] at h2
  | [], _ :: _, _ :: _, _, _ => by simp [cmpL]
  | _ :: _, [], _, h1, _ => by simp [cmpL] at h1
  | _ :: _, _ :: _, [], _, h2 => by simp [cmpL] at h2
  | x :: xs, y :: ys, z :: zs, h1, h2 => by
    simp only [cmpL] at h1 h2 ⊢
    by_cases e1 : cs x y = 0
    · obtain rfl := cs_eq.1 e1
      rw [if_pos e1] at h1
      by_cases e2 : cs x z = 0
      · rw [if_pos e2] at h2 ⊢; exact cmpL_lt_trans h1 h2
      · rw [if_neg e2] at h2 ⊢; exact h2
    · rw [if_neg e1] at h1
      by_cases e2 : cs y z = 0
      · obtain rfl := cs_eq.1 e2
        rw [if_neg e1]; exact h1
      · rw [if_neg e2] at h2
        have h3 := cs_trans h1 h2
        rw [if_neg (by omega)]; exact h3
theorem cmpL_le_trans {a b c : List ByteArray} (h1 : cmpL a b ≤ 0) (h2 : cmpL b c ≤ 0) : cmpL a c ≤ 0 := by
  by_cases e1 : cmpL a b = 0
  · obtain rfl := cmpL_eq.1 e1; exact h2
  · by_cases e2 : cmpL b c = 0
    · obtain rfl := cmpL_eq.1 e2; exact h1
    · have := cmpL_lt_trans (show cmpL a b < 0 by omega) (show cmpL b c < 0 by omega); omega

theorem wrap_succ {i n : Nat} (h : i < n) (hn : n ≤ 1000000) : wrap64 ((i : Int) + 1) = ((i + 1 : Nat) : Int) := by unfold wrap64; omega
theorem rdOf_nat (xs : List ByteArray) (i : Nat) (h : i < xs.length) : rdOf ByteArray.empty xs (i : Int) = xs[i] := by
  unfold rdOf
  rw [Int.toNat_natCast, List.getD_eq_getElem?_getD, List.getElem?_eq_getElem h]; rfl
theorem slc_l0 (xs ys : List ByteArray) (hx : xs.length ≤ 1000000) : ∀ (d i : Nat), i + d = xs.length → i ≤ ys.length → slices_Compare_string_string.l0 (d + 1) xs ys xs (xs.length : Int) (i : Int) = some (cmpL (xs.drop i) (ys.drop i)) := by
  intro d
  induction d with
  | zero =>
    intro i hi hy
    obtain rfl : i = xs.length := by omega
    simp only [slices_Compare_string_string.l0]
    rw [if_neg (by omega), List.drop_length]
    by_cases h : xs.length < ys.length
    · rw [if_pos (by omega), List.drop_eq_getElem_cons h]; rfl
    · rw [if_neg (by omega), List.drop_of_length_le (by omega)]; rfl
  | succ d ih =>
    intro i hi hy
    have hlt : i < xs.length := by omega
    simp only [slices_Compare_string_string.l0]
    rw [if_pos (by omega), if_pos (by omega), if_pos (by omega), List.drop_eq_getElem_cons hlt]
    by_cases h : i < ys.length
    · rw [if_neg (by omega), if_pos (by omega), List.drop_eq_getElem_cons h, rdOf_nat xs i hlt, rdOf_nat ys i h, cmp_s]
      simp only [Option.bind_some, cmpL]
      by_cases e : cs xs[i] ys[i] = 0
      · rw [if_pos e, if_pos e, wrap_succ hlt hx]; exact ih (i + 1) (by omega) (by omega)
      · rw [if_neg e, if_neg e]
    · rw [if_pos (by omega), (show ys.drop i = [] from List.drop_of_length_le (by omega))]; rfl
theorem slc_f (xs ys : List ByteArray) (hx : xs.length ≤ 1000000) : series_Compare.f (xs.length + 1) xs ys = some (cmpL xs ys) := by
  unfold series_Compare.f slices_Compare_string_string.f
  have := slc_l0 xs ys hx xs.length 0 (by omega) (by omega)
  simp only [List.drop_zero] at this
  rw [show (0 : Int) = ((0 : Nat) : Int) from rfl, this]; rfl
theorem ref_l0 (xs ys : List ByteArray) (hx : xs.length ≤ 1000000) : ∀ (d i : Nat), i + d = xs.length → i ≤ ys.length → tallyroomref20_Compare.l0 (2 * d + 2) xs ys (i : Int) = some (cmpL (xs.drop i) (ys.drop i)) := by
  intro d
  induction d with
  | zero =>
    intro i hi hy
    obtain rfl : i = xs.length := by omega
    simp only [tallyroomref20_Compare.l0]
    rw [if_neg (by omega), List.drop_length]
    simp only [tallyroomref20_Compare.j1, Bool.false_eq_true, if_false]
    by_cases h : xs.length < ys.length
    · rw [if_pos (by omega), List.drop_eq_getElem_cons h]; rfl
    · rw [if_neg (by omega), if_neg (by omega), List.drop_of_length_le (by omega)]; rfl
  | succ d ih =>
    intro i hi hy
    have hlt : i < xs.length := by omega
    have e2 : 2 * (d + 1) + 2 = (2 * d + 2) + 1 + 1 := by omega
    rw [e2]
    simp only [tallyroomref20_Compare.l0]
    rw [if_pos (by omega), List.drop_eq_getElem_cons hlt]
    by_cases h : i < ys.length
    · have hd : decide ((i : Int) < (ys.length : Int)) = true := by simp; omega
      rw [hd]
      simp only [tallyroomref20_Compare.j1, if_true]
      rw [if_pos (by omega), if_pos (by omega), if_pos (by omega), List.drop_eq_getElem_cons h, rdOf_nat xs i hlt, rdOf_nat ys i h]
      simp only [cmpL]
      by_cases e : cs xs[i] ys[i] = 0
      · have := cs_eq.1 e
        rw [if_pos e, this, bl_irrefl]
        simp only [Bool.false_eq_true, if_false]
        rw [wrap_succ hlt hx]; exact ih (i + 1) (by omega) (by omega)
      · rw [if_neg e]
        unfold cs at e ⊢
        split
        · rfl
        · split
          · rfl
          · simp_all
    · have hd : decide ((i : Int) < (ys.length : Int)) = false := by simp; omega
      rw [hd]
      simp only [tallyroomref20_Compare.j1, Bool.false_eq_true, if_false]
      rw [if_neg (by omega), if_pos (by omega), (show ys.drop i = [] from List.drop_of_length_le (by omega))]; rfl
theorem ref_f (xs ys : List ByteArray) (hx : xs.length ≤ 1000000) : tallyroomref20_Compare.f (2 * xs.length + 2) xs ys = some (cmpL xs ys) := by
  unfold tallyroomref20_Compare.f
  have := ref_l0 xs ys hx xs.length 0 (by omega) (by omega)
  simp only [List.drop_zero] at this
  exact this
theorem same_f (xs ys : List ByteArray) (hx : xs.length ≤ 1000000) : tallyroomref20_Same.f (2 * xs.length + 2) xs ys = some (decide (xs = ys)) := by
  unfold tallyroomref20_Same.f
  rw [ref_f xs ys hx]
  simp only [Option.bind_some, Option.some.injEq]
  by_cases h : xs = ys
  · subst h; simp [cmpL_eq.2 rfl]
  · have : cmpL xs ys ≠ 0 := fun hh => h (cmpL_eq.1 hh)
    simp [h, this]

/-- the key. -/
def keyS (s : ByteArray) : List UInt8 := Lib.itoa s.size ++ 58 :: s.data.toList
def keyL (xs : List ByteArray) : List UInt8 := xs.flatMap keyS
def val (l : List UInt8) : Nat := l.foldl (fun acc d => acc * 10 + (d.toNat - 48)) 0
theorem val_snoc (l : List UInt8) (d : UInt8) : val (l ++ [d]) = val l * 10 + (d.toNat - 48) := by simp [val]
theorem dig_nat {r : Nat} (h : r < 10) : (UInt8.ofNat (48 + r)).toNat = 48 + r := by
  rw [UInt8.toNat_ofNat']; omega
theorem val_dec (u : Nat) : val (Lib.decDigits u) = u := by
  induction u using Nat.strongRecOn with
  | _ u ih =>
    rw [Lib.decDigits]
    split
    · rename_i h
      show val ([] ++ [_]) = _
      rw [val_snoc, dig_nat h]; simp [val]
    · rename_i h
      rw [val_snoc, ih (u / 10) (by omega), dig_nat (by omega)]; omega
theorem dec_digs (u : Nat) : ∀ d ∈ Lib.decDigits u, d ≠ 58 := by
  induction u using Nat.strongRecOn with
  | _ u ih =>
    rw [Lib.decDigits]
    split
    · rename_i h
      intro d hd
      rw [List.mem_singleton] at hd
      intro hh; rw [hd] at hh
      have := congrArg UInt8.toNat hh
      rw [dig_nat h] at this
      have e : (58 : UInt8).toNat = 58 := rfl
      omega
    · rename_i h
      intro d hd
      rcases List.mem_append.1 hd with hd | hd
      · exact ih (u / 10) (by omega) d hd
      · rw [List.mem_singleton] at hd
        intro hh; rw [hd] at hh
        have := congrArg UInt8.toNat hh
        rw [dig_nat (by omega)] at this
        have e : (58 : UInt8).toNat = 58 := rfl
        omega
theorem itoa_nat (n : Nat) : Lib.itoa (n : Int) = Lib.decDigits n := by
  unfold Lib.itoa
  rw [if_neg (by omega), Int.toNat_natCast]
theorem split58 : ∀ {a b p q : List UInt8}, (∀ d ∈ a, d ≠ 58) → (∀ d ∈ b, d ≠ 58) → a ++ 58 :: p = b ++ 58 :: q → a = b ∧ p = q
  | [], [], _, _, _, _, h => by simpa using h
  | [], y :: b, _, _, _, hb, h => by
    simp only [List.nil_append, List.cons_append, List.cons.injEq] at h
    exact absurd h.1.symm (hb y (by simp))
  | x :: a, [], _, _, ha, _, h => by
    simp only [List.nil_append, List.cons_append, List.cons.injEq] at h
    exact absurd h.1 (ha x (by simp))
  | x :: a, y :: b, p, q, ha, hb, h => by
    simp only [List.cons_append, List.cons.injEq] at h
    have := split58 (fun d hd => ha d (by simp [hd])) (fun d hd => hb d (by simp [hd])) h.2
    exact ⟨by rw [h.1, this.1], this.2⟩
theorem size_data (s : ByteArray) : s.data.toList.length = s.size := by rw [Array.length_toList]; rfl
theorem keyL_inj : ∀ {xs ys : List ByteArray}, keyL xs = keyL ys → xs = ys
  | [], [], _ => rfl
  | [], y :: ys, h => by simp [keyL, keyS] at h
  | x :: xs, [], h => by simp [keyL, keyS] at h
  | x :: xs, y :: ys, h => by
    simp only [keyL, List.flatMap_cons, keyS, List.append_assoc, List.cons_append, itoa_nat] at h
    obtain ⟨h1, h2⟩ := split58 (dec_digs _) (dec_digs _) h
    have hs : x.size = y.size := by have := congrArg val h1; rwa [val_dec, val_dec] at this
    obtain ⟨h3, h4⟩ := List.append_inj h2 (by rw [size_data, size_data, hs])
    rw [data_inj h3, keyL_inj (xs := xs) (ys := ys) h4]
theorem keyL_snoc (xs : List ByteArray) (s : ByteArray) : keyL (xs ++ [s]) = keyL xs ++ keyS s := by simp [keyL]
def tot (xs : List ByteArray) : Nat := (xs.map ByteArray.size).sum
theorem dec_len (n : Nat) : ∀ d, n < 10 ^ d → 0 < d → (Lib.decDigits n).length ≤ d := by
  intro d
  induction d generalizing n with
  | zero => intro _ h; omega
  | succ d ih =>
    intro h _
    rw [Lib.decDigits]
    split
    · simp
    · rename_i h10
      by_cases hd : d = 0
      · subst hd; simp at h; omega
      · have := ih (n / 10) (by rw [Nat.pow_succ] at h; omega) (by omega)
        simp; omega
theorem keyL_len : ∀ (xs : List ByteArray), tot xs ≤ 1048576 → (keyL xs).length ≤ tot xs + 8 * xs.length
  | [], _ => by simp [keyL, tot]
  | x :: xs, h => by
    have e : tot (x :: xs) = x.size + tot xs := by simp [tot]
    have ih := keyL_len xs (by omega)
    have h1 := dec_len x.size 7 (by omega) (by omega)
    have h2 := size_data x
    have e2 : keyL (x :: xs) = keyS x ++ keyL xs := by simp [keyL]
    rw [e2]
    simp only [List.length_append, keyS, List.length_cons, itoa_nat]
    omega
end Go.Proofs.YtkmfgacfccgdcaaDoor.Sr
