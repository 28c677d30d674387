/- script, the plain law: hex digits, words, small numbers, a step's line, a text's steps. No program's run here (but Check's function, as printed). -/
import Derived.Test.YtbcdlbdljejlcaaDoorPs1
import Derived.Lib.SplitLaws
import Derived.Lib.CutLaws
import Derived.Lib.AtoiTie
import Derived.Lib.ItoaMem
set_option linter.unusedVariables false
set_option linter.unusedSimpArgs false
namespace Go.Proofs.YtbcdlbdljejlcaaDoor.Sc
open Go.RowKit Go.Proofs.YtbcdlbdljejlcaaDoor.Ps

abbrev Stp := S32
deriving instance DecidableEq for S32

/-! hex digits -/
def hv (c : UInt8) : Option Nat := if 48 ≤ c.toNat ∧ c.toNat ≤ 57 then some (c.toNat - 48) else if 97 ≤ c.toNat ∧ c.toNat ≤ 102 then some (c.toNat - 87) else none
def dig (n : Nat) : UInt8 := if n < 10 then UInt8.ofNat (48 + n) else UInt8.ofNat (87 + n)
theorem hv_dig (n : Nat) (h : n < 16) : hv (dig n) = some n := by
  have key : (List.range 16).all (fun n => hv (dig n) == some n) = true := by decide +kernel
  simpa using List.all_eq_true.1 key n (List.mem_range.2 h)
theorem dig_hv (c : UInt8) (n : Nat) (h : hv c = some n) : dig n = c ∧ n < 16 := by
  have key : (List.range 256).all (fun k => match hv (UInt8.ofNat k) with | some n => dig n == UInt8.ofNat k && decide (n < 16) | none => true) = true := by decide +kernel
  have := List.all_eq_true.1 key c.toNat (List.mem_range.2 c.toNat_lt)
  rw [UInt8.ofNat_toNat, h] at this
  simpa using this
theorem dig_ne (n : Nat) (h : n < 16) : dig n ≠ 32 ∧ dig n ≠ 10 ∧ dig n ≠ 45 := by
  have key : (List.range 16).all (fun n => dig n != 32 && dig n != 10 && dig n != 45) = true := by decide +kernel
  have := List.all_eq_true.1 key n (List.mem_range.2 h)
  simp at this
  exact ⟨this.1.1, this.1.2, this.2⟩

def unL : List UInt8 → List Int
  | a :: b :: r => ((16 * (hv a).getD 0 + (hv b).getD 0 : Nat) : Int) :: unL r
  | _ => []
def hexB (x : Int) : List UInt8 := [dig (x.toNat / 16), dig (x.toNat % 16)]
def hexR (xs : List Int) : List UInt8 := xs.flatMap hexB
def hexL (xs : List Int) : List UInt8 := if xs = [] then [45] else hexR xs
def isHex (l : List UInt8) : Bool := l.all fun c => (hv c).isSome
def unhex (l : List UInt8) : Option (List Int) := if l = [45] then some [] else if isHex l = true ∧ l.length % 2 = 0 ∧ l ≠ [] then some (unL l) else none
def isB (xs : List Int) : Prop := ∀ x ∈ xs, 0 ≤ x ∧ x < 256

theorem hexR_cons (x : Int) (xs : List Int) : hexR (x :: xs) = dig (x.toNat / 16) :: dig (x.toNat % 16) :: hexR xs := rfl
theorem unL_hexR : ∀ (xs : List Int), isB xs → unL (hexR xs) = xs ∧ isHex (hexR xs) = true ∧ (hexR xs).length = 2 * xs.length
  | [], _ => ⟨rfl, rfl, rfl⟩
  | x :: xs, h => by
    obtain ⟨h1, h2, h3⟩ := unL_hexR xs (fun y hy => h y (List.mem_cons_of_mem _ hy))
    have hx := h x List.mem_cons_self
    have e1 := hv_dig (x.toNat / 16) (by omega)
    have e2 := hv_dig (x.toNat % 16) (by omega)
    refine ⟨?_, ?_, ?_⟩
    · rw [hexR_cons, unL, h1, e1, e2]
      simp only [Option.getD_some, List.cons.injEq, and_true]
      omega
    · rw [hexR_cons]; simp only [isHex, List.all_cons, e1, e2, Option.isSome_some, Bool.true_and]; exact h2
    · rw [hexR_cons]; simp only [List.length_cons, h3]; omega
theorem hexR_unL : ∀ (l : List UInt8), isHex l = true → l.length % 2 = 0 → hexR (unL l) = l ∧ isB (unL l)
  | [], _, _ => ⟨rfl, fun x hx => absurd hx List.not_mem_nil⟩
  | [a], _, h => by simp at h
  | a :: b :: r, h, hl => by
    simp only [isHex, List.all_cons, Bool.and_eq_true] at h
    obtain ⟨ha, hb, hr⟩ := h
    obtain ⟨x, hx⟩ := Option.isSome_iff_exists.1 ha
    obtain ⟨y, hy⟩ := Option.isSome_iff_exists.1 hb
    obtain ⟨e1, l1⟩ := dig_hv a x hx
    obtain ⟨e2, l2⟩ := dig_hv b y hy
    obtain ⟨h1, h2⟩ := hexR_unL r hr (by simp at hl; omega)
    have hu : unL (a :: b :: r) = ((16 * x + y : Nat) : Int) :: unL r := by rw [unL, hx, hy]; rfl
    rw [hu]
    refine ⟨?_, ?_⟩
    · rw [hexR_cons, h1]
      have q1 : (((16 * x + y : Nat) : Int)).toNat / 16 = x := by omega
      have q2 : (((16 * x + y : Nat) : Int)).toNat % 16 = y := by omega
      rw [q1, q2, e1, e2]
    · intro z hz
      rcases List.mem_cons.1 hz with rfl | hz
      · omega
      · exact h2 z hz
theorem unhex_hexL (xs : List Int) (h : isB xs) : unhex (hexL xs) = some xs := by
  unfold hexL
  split
  · rename_i e; subst e; rfl
  · rename_i e
    obtain ⟨h1, h2, h3⟩ := unL_hexR xs h
    have hne : xs.length ≠ 0 := fun h => e (List.eq_nil_of_length_eq_zero h)
    unfold unhex
    rw [if_neg (fun h => by rw [h] at h3; simp at h3; omega), if_pos ⟨h2, by omega, fun h => by rw [h] at h3; simp only [List.length_nil] at h3; omega⟩, h1]
theorem hexL_unhex (l : List UInt8) (xs : List Int) (h : unhex l = some xs) : hexL xs = l ∧ isB xs := by
  unfold unhex at h
  split at h
  · rename_i e; obtain rfl := Option.some.inj h; exact ⟨e.symm ▸ rfl, fun x hx => absurd hx List.not_mem_nil⟩
  · split at h
    · rename_i e
      obtain rfl := Option.some.inj h
      obtain ⟨h1, h2⟩ := hexR_unL l e.1 e.2.1
      refine ⟨?_, h2⟩
      unfold hexL
      rw [if_neg (fun h0 => e.2.2 (by rw [← h1, h0]; rfl)), h1]
    · cases h
theorem hexR_mem : ∀ (xs : List Int), isB xs → ∀ c ∈ hexR xs, c ≠ 32 ∧ c ≠ 10
  | [], _, c, hc => absurd hc List.not_mem_nil
  | x :: xs, h, c, hc => by
    have hx := h x List.mem_cons_self
    rw [hexR_cons] at hc
    have d1 := dig_ne (x.toNat / 16) (by omega)
    have d2 := dig_ne (x.toNat % 16) (by omega)
    rcases List.mem_cons.1 hc with rfl | hc
    · exact ⟨d1.1, d1.2.1⟩
    · rcases List.mem_cons.1 hc with rfl | hc
      · exact ⟨d2.1, d2.2.1⟩
      · exact hexR_mem xs (fun y hy => h y (List.mem_cons_of_mem _ hy)) c hc
theorem hexL_mem (xs : List Int) (h : isB xs) (c : UInt8) (hc : c ∈ hexL xs) : c ≠ 32 ∧ c ≠ 10 := by
  unfold hexL at hc
  split at hc
  · simp at hc; subst hc; decide
  · exact hexR_mem xs h c hc

/-! words -/
def wordsL : List UInt8 → List (List UInt8)
  | [] => [[]]
  | c :: r => if c = 32 then [] :: wordsL r else match wordsL r with | w :: ws => (c :: w) :: ws | [] => [[c]]
theorem words_ne (l : List UInt8) : wordsL l ≠ [] := by
  cases l with
  | nil => simp [wordsL]
  | cons c r =>
    simp only [wordsL]
    split
    · simp
    · split <;> simp
theorem words_none : ∀ (l : List UInt8), 32 ∉ l → wordsL l = [l]
  | [], _ => rfl
  | c :: r, h => by
    have hc : c ≠ 32 := fun e => h (by rw [e]; exact List.mem_cons_self)
    rw [wordsL, if_neg hc, words_none r (fun e => h (List.mem_cons_of_mem _ e))]
theorem words_app : ∀ (a b : List UInt8), 32 ∉ a → wordsL (a ++ 32 :: b) = a :: wordsL b
  | [], b, _ => by simp [wordsL]
  | c :: a, b, h => by
    have hc : c ≠ 32 := fun e => h (by rw [e]; exact List.mem_cons_self)
    rw [List.cons_append, wordsL, if_neg hc, words_app a b (fun e => h (List.mem_cons_of_mem _ e))]
def joinW : List (List UInt8) → List UInt8
  | [] => []
  | [w] => w
  | w :: x :: ws => w ++ 32 :: joinW (x :: ws)
theorem join_words : ∀ (l : List UInt8), joinW (wordsL l) = l
  | [] => rfl
  | c :: r => by
    have ih := join_words r
    rw [wordsL]
    by_cases hc : c = 32
    · rw [if_pos hc]
      rcases hw : wordsL r with _ | ⟨w, ws⟩
      · exact absurd hw (words_ne r)
      · rw [joinW, ← hw, ih, hc]; rfl
    · rw [if_neg hc]
      rcases hw : wordsL r with _ | ⟨w, ws⟩
      · exact absurd hw (words_ne r)
      · rw [hw] at ih
        cases ws with
        | nil => simp only [joinW] at ih ⊢; rw [ih]
        | cons x ws => simp only [joinW] at ih ⊢; rw [← ih]; rfl
/-- where a byte stands first. -/
theorem first_of_index (l : List UInt8) (c : UInt8) (i : Nat) (h : Lib.indexByte l c = i) : l = l.take i ++ c :: l.drop (i + 1) ∧ c ∉ l.take i := by
  obtain ⟨h1, h2⟩ := Lib.indexByte_some h
  obtain ⟨hi, e⟩ := List.getElem?_eq_some_iff.1 h1
  refine ⟨?_, fun hm => ?_⟩
  · conv => lhs; rw [← List.take_append_drop i l]
    rw [List.drop_eq_getElem_cons hi, e]
  · obtain ⟨k, hk, hke⟩ := List.mem_iff_getElem.1 hm
    rw [List.length_take] at hk
    refine h2 k (by omega) ?_
    rw [List.getElem?_eq_getElem (by omega), ← hke]; simp
theorem none_of_index (l : List UInt8) (c : UInt8) (h : Lib.indexByte l c = -1) : c ∉ l := fun hm => by
  obtain ⟨k, hk, hke⟩ := List.mem_iff_getElem.1 hm
  exact Lib.indexByte_none h k (by rw [List.getElem?_eq_getElem hk, hke])
theorem split_words : ∀ (k : Nat) (l : List UInt8), l.count 32 = k → Lib.splitK [32] 0 k l = wordsL l
  | 0, l, h => by rw [Lib.splitK, words_none l (List.count_eq_zero.1 h)]
  | k + 1, l, h => by
    have hm : (32 : UInt8) ∈ l := List.count_pos_iff.1 (by omega)
    have hge := Lib.indexByte_ge l 32
    have hne : Lib.indexByte l 32 ≠ -1 := fun e => none_of_index l 32 e hm
    obtain ⟨i, hi⟩ : ∃ i : Nat, Lib.indexByte l 32 = i := ⟨(Lib.indexByte l 32).toNat, by omega⟩
    obtain ⟨e1, e2⟩ := first_of_index l 32 i hi
    have hx : Lib.index l [32] = i := by rw [Lib.index_one]; exact hi
    have hc : (l.drop (i + 1)).count 32 = k := by
      rw [e1, List.count_append, List.count_eq_zero.2 e2, List.count_cons_self] at h; omega
    rw [Lib.splitK, if_neg (by rw [hx]; simp), hx]
    have q : ((i : Int)).toNat = i := by omega
    rw [q, Nat.add_zero]
    show l.take i :: Lib.splitK [32] 0 k (l.drop (i + 1)) = _
    rw [split_words k _ hc]
    conv => rhs; rw [e1]
    rw [words_app _ _ e2]
theorem cut_hit (a b : List UInt8) (h : 10 ∉ a) : Lib.cut (a ++ 10 :: b) [10] = (a, b, true) := by
  have hge := Lib.indexByte_ge (a ++ 10 :: b) 10
  have hne : Lib.indexByte (a ++ 10 :: b) 10 ≠ -1 := fun e => none_of_index _ 10 e (by simp)
  obtain ⟨i, hi⟩ : ∃ i : Nat, Lib.indexByte (a ++ 10 :: b) 10 = i := ⟨(Lib.indexByte (a ++ 10 :: b) 10).toNat, by omega⟩
  obtain ⟨h1, h2⟩ := Lib.indexByte_some hi
  have e : i = a.length := by
    rcases Nat.lt_trichotomy i a.length with hlt | he | hgt
    · rw [List.getElem?_append_left hlt] at h1
      exact absurd (List.mem_of_getElem? h1) h
    · exact he
    · exact absurd (by simp) (h2 a.length hgt)
  have hx : Lib.index (a ++ 10 :: b) [10] = (a.length : Int) := by rw [Lib.index_one, hi, e]
  unfold Lib.cut
  rw [hx, if_pos (by omega)]
  have q : ((a.length : Int)).toNat = a.length := by omega
  rw [q]
  simp
theorem cut_miss (s : List UInt8) (h : 10 ∉ s) : Lib.cut s [10] = (s, [], false) := by
  have hx : Lib.index s [10] = -1 := by
    rw [Lib.index_one]
    have hge := Lib.indexByte_ge s 10
    rcases (show Lib.indexByte s 10 < 0 ∨ 0 ≤ Lib.indexByte s 10 by omega) with hl | hg
    · omega
    · obtain ⟨i, hi⟩ : ∃ i : Nat, Lib.indexByte s 10 = i := ⟨(Lib.indexByte s 10).toNat, by omega⟩
      exact absurd (List.mem_of_getElem? (Lib.indexByte_some hi).1) h
  unfold Lib.cut
  rw [hx, if_neg (by omega)]
theorem cut_cases (s : List UInt8) : (10 ∉ s ∧ Lib.cut s [10] = (s, [], false)) ∨ ∃ a b, 10 ∉ a ∧ s = a ++ 10 :: b ∧ Lib.cut s [10] = (a, b, true) := by
  by_cases h : (10 : UInt8) ∈ s
  · obtain ⟨a, b, e, ha⟩ := List.eq_append_cons_of_mem h
    exact .inr ⟨a, b, ha, e, by rw [e]; exact cut_hit a b ha⟩
  · exact .inl ⟨h, cut_miss s h⟩
end Go.Proofs.YtbcdlbdljejlcaaDoor.Sc
