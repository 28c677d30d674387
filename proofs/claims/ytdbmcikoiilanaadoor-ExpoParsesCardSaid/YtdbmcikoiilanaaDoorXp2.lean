/- expo, the plain law (2): numbers, lines, texts, there and back; sizes. No program. -/
import Derived.Test.YtdbmcikoiilanaaDoorXp1
set_option linter.unusedVariables false
set_option linter.unusedSimpArgs false
namespace Go.Proofs.YtdbmcikoiilanaaDoor.Xp
open Go.RowKit

theorem pu_append : ∀ (l r : BL) (acc : Nat), Lib.parseUint10 acc (l ++ r) = match Lib.parseUint10 acc l with | .ok a => Lib.parseUint10 a r | .syntax => .syntax | .range => .range
  | [], r, acc => rfl
  | c :: l, r, acc => by
    rw [List.cons_append, Lib.parseUint10, Lib.parseUint10]
    split
    · split
      · rfl
      · split
        · rfl
        · exact pu_append l r _
    · rfl
theorem pu_dig (a d : Nat) (hd : d < 10) (h : a * 10 + d < 18446744073709551616) : Lib.parseUint10 a [UInt8.ofNat (48 + d)] = .ok (a * 10 + d) := by
  have e : (UInt8.ofNat (48 + d)).toNat = 48 + d := by rw [UInt8.toNat_ofNat']; omega
  rw [Lib.parseUint10, e, if_pos (by omega), if_neg (by omega), if_neg (by omega), show 48 + d - 48 = d from by omega]; rfl
theorem pu_dec (u : Nat) (h : u < 18446744073709551616) : Lib.parseUint10 0 (Lib.decDigits u) = .ok u := by
  induction u using Nat.strongRecOn with
  | ind u ih =>
    by_cases hu : u < 10
    · rw [Lib.decDigits_one hu, pu_dig 0 u hu (by omega)]; simp
    · rw [Lib.decDigits, dif_neg hu, pu_append, ih (u / 10) (by omega) (by omega)]
      show Lib.parseUint10 (u / 10) _ = _
      rw [pu_dig (u / 10) (u % 10) (by omega) (by omega)]
      congr 1; omega
theorem dec_ne (u : Nat) : Lib.decDigits u ≠ [] := by
  rw [Lib.decDigits]; split <;> simp
theorem dec_10 (u : Nat) : ∀ c ∈ Lib.decDigits u, c ≠ 10 := by
  induction u using Nat.strongRecOn with
  | ind u ih =>
    intro c hc
    have aux : ∀ d, d < 10 → UInt8.ofNat (48 + d) ≠ 10 := by decide
    by_cases hu : u < 10
    · rw [Lib.decDigits_one hu, List.mem_singleton] at hc
      subst hc; exact aux u hu
    · rw [Lib.decDigits, dif_neg hu] at hc
      rcases List.mem_append.1 hc with h | h
      · exact ih (u / 10) (by omega) c h
      · rw [List.mem_singleton] at h; subst h; exact aux _ (by omega)
theorem num_dec (u : Nat) (h : u < 18446744073709551616) : numM (Lib.decDigits u) = some u := by
  unfold numM Lib.parseMag
  rw [if_neg (dec_ne u), pu_dec u h]
theorem tail_back (nm : BL) (ls : List Lb) (v : Nat) (hv : v < 18446744073709551616) (t : BL) : tailM nm ls (32 :: (Lib.decDigits v ++ 10 :: t)) = some (⟨nm, ls, v⟩, t) := by
  unfold tailM
  rw [nextM, if_pos rfl, Option.bind_some, until_hit 10 _ _ (fun h => dec_10 v 10 h rfl), Option.bind_some, num_dec v hv]; rfl
theorem lab_first (x : Lb) (h : keyL x.k = true) (r : BL) : nextM 125 (labL x ++ r) = none := by
  unfold labL
  cases hk : x.k with
  | nil => rw [hk] at h; simp [keyL] at h
  | cons c k =>
    rw [hk] at h
    have := (isK_ne c (key_mem h c List.mem_cons_self)).2.1
    simp [nextM, this]
theorem line_back (x : Ln) (h : rightL x = true) (hv : x.v < 18446744073709551616) (t : BL) : lineM (lineP x ++ t) = some (x, t) := by
  obtain ⟨n, ls, v⟩ := x
  simp only [rightL, Bool.and_eq_true, List.all_eq_true] at h
  have e : lineP ⟨n, ls, v⟩ ++ t = n ++ 123 :: (labsL ls ++ 125 :: 32 :: (Lib.decDigits v ++ 10 :: t)) := by simp [lineP]
  rw [e]
  unfold lineM
  rw [until_hit 123 _ _ (fun hm => (isK_ne _ (key_mem h.1 _ hm)).1 rfl), Option.bind_some]
  cases ls with
  | nil =>
    simp only [labsL, List.nil_append, nextM, if_true]
    exact tail_back n [] v hv t
  | cons y ys =>
    have hy := h.2 y List.mem_cons_self
    have e2 : labsL (y :: ys) ++ 125 :: 32 :: (Lib.decDigits v ++ 10 :: t) = labL y ++ ((ys.flatMap fun y => 44 :: labL y) ++ 125 :: (32 :: (Lib.decDigits v ++ 10 :: t))) := by simp [labsL]
    rw [e2]
    simp only [lab_first y hy]
    rw [lab_rest ys y _ _ [] (fun z hz => h.2 z hz) (by
      have := labs_len ys
      simp only [List.length_append]; omega), Option.bind_some, nextM, if_pos rfl, Option.bind_some]
    exact tail_back n (y :: ys) v hv t
theorem lineP_ne (x : Ln) : lineP x ≠ [] := by simp [lineP]
theorem parse_back : ∀ (xs : List Ln) (k : Nat) (t : BL) (acc : List Ln), (∀ x ∈ xs, rightL x = true ∧ x.v < 18446744073709551616) → parseF (xs.length + k) (xs.flatMap lineP ++ t) acc = parseF k t (acc ++ xs)
  | [], k, t, acc, _ => by simp
  | x :: xs, k, t, acc, h => by
    have hx := h x List.mem_cons_self
    rw [show (x :: xs).length + k = (xs.length + k) + 1 from by simp; omega, parseF, if_neg (by simp [lineP_ne])]
    rw [List.flatMap_cons, List.append_assoc, line_back x hx.1 hx.2, Option.bind_some, parse_back xs k t _ (fun y hy => h y (List.mem_cons_of_mem _ hy))]
    simp
theorem parse_mono : ∀ (k : Nat) (s : BL) (acc xs : List Ln), parseF k s acc = some xs → parseF (k + 1) s acc = some xs
  | 0, s, acc, xs, h => by simp [parseF] at h
  | k + 1, s, acc, xs, h => by
    rw [parseF] at h ⊢
    split at h
    · rename_i e; rw [if_pos e]; exact h
    · rename_i e
      rw [if_neg e]
      obtain ⟨p, hp, hq⟩ := Option.bind_eq_some_iff.1 h
      rw [hp, Option.bind_some]
      exact parse_mono k _ _ _ hq
theorem parse_le (k m : Nat) (s : BL) (acc xs : List Ln) (h : parseF k s acc = some xs) : parseF (k + m) s acc = some xs := by
  induction m with
  | zero => exact h
  | succ m ih => exact parse_mono _ _ _ _ ih
theorem flat_len : ∀ (xs : List Ln), xs.length ≤ (xs.flatMap lineP).length
  | [] => by simp
  | x :: xs => by
    have := flat_len xs
    have h2 : 0 < (lineP x).length := List.length_pos_iff.2 (lineP_ne x)
    simp only [List.flatMap_cons, List.length_append, List.length_cons]; omega
theorem parse_print (xs : List Ln) (hv : ∀ x ∈ xs, x.v < 18446744073709551616) : parseM (printP xs) = some (xs.filter rightL) := by
  unfold parseM printP
  have h := parse_back (xs.filter rightL) 1 [] [] (fun x hx => ⟨(List.mem_filter.1 hx).2, hv x (List.mem_filter.1 hx).1⟩)
  rw [List.append_nil, List.nil_append] at h
  have h1 : parseF 1 [] (xs.filter rightL) = some (xs.filter rightL) := by rw [parseF, if_pos rfl]
  rw [h1] at h
  have hl := flat_len (xs.filter rightL)
  have := parse_le _ (((xs.filter rightL).flatMap lineP).length - (xs.filter rightL).length) _ _ _ h
  rw [show (xs.filter rightL).length + 1 + (((xs.filter rightL).flatMap lineP).length - (xs.filter rightL).length) = ((xs.filter rightL).flatMap lineP).length + 1 from by omega] at this
  exact this
theorem print_filter (xs : List Ln) : printP (xs.filter rightL) = printP xs := by unfold printP; rw [List.filter_filter]; simp
theorem parseR_print (xs : List Ln) (hv : ∀ x ∈ xs, x.v < 18446744073709551616) : parseR (printP xs) = some (xs.filter rightL) := by
  unfold parseR
  rw [parse_print xs hv, Option.bind_some, if_pos (print_filter xs)]
theorem print_append (xs ys : List Ln) : printP (xs ++ ys) = printP xs ++ printP ys := by simp [printP]
theorem parseR_text (s : BL) (xs : List Ln) (h : parseR s = some xs) : printP xs = s := by
  unfold parseR at h
  obtain ⟨ys, h1, h2⟩ := Option.bind_eq_some_iff.1 h
  split at h2
  · rename_i e; cases h2; exact e
  · cases h2
end Go.Proofs.YtdbmcikoiilanaaDoor.Xp
