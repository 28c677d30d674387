/- expo, the plain law: a line's text, the reader's way, there and back. No program. expo, the plain law (2): numbers, lines, texts, there and back; sizes. No program. -/
import Derived.WalkKit
import Derived.Lib.AtoiAll
import Derived.Lib.ItoaNum
set_option linter.unusedVariables false
set_option linter.unusedSimpArgs false
namespace Go.Proofs.YtdbmcikoiilanaaDoor.Xp
open Go.RowKit

abbrev BL := List UInt8
/-! keys -/
def isA (c : UInt8) : Bool := (97 ≤ c.toNat && c.toNat ≤ 122) || (65 ≤ c.toNat && c.toNat ≤ 90) || c == 95
def isK (c : UInt8) : Bool := isA c || (48 ≤ c.toNat && c.toNat ≤ 57) || c == 46
def keyL : BL → Bool
  | [] => false
  | c :: r => isA c && r.all isK && decide (r.length + 1 ≤ 64)
theorem isK_ne (c : UInt8) (h : isK c = true) : c ≠ 123 ∧ c ≠ 125 ∧ c ≠ 61 ∧ c ≠ 44 ∧ c ≠ 34 := by
  have key : (List.range 256).all (fun k => !isK (UInt8.ofNat k) || (UInt8.ofNat k != 123 && UInt8.ofNat k != 125 && UInt8.ofNat k != 61 && UInt8.ofNat k != 44 && UInt8.ofNat k != 34)) = true := by decide +kernel
  have := List.all_eq_true.1 key c.toNat (List.mem_range.2 c.toNat_lt)
  rw [UInt8.ofNat_toNat, h] at this
  simpa [and_assoc] using this
theorem isA_isK (c : UInt8) (h : isA c = true) : isK c = true := by simp [isK, h]
theorem key_mem {l : BL} (h : keyL l = true) : ∀ c ∈ l, isK c = true := by
  cases l with
  | nil => simp
  | cons a r =>
    simp only [keyL, Bool.and_eq_true, List.all_eq_true] at h
    intro c hc
    rcases List.mem_cons.1 hc with rfl | hc
    · exact isA_isK _ h.1.1
    · exact h.1.2 c hc

/-! texts in " -/
def esc (c : UInt8) : BL := if c = 92 ∨ c = 34 then [92, c] else if c = 10 then [92, 110] else [c]
def quoteL (t : BL) : BL := 34 :: (t.flatMap esc ++ [34])
structure Lb where
  k : BL
  t : BL
  deriving DecidableEq
structure Ln where
  n : BL
  ls : List Lb
  v : Nat
  deriving DecidableEq
def labL (x : Lb) : BL := x.k ++ 61 :: quoteL x.t
def labsL : List Lb → BL
  | [] => []
  | x :: r => labL x ++ (r.flatMap fun y => 44 :: labL y)
def rightL (x : Ln) : Bool := keyL x.n && x.ls.all fun y => keyL y.k
def lineP (x : Ln) : BL := x.n ++ 123 :: (labsL x.ls ++ 125 :: 32 :: (Lib.decDigits x.v ++ [10]))
def printP (xs : List Ln) : BL := (xs.filter rightL).flatMap lineP

/-! the reader -/
def untilM (c : UInt8) : BL → Option (BL × BL)
  | [] => none
  | a :: r => if a = c then some ([], r) else (untilM c r).map fun p => (a :: p.1, p.2)
def nextM (c : UInt8) : BL → Option BL
  | [] => none
  | a :: r => if a = c then some r else none
def quoM : BL → Bool → BL → Option (BL × BL)
  | [], _, _ => none
  | c :: r, true, acc => quoM r false (acc ++ [if c = 110 then 10 else c])
  | c :: r, false, acc => if c = 34 then some (acc, r) else if c = 92 then quoM r true acc else quoM r false (acc ++ [c])
def quotedM (s : BL) : Option (BL × BL) := (nextM 34 s).bind fun r => quoM r false []
def labM : Nat → BL → List Lb → Option (List Lb × BL)
  | 0, _, _ => none
  | k + 1, s, acc => (untilM 61 s).bind fun p => (quotedM p.2).bind fun q =>
      match nextM 44 q.2 with
      | some s3 => labM k s3 (acc ++ [⟨p.1, q.1⟩])
      | none => some (acc ++ [⟨p.1, q.1⟩], q.2)
def numM (w : BL) : Option Nat := match Lib.parseMag w with | .ok u => some u | _ => none
def tailM (nm : BL) (ls : List Lb) (s : BL) : Option (Ln × BL) :=
  (nextM 32 s).bind fun s5 => (untilM 10 s5).bind fun p => (numM p.1).map fun u => (⟨nm, ls, u⟩, p.2)
def lineM (s : BL) : Option (Ln × BL) :=
  (untilM 123 s).bind fun p =>
    match nextM 125 p.2 with
    | some s2 => tailM p.1 [] s2
    | none => (labM (p.2.length + 1) p.2 []).bind fun q => (nextM 125 q.2).bind fun s4 => tailM p.1 q.1 s4
def parseF : Nat → BL → List Ln → Option (List Ln)
  | 0, _, _ => none
  | k + 1, s, acc => if s = [] then some acc else (lineM s).bind fun p => parseF k p.2 (acc ++ [p.1])
def parseM (s : BL) : Option (List Ln) := parseF (s.length + 1) s []
def parseR (s : BL) : Option (List Ln) := (parseM s).bind fun xs => if printP xs = s then some xs else none

/-! there and back -/
theorem until_hit (c : UInt8) : ∀ (a r : BL), c ∉ a → untilM c (a ++ c :: r) = some (a, r)
  | [], r, _ => by simp [untilM]
  | x :: a, r, h => by
    have hx : x ≠ c := fun e => h (by rw [e]; exact List.mem_cons_self)
    rw [List.cons_append, untilM, if_neg hx, until_hit c a r (fun e => h (List.mem_cons_of_mem _ e))]; rfl
theorem quo_esc (c : UInt8) (r acc : BL) : quoM (esc c ++ r) false acc = quoM r false (acc ++ [c]) := by
  unfold esc
  split
  · rename_i h
    rcases h with rfl | rfl
    · simp [quoM]
    · simp [quoM]
  · rename_i h
    split
    · rename_i h2; subst h2; simp [quoM]
    · rename_i h2
      have h3 : c ≠ 34 := fun e => h (.inr e)
      have h4 : c ≠ 92 := fun e => h (.inl e)
      simp [quoM, h3, h4]
theorem quo_text : ∀ (t r acc : BL), quoM (t.flatMap esc ++ 34 :: r) false acc = some (acc ++ t, r)
  | [], r, acc => by simp [quoM]
  | c :: t, r, acc => by
    rw [List.flatMap_cons, List.append_assoc, quo_esc, quo_text t r]; simp
theorem quoted_text (t r : BL) : quotedM (quoteL t ++ r) = some (t, r) := by
  unfold quotedM quoteL
  rw [List.cons_append, List.append_assoc, nextM, if_pos rfl, Option.bind_some]
  have := quo_text t r []
  simpa using this
theorem lab_one (x : Lb) (hk : keyL x.k = true) (k : Nat) (r : BL) (acc : List Lb) :
    labM (k + 1) (labL x ++ r) acc = match nextM 44 r with | some s3 => labM k s3 (acc ++ [x]) | none => some (acc ++ [x], r) := by
  have h1 : untilM 61 (labL x ++ r) = some (x.k, quoteL x.t ++ r) := by
    unfold labL
    rw [List.append_assoc, List.cons_append]
    exact until_hit 61 _ _ (fun hm => (isK_ne _ (key_mem hk _ hm)).2.2.1 rfl)
  rw [labM, h1, Option.bind_some, quoted_text, Option.bind_some]
theorem lab_rest : ∀ (ys : List Lb) (x : Lb) (k : Nat) (r : BL) (acc : List Lb), (∀ y ∈ x :: ys, keyL y.k = true) → ys.length < k →
    labM k (labL x ++ ((ys.flatMap fun y => 44 :: labL y) ++ 125 :: r)) acc = some (acc ++ x :: ys, 125 :: r)
  | [], x, 0, r, acc, _, h => by simp at h
  | [], x, k + 1, r, acc, hk, _ => by
    rw [lab_one x (hk x List.mem_cons_self)]; simp [nextM]
  | y :: ys, x, 0, r, acc, _, h => by simp at h
  | y :: ys, x, k + 1, r, acc, hk, h => by
    rw [lab_one x (hk x List.mem_cons_self)]
    simp only [List.flatMap_cons, List.cons_append, List.append_assoc, nextM, if_true]
    rw [lab_rest ys y k r (acc ++ [x]) (fun z hz => hk z (List.mem_cons_of_mem _ hz)) (by simp at h; omega)]
    simp
theorem labs_len : ∀ (ys : List Lb), ys.length ≤ (ys.flatMap fun y => 44 :: labL y).length
  | [] => by simp
  | y :: ys => by
    have := labs_len ys
    simp only [List.flatMap_cons, List.length_append, List.length_cons]; omega
end Go.Proofs.YtdbmcikoiilanaaDoor.Xp
set_option linter.unusedVariables false
set_option linter.unusedSimpArgs false
namespace Go.Proofs.YtdbmcikoiilanaaDoor.Xp
open Go.RowKit

theorem pu_append : ∀ (l r : BL) (acc : Nat), Lib.parseUint10 acc (l ++ r) = match Lib.parseUint10 acc l with | .ok a => Lib.parseUint10 a r | .syntax => .syntax | .range => .range
  | [], r, acc => rfl
  | c :: l, r, acc => by
    rw [List.cons_append, Lib.parseUint10, Lib.parseUint10]
    split
    · split
      · rfl
      · split
        · rfl
        · exact pu_append l r _
    · rfl
theorem pu_dig (a d : Nat) (hd : d < 10) (h : a * 10 + d < 18446744073709551616) : Lib.parseUint10 a [UInt8.ofNat (48 + d)] = .ok (a * 10 + d) := by
  have e : (UInt8.ofNat (48 + d)).toNat = 48 + d := by rw [UInt8.toNat_ofNat']; omega
  rw [Lib.parseUint10, e, if_pos (by omega), if_neg (by omega), if_neg (by omega), show 48 + d - 48 = d from by omega]; rfl
theorem pu_dec (u : Nat) (h : u < 18446744073709551616) : Lib.parseUint10 0 (Lib.decDigits u) = .ok u := by
  induction u using Nat.strongRecOn with
  | ind u ih =>
    by_cases hu : u < 10
    · rw [Lib.decDigits_one hu, pu_dig 0 u hu (by omega)]; simp
    · rw [Lib.decDigits, dif_neg hu, pu_append, ih (u / 10) (by omega) (by omega)]
      show Lib.parseUint10 (u / 10) _ = _
      rw [pu_dig (u / 10) (u % 10) (by omega) (by omega)]
      congr 1; omega
theorem dec_ne (u : Nat) : Lib.decDigits u ≠ [] := by
  rw [Lib.decDigits]; split <;> simp
theorem dec_10 (u : Nat) : ∀ c ∈ Lib.decDigits u, c ≠ 10 := by
  induction u using Nat.strongRecOn with
  | ind u ih =>
    intro c hc
    have aux : ∀ d, d < 10 → UInt8.ofNat (48 + d) ≠ 10 := by decide
    by_cases hu : u < 10
    · rw [Lib.decDigits_one hu, List.mem_singleton] at hc
      subst hc; exact aux u hu
    · rw [Lib.decDigits, dif_neg hu] at hc
      rcases List.mem_append.1 hc with h | h
      · exact ih (u / 10) (by omega) c h
      · rw [List.mem_singleton] at h; subst h; exact aux _ (by omega)
theorem num_dec (u : Nat) (h : u < 18446744073709551616) : numM (Lib.decDigits u) = some u := by
  unfold numM Lib.parseMag
  rw [if_neg (dec_ne u), pu_dec u h]
theorem tail_back (nm : BL) (ls : List Lb) (v : Nat) (hv : v < 18446744073709551616) (t : BL) : tailM nm ls (32 :: (Lib.decDigits v ++ 10 :: t)) = some (⟨nm, ls, v⟩, t) := by
  unfold tailM
  rw [nextM, if_pos rfl, Option.bind_some, until_hit 10 _ _ (fun h => dec_10 v 10 h rfl), Option.bind_some, num_dec v hv]; rfl
theorem lab_first (x : Lb) (h : keyL x.k = true) (r : BL) : nextM 125 (labL x ++ r) = none := by
  unfold labL
  cases hk : x.k with
  | nil => rw [hk] at h; simp [keyL] at h
  | cons c k =>
    rw [hk] at h
    have := (isK_ne c (key_mem h c List.mem_cons_self)).2.1
    simp [nextM, this]
theorem line_back (x : Ln) (h : rightL x = true) (hv : x.v < 18446744073709551616) (t : BL) : lineM (lineP x ++ t) = some (x, t) := by
  obtain ⟨n, ls, v⟩ := x
  simp only [rightL, Bool.and_eq_true, List.all_eq_true] at h
  have e : lineP ⟨n, ls, v⟩ ++ t = n ++ 123 :: (labsL ls ++ 125 :: 32 :: (Lib.decDigits v ++ 10 :: t)) := by simp [lineP]
  rw [e]
  unfold lineM
  rw [until_hit 123 _ _ (fun hm => (isK_ne _ (key_mem h.1 _ hm)).1 rfl), Option.bind_some]
  cases ls with
  | nil =>
    simp only [labsL, List.nil_append, nextM, if_true]
    exact tail_back n [] v hv t
  | cons y ys =>
    have hy := h.2 y List.mem_cons_self
    have e2 : labsL (y :: ys) ++ 125 :: 32 :: (Lib.decDigits v ++ 10 :: t) = labL y ++ ((ys.flatMap fun y => 44 :: labL y) ++ 125 :: (32 :: (Lib.decDigits v ++ 10 :: t))) := by simp [labsL]
    rw [e2]
    simp only [lab_first y hy]
    rw [lab_rest ys y _ _ [] (fun z hz => h.2 z hz) (by
      have := labs_len ys
      simp only [List.length_append]; omega), Option.bind_some, nextM, if_pos rfl, Option.bind_some]
    exact tail_back n (y :: ys) v hv t
theorem lineP_ne (x : Ln) : lineP x ≠ [] := by simp [lineP]
theorem parse_back : ∀ (xs : List Ln) (k : Nat) (t : BL) (acc : List Ln), (∀ x ∈ xs, rightL x = true ∧ x.v < 18446744073709551616) → parseF (xs.length + k) (xs.flatMap lineP ++ t) acc = parseF k t (acc ++ xs)
  | [], k, t, acc, _ => by simp
  | x :: xs, k, t, acc, h => by
    have hx := h x List.mem_cons_self
    rw [show (x :: xs).length + k = (xs.length + k) + 1 from by simp; omega, parseF, if_neg (by simp [lineP_ne])]
    rw [List.flatMap_cons, List.append_assoc, line_back x hx.1 hx.2, Option.bind_some, parse_back xs k t _ (fun y hy => h y (List.mem_cons_of_mem _ hy))]
    simp
theorem parse_mono : ∀ (k : Nat) (s : BL) (acc xs : List Ln), parseF k s acc = some xs → parseF (k + 1) s acc = some xs
  | 0, s, acc, xs, h => by simp [parseF] at h
  | k + 1, s, acc, xs, h => by
    rw [parseF] at h ⊢
    split at h
    · rename_i e; rw [if_pos e]; exact h
    · rename_i e
      rw [if_neg e]
      obtain ⟨p, hp, hq⟩ := Option.bind_eq_some_iff.1 h
      rw [hp, Option.bind_some]
      exact parse_mono k _ _ _ hq
theorem parse_le (k m : Nat) (s : BL) (acc xs : List Ln) (h : parseF k s acc = some xs) : parseF (k + m) s acc = some xs := by
  induction m with
  | zero => exact h
  | succ m ih => exact parse_mono _ _ _ _ ih
theorem flat_len : ∀ (xs : List Ln), xs.length ≤ (xs.flatMap lineP).length
  | [] => by simp
  | x :: xs => by
    have := flat_len xs
    have h2 : 0 < (lineP x).length := List.length_pos_iff.2 (lineP_ne x)
    simp only [List.flatMap_cons, List.length_append, List.length_cons]; omega
theorem parse_print (xs : List Ln) (hv : ∀ x ∈ xs, x.v < 18446744073709551616) : parseM (printP xs) = some (xs.filter rightL) := by
  unfold parseM printP
  have h := parse_back (xs.filter rightL) 1 [] [] (fun x hx => ⟨(List.mem_filter.1 hx).2, hv x (List.mem_filter.1 hx).1⟩)
  rw [List.append_nil, List.nil_append] at h
  have h1 : parseF 1 [] (xs.filter rightL) = some (xs.filter rightL) := by rw [parseF, if_pos rfl]
  rw [h1] at h
  have hl := flat_len (xs.filter rightL)
  have := parse_le _ (((xs.filter rightL).flatMap lineP).length - (xs.filter rightL).length) _ _ _ h
  rw [show (xs.filter rightL).length + 1 + (((xs.filter rightL).flatMap lineP).length - (xs.filter rightL).length) = ((xs.filter rightL).flatMap lineP).length + 1 from by omega] at this
  exact this
theorem print_filter (xs : List Ln) : printP (xs.filter rightL) = printP xs := by unfold printP; rw [List.filter_filter]; simp
theorem parseR_print (xs : List Ln) (hv : ∀ x ∈ xs, x.v < 18446744073709551616) : parseR (printP xs) = some (xs.filter rightL) := by
  unfold parseR
  rw [parse_print xs hv, Option.bind_some, if_pos (print_filter xs)]
theorem print_append (xs ys : List Ln) : printP (xs ++ ys) = printP xs ++ printP ys := by simp [printP]
theorem parseR_text (s : BL) (xs : List Ln) (h : parseR s = some xs) : printP xs = s := by
  unfold parseR at h
  obtain ⟨ys, h1, h2⟩ := Option.bind_eq_some_iff.1 h
  split at h2
  · rename_i e; cases h2; exact e
  · cases h2
end Go.Proofs.YtdbmcikoiilanaaDoor.Xp
