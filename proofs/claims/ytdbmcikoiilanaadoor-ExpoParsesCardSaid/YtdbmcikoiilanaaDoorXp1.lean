/- expo, the plain law: a line's text, the reader's way, there and back. No program. -/
import Derived.WalkKit
import Derived.Lib.AtoiAll
import Derived.Lib.ItoaNum
set_option linter.unusedVariables false
set_option linter.unusedSimpArgs false
namespace Go.Proofs.YtdbmcikoiilanaaDoor.Xp
open Go.RowKit

abbrev BL := List UInt8
/-! keys -/
def isA (c : UInt8) : Bool := (97 ≤ c.toNat && c.toNat ≤ 122) || (65 ≤ c.toNat && c.toNat ≤ 90) || c == 95
def isK (c : UInt8) : Bool := isA c || (48 ≤ c.toNat && c.toNat ≤ 57) || c == 46
def keyL : BL → Bool
  | [] => false
  | c :: r => isA c && r.all isK && decide (r.length + 1 ≤ 64)
theorem isK_ne (c : UInt8) (h : isK c = true) : c ≠ 123 ∧ c ≠ 125 ∧ c ≠ 61 ∧ c ≠ 44 ∧ c ≠ 34 := by
  have key : (List.range 256).all (fun k => !isK (UInt8.ofNat k) || (UInt8.ofNat k != 123 && UInt8.ofNat k != 125 && UInt8.ofNat k != 61 && UInt8.ofNat k != 44 && UInt8.ofNat k != 34)) = true := by decide +kernel
  have := List.all_eq_true.1 key c.toNat (List.mem_range.2 c.toNat_lt)
  rw [UInt8.ofNat_toNat, h] at this
  simpa [and_assoc] using this
theorem isA_isK (c : UInt8) (h : isA c = true) : isK c = true := by simp [isK, h]
theorem key_mem {l : BL} (h : keyL l = true) : ∀ c ∈ l, isK c = true := by
  cases l with
  | nil => simp
  | cons a r =>
    simp only [keyL, Bool.and_eq_true, List.all_eq_true] at h
    intro c hc
    rcases List.mem_cons.1 hc with rfl | hc
    · exact isA_isK _ h.1.1
    · exact h.1.2 c hc

/-! texts in " -/
def esc (c : UInt8) : BL := if c = 92 ∨ c = 34 then [92, c] else if c = 10 then [92, 110] else [c]
def quoteL (t : BL) : BL := 34 :: (t.flatMap esc ++ [34])
structure Lb where
  k : BL
  t : BL
  deriving DecidableEq
structure Ln where
  n : BL
  ls : List Lb
  v : Nat
  deriving DecidableEq
def labL (x : Lb) : BL := x.k ++ 61 :: quoteL x.t
def labsL : List Lb → BL
  | [] => []
  | x :: r => labL x ++ (r.flatMap fun y => 44 :: labL y)
def rightL (x : Ln) : Bool := keyL x.n && x.ls.all fun y => keyL y.k
def lineP (x : Ln) : BL := x.n ++ 123 :: (labsL x.ls ++ 125 :: 32 :: (Lib.decDigits x.v ++ [10]))
def printP (xs : List Ln) : BL := (xs.filter rightL).flatMap lineP

/-! the reader -/
def untilM (c : UInt8) : BL → Option (BL × BL)
  | [] => none
  | a :: r => if a = c then some ([], r) else (untilM c r).map fun p => (a :: p.1, p.2)
def nextM (c : UInt8) : BL → Option BL
  | [] => none
  | a :: r => if a = c then some r else none
def quoM : BL → Bool → BL → Option (BL × BL)
  | [], _, _ => none
  | c :: r, true, acc => quoM r false (acc ++ [if c = 110 then 10 else c])
  | c :: r, false, acc => if c = 34 then some (acc, r) else if c = 92 then quoM r true acc else quoM r false (acc ++ [c])
def quotedM (s : BL) : Option (BL × BL) := (nextM 34 s).bind fun r => quoM r false []
def labM : Nat → BL → List Lb → Option (List Lb × BL)
  | 0, _, _ => none
  | k + 1, s, acc => (untilM 61 s).bind fun p => (quotedM p.2).bind fun q =>
      match nextM 44 q.2 with
      | some s3 => labM k s3 (acc ++ [⟨p.1, q.1⟩])
      | none => some (acc ++ [⟨p.1, q.1⟩], q.2)
def numM (w : BL) : Option Nat := match Lib.parseMag w with | .ok u => some u | _ => none
def tailM (nm : BL) (ls : List Lb) (s : BL) : Option (Ln × BL) :=
  (nextM 32 s).bind fun s5 => (untilM 10 s5).bind fun p => (numM p.1).map fun u => (⟨nm, ls, u⟩, p.2)
def lineM (s : BL) : Option (Ln × BL) :=
  (untilM 123 s).bind fun p =>
    match nextM 125 p.2 with
    | some s2 => tailM p.1 [] s2
    | none => (labM (p.2.length + 1) p.2 []).bind fun q => (nextM 125 q.2).bind fun s4 => tailM p.1 q.1 s4
def parseF : Nat → BL → List Ln → Option (List Ln)
  | 0, _, _ => none
  | k + 1, s, acc => if s = [] then some acc else (lineM s).bind fun p => parseF k p.2 (acc ++ [p.1])
def parseM (s : BL) : Option (List Ln) := parseF (s.length + 1) s []
def parseR (s : BL) : Option (List Ln) := (parseM s).bind fun xs => if printP xs = s then some xs else none

/-! there and back -/
theorem until_hit (c : UInt8) : ∀ (a r : BL), c ∉ a → untilM c (a ++ c :: r) = some (a, r)
  | [], r, _ => by simp [untilM]
  | x :: a, r, h => by
    have hx : x ≠ c := fun e => h (by rw [e]; exact List.mem_cons_self)
    rw [List.cons_append, untilM, if_neg hx, until_hit c a r (fun e => h (List.mem_cons_of_mem _ e))]; rfl
theorem quo_esc (c : UInt8) (r acc : BL) : quoM (esc c ++ r) false acc = quoM r false (acc ++ [c]) := by
  unfold esc
  split
  · rename_i h
    rcases h with rfl | rfl
    · simp [quoM]
    · simp [quoM]
  · rename_i h
    split
    · rename_i h2; subst h2; simp [quoM]
    · rename_i h2
      have h3 : c ≠ 34 := fun e => h (.inr e)
      have h4 : c ≠ 92 := fun e => h (.inl e)
      simp [quoM, h3, h4]
theorem quo_text : ∀ (t r acc : BL), quoM (t.flatMap esc ++ 34 :: r) false acc = some (acc ++ t, r)
  | [], r, acc => by simp [quoM]
  | c :: t, r, acc => by
    rw [List.flatMap_cons, List.append_assoc, quo_esc, quo_text t r]; simp
theorem quoted_text (t r : BL) : quotedM (quoteL t ++ r) = some (t, r) := by
  unfold quotedM quoteL
  rw [List.cons_append, List.append_assoc, nextM, if_pos rfl, Option.bind_some]
  have := quo_text t r []
  simpa using this
theorem lab_one (x : Lb) (hk : keyL x.k = true) (k : Nat) (r : BL) (acc : List Lb) :
    labM (k + 1) (labL x ++ r) acc = match nextM 44 r with | some s3 => labM k s3 (acc ++ [x]) | none => some (acc ++ [x], r) := by
  have h1 : untilM 61 (labL x ++ r) = some (x.k, quoteL x.t ++ r) := by
    unfold labL
    rw [List.append_assoc, List.cons_append]
    exact until_hit 61 _ _ (fun hm => (isK_ne _ (key_mem hk _ hm)).2.2.1 rfl)
  rw [labM, h1, Option.bind_some, quoted_text, Option.bind_some]
theorem lab_rest : ∀ (ys : List Lb) (x : Lb) (k : Nat) (r : BL) (acc : List Lb), (∀ y ∈ x :: ys, keyL y.k = true) → ys.length < k →
    labM k (labL x ++ ((ys.flatMap fun y => 44 :: labL y) ++ 125 :: r)) acc = some (acc ++ x :: ys, 125 :: r)
  | [], x, 0, r, acc, _, h => by simp at h
  | [], x, k + 1, r, acc, hk, _ => by
    rw [lab_one x (hk x List.mem_cons_self)]; simp [nextM]
  | y :: ys, x, 0, r, acc, _, h => by simp at h
  | y :: ys, x, k + 1, r, acc, hk, h => by
    rw [lab_one x (hk x List.mem_cons_self)]
    simp only [List.flatMap_cons, List.cons_append, List.append_assoc, nextM, if_true]
    rw [lab_rest ys y k r (acc ++ [x]) (fun z hz => hk z (List.mem_cons_of_mem _ hz)) (by simp at h; omega)]
    simp
theorem labs_len : ∀ (ys : List Lb), ys.length ≤ (ys.flatMap fun y => 44 :: labL y).length
  | [] => by simp
  | y :: ys => by
    have := labs_len ys
    simp only [List.flatMap_cons, List.length_append, List.length_cons]; omega
end Go.Proofs.YtdbmcikoiilanaaDoor.Xp
