/- script, the plain law: a step's line, a text's steps, there and back. -/
import Derived.Test.YtbcdlbdljejlcaaDoorSc1
set_option linter.unusedVariables false
set_option linter.unusedSimpArgs false
namespace Go.Proofs.YtbcdlbdljejlcaaDoor.Sc
open Go.RowKit Go.Proofs.YtbcdlbdljejlcaaDoor.Ps

/-- what Check lets through. -/
def okS (x : Stp) : Prop := (x.f0 = 0 ∧ 0 ≤ x.f1 ∧ x.f1 ≤ 15 ∧ x.f2 = 0 ∧ x.f3.length ≤ 65536) ∨ ((x.f0 = 1 ∨ x.f0 = 3 ∨ x.f0 = 4) ∧ x.f1 = 0 ∧ x.f2 = 0 ∧ x.f3 = []) ∨ (x.f0 = 2 ∧ x.f1 = 0 ∧ 0 ≤ x.f2 ∧ x.f2 ≤ 63 ∧ x.f3 = [])
theorem check_f (x : Stp) : ∃ r, script_Check.f 10 x.f0 x.f1 x.f2 x.f3 = some r ∧ (r = 0 ∨ r = 1 ∨ r = 2) ∧ (r = 0 ↔ okS x) := by
  obtain ⟨a, b, c, l⟩ := x
  have hl : l = [] ↔ l.length = 0 := ⟨fun h => by rw [h]; rfl, List.eq_nil_of_length_eq_zero⟩
  unfold okS
  simp only [hl]
  generalize hn : l.length = n
  have hn' : (l.length : Int) = n := by omega
  simp only [script_Check.f, script_Check.j0, script_Check.j1, script_Check.j2, script_Check.j3, hn']
  by_cases h1 : a < 0
  · rw [if_pos h1]; exact ⟨1, by simp, by simp, by omega⟩
  rw [if_neg h1]
  by_cases h2 : a > 4
  · exact ⟨1, by simp [h2], by simp, by omega⟩
  by_cases h3 : a = 0
  · subst h3
    by_cases h4 : c = 0
    · subst h4
      by_cases h5 : b < 0
      · exact ⟨1, by simp [h5], by simp, by omega⟩
      · by_cases h6 : b > 15
        · exact ⟨1, by simp [h5, h6], by simp, by omega⟩
        · by_cases h7 : (n : Int) > 65536
          · exact ⟨2, by simp [h5, h6, h7], by simp, by omega⟩
          · exact ⟨0, by simp [h5, h6, h7], by simp, by omega⟩
    · exact ⟨1, by simp [h4], by simp, by omega⟩
  · by_cases h4 : b = 0
    · subst h4
      by_cases h5 : (n : Int) > 0
      · have hn0 : ¬ n = 0 := by omega
        exact ⟨1, by simp [h2, h3, hn0], by simp, by omega⟩
      · obtain rfl : n = 0 := by omega
        by_cases h6 : a = 2
        · subst h6
          by_cases h7 : c < 0
          · exact ⟨1, by simp [h7], by simp, by omega⟩
          · by_cases h8 : c > 63
            · exact ⟨1, by simp [h7, h8], by simp, by omega⟩
            · exact ⟨0, by simp [h7, h8], by simp, by omega⟩
        · by_cases h7 : c = 0
          · subst h7
            exact ⟨0, by simp [h2, h3, h6], by simp, by omega⟩
          · exact ⟨1, by simp [h2, h3, h6, h7], by simp, by omega⟩
    · exact ⟨1, by simp [h2, h3, h4], by simp, by omega⟩

def sDeliver : List UInt8 := [100, 101, 108, 105, 118, 101, 114]
def sTick : List UInt8 := [116, 105, 99, 107]
def sClose : List UInt8 := [99, 108, 111, 115, 101]
def sFlush : List UInt8 := [102, 108, 117, 115, 104]
def sEnd : List UInt8 := [101, 110, 100]
def lineL (x : Stp) : List UInt8 :=
  if x.f0 = 0 then sDeliver ++ 32 :: (Lib.itoa x.f1 ++ 32 :: hexL x.f3) else if x.f0 = 1 then sTick else if x.f0 = 2 then sClose ++ 32 :: Lib.itoa x.f2 else if x.f0 = 3 then sFlush else sEnd
def smallL (l : List UInt8) : Int × Bool := match Lib.atoiAll l with | .ok v => (v, Lib.itoa v == l) | .syntax => (0, false) | .range => (Lib.atoiSat l, false)
def smallO (l : List UInt8) : Option Int := if (smallL l).2 then some (smallL l).1 else none
def stepL (l : List UInt8) : Option Stp :=
  if (wordsL l).getD 0 [] = sDeliver ∧ (wordsL l).length = 3 then (smallO ((wordsL l).getD 1 [])).bind fun n => (unhex ((wordsL l).getD 2 [])).bind fun b => some ⟨0, n, 0, b⟩
  else if (wordsL l).getD 0 [] = sClose ∧ (wordsL l).length = 2 then (smallO ((wordsL l).getD 1 [])).bind fun n => some ⟨2, 0, n, []⟩
  else if l = sTick then some ⟨1, 0, 0, []⟩ else if l = sFlush then some ⟨3, 0, 0, []⟩ else if l = sEnd then some ⟨4, 0, 0, []⟩ else none

theorem small_itoa (n : Int) (h0 : 0 ≤ n) (h1 : n ≤ 63) : smallO (Lib.itoa n) = some n ∧ ∀ c ∈ Lib.itoa n, c ≠ 32 ∧ c ≠ 10 := by
  have key : (List.range 64).all (fun k => smallO (Lib.itoa (k : Int)) == some (k : Int) && (Lib.itoa (k : Int)).all (fun c => c != 32 && c != 10)) = true := by decide +kernel
  have h := List.all_eq_true.1 key n.toNat (List.mem_range.2 (by omega))
  rw [Int.toNat_of_nonneg h0, Bool.and_eq_true] at h
  refine ⟨by simpa using h.1, fun c hc => ?_⟩
  have := List.all_eq_true.1 h.2 c hc
  simpa using this
theorem itoa_small (l : List UInt8) (n : Int) (h : smallO l = some n) : Lib.itoa n = l := by
  unfold smallO smallL at h
  cases e : Lib.atoiAll l with
  | ok v => rw [e] at h; simp at h; rw [← h.2]; exact h.1
  | «syntax» => rw [e] at h; simp at h
  | range => rw [e] at h; simp at h
theorem len3 {α : Type} : ∀ {l : List α}, l.length = 3 → ∃ a b c, l = [a, b, c]
  | [a, b, c], _ => ⟨a, b, c, rfl⟩
theorem len2 {α : Type} : ∀ {l : List α}, l.length = 2 → ∃ a b, l = [a, b]
  | [a, b], _ => ⟨a, b, rfl⟩
theorem line_step (l : List UInt8) (x : Stp) (h : stepL l = some x) : lineL x = l ∧ isB x.f3 := by
  have hj := join_words l
  unfold stepL at h
  split at h
  · rename_i hc
    obtain ⟨h0, h3⟩ := hc
    obtain ⟨a, b, c, hw⟩ := len3 h3
    rw [hw] at h h0 hj
    simp only [List.getD_cons_zero, List.getD_cons_succ] at h h0
    obtain ⟨n, hn, h⟩ := Option.bind_eq_some_iff.1 h
    obtain ⟨xs, hx, h⟩ := Option.bind_eq_some_iff.1 h
    obtain rfl := Option.some.inj h
    obtain ⟨e1, e2⟩ := hexL_unhex _ _ hx
    refine ⟨?_, e2⟩
    unfold lineL
    rw [if_pos rfl, e1, itoa_small _ _ hn, ← h0, ← hj]
    simp only [joinW]
  · split at h
    · rename_i hc
      obtain ⟨h0, h3⟩ := hc
      obtain ⟨a, b, hw⟩ := len2 h3
      rw [hw] at h h0 hj
      simp only [List.getD_cons_zero, List.getD_cons_succ] at h h0
      obtain ⟨n, hn, h⟩ := Option.bind_eq_some_iff.1 h
      obtain rfl := Option.some.inj h
      refine ⟨?_, fun x hx => absurd hx List.not_mem_nil⟩
      unfold lineL
      rw [if_neg (by show ¬ (2 : Int) = 0; decide), if_neg (by show ¬ (2 : Int) = 1; decide), if_pos rfl, itoa_small _ _ hn, ← h0, ← hj]
      simp only [joinW]
    · split at h
      · rename_i e; obtain rfl := Option.some.inj h; exact ⟨e.symm, fun x hx => absurd hx List.not_mem_nil⟩
      · split at h
        · rename_i e; obtain rfl := Option.some.inj h; exact ⟨e.symm, fun x hx => absurd hx List.not_mem_nil⟩
        · split at h
          · rename_i e; obtain rfl := Option.some.inj h; exact ⟨e.symm, fun x hx => absurd hx List.not_mem_nil⟩
          · cases h
theorem step_line (x : Stp) (h : okS x) (hb : isB x.f3) : stepL (lineL x) = some x ∧ 10 ∉ lineL x := by
  obtain ⟨a, b, c, l⟩ := x
  simp only [okS] at h
  rcases h with ⟨rfl, h1, h2, rfl, h3⟩ | ⟨h0, rfl, rfl, rfl⟩ | ⟨rfl, rfl, h1, h2, rfl⟩
  · obtain ⟨e1, e2⟩ := small_itoa b h1 (by omega)
    have e3 := unhex_hexL l hb
    have e4 := hexL_mem l hb
    have hw : wordsL (lineL ⟨0, b, 0, l⟩) = [sDeliver, Lib.itoa b, hexL l] := by
      unfold lineL
      rw [if_pos rfl, words_app _ _ (by decide), words_app _ _ (fun h => (e2 _ h).1 rfl), words_none _ (fun h => (e4 _ h).1 rfl)]
    refine ⟨?_, ?_⟩
    · unfold stepL
      rw [hw, if_pos ⟨rfl, rfl⟩]
      show (smallO (Lib.itoa b)).bind (fun n => (unhex (hexL l)).bind _) = _
      rw [e1, e3]; rfl
    · unfold lineL
      rw [if_pos rfl]
      simp only [List.mem_append, List.mem_cons, not_or]
      exact ⟨by decide, by decide, fun h => (e2 _ h).2 rfl, by decide, fun h => (e4 _ h).2 rfl⟩
  · rcases h0 with rfl | rfl | rfl <;> exact ⟨by decide +kernel, by decide +kernel⟩
  · obtain ⟨e1, e2⟩ := small_itoa c h1 (by omega)
    have hw : wordsL (lineL ⟨2, 0, c, []⟩) = [sClose, Lib.itoa c] := by
      unfold lineL
      rw [if_neg (by show ¬ (2 : Int) = 0; decide), if_neg (by show ¬ (2 : Int) = 1; decide), if_pos rfl, words_app _ _ (by decide), words_none _ (fun h => (e2 _ h).1 rfl)]
    refine ⟨?_, ?_⟩
    · unfold stepL
      rw [hw, if_neg (fun h => absurd h.2 (by simp)), if_pos ⟨rfl, rfl⟩]
      show (smallO (Lib.itoa c)).bind _ = _
      rw [e1]; rfl
    · unfold lineL
      rw [if_neg (by show ¬ (2 : Int) = 0; decide), if_neg (by show ¬ (2 : Int) = 1; decide), if_pos rfl]
      simp only [List.mem_append, List.mem_cons, not_or]
      exact ⟨by decide, by decide, fun h => (e2 _ h).2 rfl⟩

/-! the text of steps -/
instance (x : Stp) : Decidable (okS x) := by unfold okS; infer_instance
def printL (xs : List Stp) : List UInt8 := xs.flatMap fun x => lineL x ++ [10]
/-- Parse's way, a round at a time. -/
def parseF : Nat → List UInt8 → Option (List Stp)
  | 0, _ => none
  | k + 1, s => if s = [] then some [] else if (Lib.cut s [10]).2.2 = true then (stepL (Lib.cut s [10]).1).bind fun x => if okS x then (parseF k (Lib.cut s [10]).2.1).map (x :: ·) else none else none
theorem parseF_succ (k : Nat) (s : List UInt8) : parseF (k + 1) s = if s = [] then some [] else if (Lib.cut s [10]).2.2 = true then (stepL (Lib.cut s [10]).1).bind fun x => if okS x then (parseF k (Lib.cut s [10]).2.1).map (x :: ·) else none else none := rfl
theorem parse_print : ∀ (k : Nat) (s : List UInt8) (xs : List Stp), parseF k s = some xs → printL xs = s ∧ ∀ x ∈ xs, okS x ∧ isB x.f3
  | 0, _, _, h => by cases h
  | k + 1, s, xs, h => by
    rw [parseF] at h
    split at h
    · rename_i e; obtain rfl := Option.some.inj h; exact ⟨e.symm, fun x hx => absurd hx List.not_mem_nil⟩
    · split at h
      · rename_i hc
        rcases cut_cases s with ⟨_, e⟩ | ⟨a, b, ha, es, e⟩
        · rw [e] at hc; cases hc
        · rw [e] at h
          obtain ⟨x, hx, h⟩ := Option.bind_eq_some_iff.1 h
          split at h
          · rename_i hok
            obtain ⟨ys, hy, h⟩ := Option.map_eq_some_iff.1 h
            obtain ⟨i1, i2⟩ := parse_print k b ys hy
            obtain ⟨l1, l2⟩ := line_step a x hx
            subst h
            refine ⟨?_, ?_⟩
            · rw [printL, List.flatMap_cons, l1, es]
              show a ++ [10] ++ printL ys = _
              rw [i1]; simp
            · intro z hz
              rcases List.mem_cons.1 hz with rfl | hz
              · exact ⟨hok, l2⟩
              · exact i2 z hz
          · cases h
      · cases h
theorem line_ne (x : Stp) : lineL x ++ [10] ≠ [] := by simp
theorem print_parse : ∀ (k : Nat) (xs : List Stp) (t : List UInt8), (∀ x ∈ xs, okS x ∧ isB x.f3) → parseF (xs.length + k) (printL xs ++ t) = (parseF k t).map (xs ++ ·)
  | k, [], t, _ => by
    simp only [List.length_nil, Nat.zero_add, printL, List.flatMap_nil, List.nil_append]
    cases parseF k t <;> rfl
  | k, x :: xs, t, h => by
    obtain ⟨hx, hb⟩ := h x List.mem_cons_self
    obtain ⟨e1, e2⟩ := step_line x hx hb
    have es : printL (x :: xs) ++ t = lineL x ++ 10 :: (printL xs ++ t) := by simp [printL]
    have ih := print_parse k xs t (fun y hy => h y (List.mem_cons_of_mem _ hy))
    rw [List.length_cons, Nat.succ_add, parseF, es, if_neg (by simp), cut_hit _ _ e2, if_pos rfl]
    show (stepL (lineL x)).bind _ = _
    rw [e1]
    show (if okS x then _ else none) = _
    rw [if_pos hx, ih]
    cases parseF k t <;> rfl
theorem parse_mono : ∀ (k : Nat) (s : List UInt8), s.length < k → parseF (k + 1) s = parseF k s
  | 0, s, h => by omega
  | k + 1, s, h => by
    rw [parseF_succ (k + 1) s, parseF_succ k s]
    by_cases h0 : s = []
    · rw [if_pos h0, if_pos h0]
    rw [if_neg h0, if_neg h0]
    rcases cut_cases s with ⟨_, e⟩ | ⟨a, b, ha, es, e⟩
    · rw [e]; rfl
    · rw [e]
      have hl : b.length < k := by rw [es] at h; simp at h; omega
      rw [if_pos rfl, if_pos rfl]
      simp only [parse_mono k b hl]
theorem parse_any (s : List UInt8) : ∀ (d : Nat), parseF (s.length + 1 + d) s = parseF (s.length + 1) s
  | 0 => rfl
  | d + 1 => by rw [← Nat.add_assoc, parse_mono _ s (by omega), parse_any s d]
/-- Parse. -/
def parseL (s : List UInt8) : Option (List Stp) := parseF (s.length + 1) s
theorem parseL_of (k : Nat) (s : List UInt8) (h : s.length < k) : parseF k s = parseL s := by
  have := parse_any s (k - (s.length + 1))
  unfold parseL; rw [← this]; congr 1; omega
theorem parseL_print (s : List UInt8) (xs : List Stp) (h : parseL s = some xs) : printL xs = s ∧ ∀ x ∈ xs, okS x ∧ isB x.f3 := parse_print _ s xs h
theorem printL_len : ∀ (xs : List Stp), xs.length ≤ (printL xs).length
  | [] => Nat.le_refl _
  | x :: xs => by have := printL_len xs; simp only [printL, List.flatMap_cons, List.length_cons, List.length_append] at this ⊢; simp at this ⊢; omega
theorem print_parseL (xs : List Stp) (t : List UInt8) (h : ∀ x ∈ xs, okS x ∧ isB x.f3) : parseL (printL xs ++ t) = (parseL t).map (xs ++ ·) := by
  have h1 := print_parse (t.length + 1 + (printL xs).length) xs t h
  have hl := printL_len xs
  rw [parseL_of _ _ (by rw [List.length_append]; omega), parseL_of _ t (by omega)] at h1
  exact h1
theorem print_parse0 (xs : List Stp) (h : ∀ x ∈ xs, okS x ∧ isB x.f3) : parseL (printL xs) = some xs := by
  have h1 := print_parseL xs [] h
  rw [List.append_nil] at h1
  rw [h1]
  show (parseF 1 []).map _ = _
  simp [parseF]
theorem printL_append (xs ys : List Stp) : printL (xs ++ ys) = printL xs ++ printL ys := by simp [printL]
end Go.Proofs.YtbcdlbdljejlcaaDoor.Sc
