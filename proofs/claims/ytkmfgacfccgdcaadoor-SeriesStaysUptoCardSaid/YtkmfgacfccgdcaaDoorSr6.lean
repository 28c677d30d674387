/- how a table numbers rows: numbers stay. No memory in it. -/
import Derived.Test.YtkmfgacfccgdcaaDoorSr5
set_option linter.unusedVariables false
set_option linter.unusedSimpArgs false
namespace Go.Proofs.YtkmfgacfccgdcaaDoor.Sr
open Go.RowKit Go.Proofs.YtkmfgacfccgdcaaDoor.B0 Go.Proofs.YtkmfgacfccgdcaaDoor.Ps Go.Proofs.YtkmfgacfccgdcaaDoorW.PrintWords

def stL (most : Int) : List (List ByteArray) → List (List ByteArray) → List (List ByteArray)
  | L, [] => L
  | L, x :: r => stL most (ofL most L x) r
def atN (most : Int) : List (List ByteArray) → List (List ByteArray) → List Int
  | L, [] => []
  | L, x :: r => ofN most L x :: atN most (ofL most L x) r
theorem stL_snoc (most : Int) (x : List ByteArray) : ∀ (r L : List (List ByteArray)), stL most L (r ++ [x]) = ofL most (stL most L r) x
  | [], L => rfl
  | y :: r, L => stL_snoc most x r (ofL most L y)
theorem atN_snoc (most : Int) (x : List ByteArray) : ∀ (r L : List (List ByteArray)), atN most L (r ++ [x]) = atN most L r ++ [ofN most (stL most L r) x]
  | [], L => rfl
  | y :: r, L => by simp only [List.cons_append, atN, atN_snoc most x r (ofL most L y), stL]
theorem atN_len (most : Int) : ∀ (r L : List (List ByteArray)), (atN most L r).length = r.length
  | [], L => rfl
  | y :: r, L => by simp only [atN, List.length_cons, atN_len most r (ofL most L y)]
theorem ofL_cases (most : Int) (L : List (List ByteArray)) (x : List ByteArray) :
    (∃ i, posL L x = some i ∧ ofN most L x = (i : Int) + 1 ∧ ofL most L x = L) ∨ (posL L x = none ∧ most ≤ L.length ∧ ofN most L x = 0 ∧ ofL most L x = L) ∨ (posL L x = none ∧ (L.length : Int) < most ∧ ofN most L x = (L.length : Int) + 1 ∧ ofL most L x = L ++ [x]) := by
  unfold ofN ofL
  cases h : posL L x with
  | some i => exact .inl ⟨i, rfl, rfl, rfl⟩
  | none =>
    by_cases hm : most ≤ L.length
    · exact .inr (.inl ⟨rfl, hm, if_pos hm, if_pos hm⟩)
    · exact .inr (.inr ⟨rfl, by omega, if_neg hm, if_neg hm⟩)
theorem stL_ext (most : Int) : ∀ (r L : List (List ByteArray)), ∃ R, stL most L r = L ++ R ∧ (most ≤ L.length → R = [])
  | [], L => ⟨[], by simp [stL], fun _ => rfl⟩
  | x :: r, L => by
    obtain ⟨R, h1, h2⟩ := stL_ext most r (ofL most L x)
    simp only [stL]
    rcases ofL_cases most L x with ⟨i, _, _, e⟩ | ⟨_, _, _, e⟩ | ⟨_, hlt, _, e⟩
    · rw [e] at h1 h2 ⊢; exact ⟨R, h1, h2⟩
    · rw [e] at h1 h2 ⊢; exact ⟨R, h1, h2⟩
    · rw [e] at h1 ⊢
      exact ⟨[x] ++ R, by rw [h1, List.append_assoc], fun hh => by omega⟩
theorem stL_len (most : Int) : ∀ (r L : List (List ByteArray)), (L.length : Int) ≤ most → ((stL most L r).length : Int) ≤ most
  | [], L, h => h
  | x :: r, L, h => by
    simp only [stL]
    apply stL_len most r
    rcases ofL_cases most L x with ⟨i, _, _, e⟩ | ⟨_, _, _, e⟩ | ⟨_, hlt, _, e⟩
    · rw [e]; exact h
    · rw [e]; exact h
    · rw [e, List.length_append, List.length_singleton]; omega
theorem stays (most : Int) : ∀ (r L : List (List ByteArray)) (i : Nat) (h : i < r.length), ofN most (stL most L r) r[i] = (atN most L r).getD i 0 ∧ ofL most (stL most L r) r[i] = stL most L r
  | [], L, i, h => by simp at h
  | x :: r, L, 0, h => by
    obtain ⟨R, h1, h2⟩ := stL_ext most r (ofL most L x)
    simp only [stL, atN, List.getElem_cons_zero, List.getD_cons_zero]
    rw [h1]
    rcases ofL_cases most L x with ⟨i, hp, hn, e⟩ | ⟨hp, hm, hn, e⟩ | ⟨hp, hlt, hn, e⟩
    · have hq := posL_app_some hp R
      rw [e, hn]
      unfold ofN ofL
      rw [hq]; exact ⟨rfl, rfl⟩
    · rw [e] at h2 ⊢
      rw [h2 hm, List.append_nil]
      exact ⟨rfl, e⟩
    · have hq : posL ((L ++ [x]) ++ R) x = some L.length := by
        refine posL_app_some ?_ R
        rw [posL_app hp]; simp [posL]
      rw [e, hn]
      unfold ofN ofL
      rw [hq]; exact ⟨rfl, rfl⟩
  | x :: r, L, i + 1, h => by
    have := stays most r (ofL most L x) i (by simpa using h)
    simpa only [stL, atN, List.getElem_cons_succ, List.getD_cons_succ] using this
/-- a number above 0 tells the row. -/
theorem num_row {most : Int} {L : List (List ByteArray)} {x : List ByteArray} (h : ofL most L x = L) : (ofN most L x = 0) ∨ ∃ i : Nat, ofN most L x = (i : Int) + 1 ∧ L[i]? = some x := by
  rcases ofL_cases most L x with ⟨i, hp, hn, e⟩ | ⟨hp, hm, hn, e⟩ | ⟨hp, hlt, hn, e⟩
  · exact .inr ⟨i, hn, posL_some hp⟩
  · exact .inl hn
  · rw [h] at e
    have := congrArg List.length e
    simp at this
theorem num_same {most : Int} {L : List (List ByteArray)} {x y : List ByteArray} (hx : ofL most L x = L) (hy : ofL most L y = L) (px : 0 < ofN most L x) (py : 0 < ofN most L y) : ofN most L x = ofN most L y ↔ x = y := by
  constructor
  · intro h
    rcases num_row hx with h0 | ⟨i, h1, h2⟩
    · omega
    · rcases num_row hy with h0 | ⟨j, h3, h4⟩
      · omega
      · obtain rfl : i = j := by omega
        rw [h2] at h4; exact Option.some.inj h4
  · rintro rfl; rfl
theorem num_range {most : Int} {L : List (List ByteArray)} {x : List ByteArray} (hx : ofL most L x = L) : 0 ≤ ofN most L x ∧ ofN most L x ≤ L.length := by
  rcases num_row hx with h0 | ⟨i, h1, h2⟩
  · omega
  · have := (List.getElem?_eq_some_iff.1 h2).1; omega
theorem stL_sub (most : Int) : ∀ (r L : List (List ByteArray)) (y : List ByteArray), y ∈ stL most L r → y ∈ L ∨ y ∈ r
  | [], L, y, h => .inl h
  | x :: r, L, y, h => by
    rcases stL_sub most r (ofL most L x) y h with h1 | h1
    · rcases ofL_cases most L x with ⟨i, _, _, e⟩ | ⟨_, _, _, e⟩ | ⟨_, _, _, e⟩
      · rw [e] at h1; exact .inl h1
      · rw [e] at h1; exact .inl h1
      · rw [e] at h1
        rcases List.mem_append.1 h1 with h2 | h2
        · exact .inl h2
        · exact .inr (by simp at h2; simp [h2])
    · exact .inr (List.mem_cons_of_mem _ h1)
end Go.Proofs.YtkmfgacfccgdcaaDoor.Sr
