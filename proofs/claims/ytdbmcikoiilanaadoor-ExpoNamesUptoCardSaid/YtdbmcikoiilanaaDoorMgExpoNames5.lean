/- expo, the plain law (3): sizes; the reader's first step is an index. No program. -/
import Derived.Test.YtdbmcikoiilanaaDoorMgExpoNames4
import Derived.Lib.CutLaws
set_option linter.unusedVariables false
set_option linter.unusedSimpArgs false
namespace Go.Proofs.YtdbmcikoiilanaaDoor.Xp
open Go.RowKit

theorem dec_len : ∀ (k u : Nat), u < 10 ^ k → 0 < k → (Lib.decDigits u).length ≤ k
  | 0, u, h, h0 => by omega
  | k + 1, u, h, _ => by
    by_cases hu : u < 10
    · rw [Lib.decDigits_one hu]; simp
    · rw [Lib.decDigits, dif_neg hu, List.length_append, List.length_singleton]
      have hk : 0 < k := by
        rcases Nat.eq_zero_or_pos k with rfl | h0
        · simp at h; omega
        · exact h0
      have := dec_len k (u / 10) (by rw [Nat.pow_succ] at h; omega) hk
      omega
theorem dec_len20 (u : Nat) (h : u < 18446744073709551616) : (Lib.decDigits u).length ≤ 20 := dec_len 20 u (by omega) (by decide)
theorem until_len (c : UInt8) : ∀ (s w r : BL), untilM c s = some (w, r) → w.length + 1 + r.length = s.length
  | [], w, r, h => by simp [untilM] at h
  | a :: s, w, r, h => by
    rw [untilM] at h
    split at h
    · cases h; simp; omega
    · obtain ⟨p, hp, he⟩ := Option.map_eq_some_iff.1 h
      have := until_len c s p.1 p.2 hp
      cases he
      simp only [List.length_cons]; omega
theorem next_len (c : UInt8) (s r : BL) (h : nextM c s = some r) : r.length + 1 = s.length := by
  cases s with
  | nil => simp [nextM] at h
  | cons a s =>
    rw [nextM] at h
    split at h
    · cases h; rfl
    · cases h
theorem quo_len : ∀ (s : BL) (e : Bool) (acc t r : BL), quoM s e acc = some (t, r) → t.length + 1 + r.length ≤ s.length + acc.length
  | [], e, acc, t, r, h => by simp [quoM] at h
  | c :: s, true, acc, t, r, h => by
    rw [quoM] at h
    have := quo_len s false _ t r h
    simp only [List.length_append, List.length_cons, List.length_nil] at this ⊢; omega
  | c :: s, false, acc, t, r, h => by
    rw [quoM] at h
    split at h
    · cases h; simp only [List.length_cons]; omega
    · split at h
      · have := quo_len s true _ t r h; simp only [List.length_cons]; omega
      · have := quo_len s false _ t r h
        simp only [List.length_append, List.length_cons, List.length_nil] at this ⊢; omega
theorem quoted_len (s t r : BL) (h : quotedM s = some (t, r)) : t.length + 2 + r.length ≤ s.length := by
  obtain ⟨p, hp, hq⟩ := Option.bind_eq_some_iff.1 h
  have h1 := next_len 34 s p hp
  have h2 := quo_len p false [] t r hq
  simp at h2; omega
def wl : List Lb → Nat
  | [] => 0
  | x :: r => x.k.length + x.t.length + 3 + wl r
theorem wl_append (a b : List Lb) : wl (a ++ b) = wl a + wl b := by
  induction a with
  | nil => simp [wl]
  | cons x a ih => simp only [List.cons_append, wl, ih]; omega
theorem lab_len : ∀ (k : Nat) (s : BL) (acc ls : List Lb) (r : BL), labM k s acc = some (ls, r) → wl ls + r.length ≤ s.length + wl acc
  | 0, s, acc, ls, r, h => by simp [labM] at h
  | k + 1, s, acc, ls, r, h => by
    rw [labM] at h
    obtain ⟨p, hp, h⟩ := Option.bind_eq_some_iff.1 h
    obtain ⟨q, hq, h⟩ := Option.bind_eq_some_iff.1 h
    have h1 := until_len 61 s p.1 p.2 hp
    have h2 := quoted_len p.2 q.1 q.2 hq
    have h3 : wl (acc ++ [⟨p.1, q.1⟩]) = wl acc + (p.1.length + q.1.length + 3) := by rw [wl_append]; simp [wl]
    split at h
    · rename_i s3 hs3
      have h4 := next_len 44 _ _ hs3
      have := lab_len k s3 _ ls r h
      omega
    · cases h; omega
theorem esc_len (c : UInt8) : (esc c).length ≤ 2 := by
  unfold esc
  by_cases h : c = 92 ∨ c = 34
  · rw [if_pos h]; simp
  · rw [if_neg h]
    by_cases h2 : c = 10
    · rw [if_pos h2]; simp
    · rw [if_neg h2]; simp
theorem quote_len (t : BL) : (quoteL t).length ≤ 2 * t.length + 2 := by
  have : ∀ (t : BL), (t.flatMap esc).length ≤ 2 * t.length := by
    intro t
    induction t with
    | nil => simp
    | cons c t ih => have := esc_len c; simp only [List.flatMap_cons, List.length_append, List.length_cons]; omega
  have := this t
  simp only [quoteL, List.length_cons, List.length_append, List.length_nil]; omega
theorem labL_len (x : Lb) : (labL x).length ≤ 2 * (x.k.length + x.t.length + 3) := by
  have := quote_len x.t
  simp only [labL, List.length_append, List.length_cons]; omega
theorem labsL_len : ∀ (ls : List Lb), (labsL ls).length ≤ 3 * wl ls
  | [] => by simp [labsL]
  | x :: r => by
    have h1 := labL_len x
    have : ∀ (r : List Lb), (r.flatMap fun y => 44 :: labL y).length ≤ 3 * wl r := by
      intro r
      induction r with
      | nil => simp
      | cons y r ih => have := labL_len y; simp only [List.flatMap_cons, List.length_append, List.length_cons, wl]; omega
    have := this r
    simp only [labsL, List.length_append, wl]; omega
theorem num_lt (w : BL) (u : Nat) (h : numM w = some u) : u < 18446744073709551616 := by
  unfold numM at h
  split at h
  · rename_i e; cases h; exact Lib.parseMag_lt e
  · cases h
theorem lineP_len (x : Ln) (hv : x.v < 18446744073709551616) : (lineP x).length ≤ x.n.length + 3 * wl x.ls + 24 := by
  have h1 := dec_len20 x.v hv
  have h2 := labsL_len x.ls
  simp only [lineP, List.length_append, List.length_cons, List.length_nil]; omega
theorem tail_len (nm : BL) (ls : List Lb) (s : BL) (x : Ln) (r : BL) (h : tailM nm ls s = some (x, r)) : x.n = nm ∧ x.ls = ls ∧ x.v < 18446744073709551616 ∧ r.length + 2 ≤ s.length := by
  obtain ⟨p, hp, h⟩ := Option.bind_eq_some_iff.1 h
  obtain ⟨q, hq, h⟩ := Option.bind_eq_some_iff.1 h
  obtain ⟨u, hu, h⟩ := Option.map_eq_some_iff.1 h
  cases h
  have h1 := next_len _ _ _ hp
  have h2 := until_len _ _ _ _ hq
  exact ⟨rfl, rfl, num_lt _ _ hu, by omega⟩
theorem line_len (s : BL) (x : Ln) (r : BL) (h : lineM s = some (x, r)) : x.v < 18446744073709551616 ∧ (lineP x).length + 32 * r.length ≤ 32 * s.length := by
  obtain ⟨p, hp, h⟩ := Option.bind_eq_some_iff.1 h
  have h1 := until_len _ _ _ _ hp
  split at h
  · rename_i s2 hs2
    have h2 := next_len _ _ _ hs2
    obtain ⟨e1, e2, e3, e4⟩ := tail_len _ _ _ _ _ h
    have := lineP_len x e3
    rw [e1, e2] at this
    simp only [wl] at this
    exact ⟨e3, by omega⟩
  · obtain ⟨q, hq, h⟩ := Option.bind_eq_some_iff.1 h
    obtain ⟨s4, hs4, h⟩ := Option.bind_eq_some_iff.1 h
    have h2 := lab_len _ _ _ _ _ hq
    have h3 := next_len _ _ _ hs4
    obtain ⟨e1, e2, e3, e4⟩ := tail_len _ _ _ _ _ h
    have := lineP_len x e3
    rw [e1, e2] at this
    simp only [wl] at h2
    exact ⟨e3, by omega⟩
theorem filter_len (xs : List Ln) : (printP xs).length ≤ (xs.flatMap lineP).length := by
  unfold printP
  induction xs with
  | nil => simp
  | cons x xs ih =>
    rw [List.filter_cons]
    split
    · simp only [List.flatMap_cons, List.length_append]; omega
    · simp only [List.flatMap_cons, List.length_append]; omega
/-- a byte is found where it stands first. -/
theorem until_index (c : UInt8) : ∀ (s : BL), (Lib.indexByte s c = -1 ∧ untilM c s = none) ∨ ∃ i : Nat, Lib.indexByte s c = i ∧ i < s.length ∧ untilM c s = some (s.take i, s.drop (i + 1)) := by
  intro s
  have hge := Lib.indexByte_ge s c
  rcases (show Lib.indexByte s c < 0 ∨ 0 ≤ Lib.indexByte s c by omega) with hl | hg
  · refine .inl ⟨by omega, ?_⟩
    have hn : Lib.indexByte s c = -1 := by omega
    have hm : ∀ a ∈ s, a ≠ c := by
      intro a ha e
      obtain ⟨k, hk, hke⟩ := List.mem_iff_getElem.1 ha
      exact Lib.indexByte_none hn k (by rw [List.getElem?_eq_getElem hk, hke, e])
    clear hge hl hn
    induction s with
    | nil => rfl
    | cons a s ih => rw [untilM, if_neg (hm a List.mem_cons_self), ih (fun x hx => hm x (List.mem_cons_of_mem _ hx))]; rfl
  · obtain ⟨i, hi⟩ : ∃ i : Nat, Lib.indexByte s c = i := ⟨(Lib.indexByte s c).toNat, by omega⟩
    obtain ⟨h1, h2⟩ := Lib.indexByte_some hi
    obtain ⟨hlt, e⟩ := List.getElem?_eq_some_iff.1 h1
    refine .inr ⟨i, hi, hlt, ?_⟩
    have hsplit : s = s.take i ++ c :: s.drop (i + 1) := by
      conv => lhs; rw [← List.take_append_drop i s]
      rw [List.drop_eq_getElem_cons hlt, e]
    have hm : c ∉ s.take i := by
      intro hm
      obtain ⟨k, hk, hke⟩ := List.mem_iff_getElem.1 hm
      rw [List.length_take] at hk
      refine h2 k (by omega) ?_
      rw [List.getElem?_eq_getElem (by omega), ← hke]; simp
    conv => lhs; rw [hsplit]
    exact until_hit c _ _ hm
end Go.Proofs.YtdbmcikoiilanaaDoor.Xp
