/- The plain law of the best ones: the first of the sorted list of all. No program. -/
import Derived.Test.YtbedoahkpdpmeaaEx8
import Derived.Test.YtbedoahkpdpmeaaPe17
set_option linter.unusedVariables false
set_option linter.unusedSimpArgs false
namespace Go.Proofs.Ytbedoahkpdpmeaa.Ex
open Go.RowKit Go.Proofs.Ytbedoahkpdpmeaa.B0 Go.Proofs.Ytbedoahkpdpmeaa.Pe Go.Proofs.YtbedoahkpdpmeaaW.PrintWords

theorem cnt_take {S : List One} (hs : S.Pairwise lt4) (m : Nat) (x : One) : cnt (S.take m) x = min (cnt S x) m := by
  have hst : (S.take m).Pairwise lt4 := hs.sublist (List.take_sublist _ _)
  have h1 := cnt_le S x
  have h2 := cnt_le (S.take m) x
  rw [List.length_take] at h2
  have key : ∀ i, i < min m S.length → (i < cnt (S.take m) x ↔ i < cnt S x) := by
    intro i hi
    obtain ⟨y, hy⟩ : ∃ y, S[i]? = some y := ⟨_, List.getElem?_eq_getElem (by omega)⟩
    have hy' : (S.take m)[i]? = some y := by rw [List.getElem?_take_of_lt (by omega)]; exact hy
    rw [← cnt_iff hs hy, ← cnt_iff hst hy']
  rcases Nat.lt_trichotomy (cnt (S.take m) x) (min (cnt S x) m) with h | h | h
  · have := (key (cnt (S.take m) x) (by omega)).2 (by omega); omega
  · exact h
  · have := (key (min (cnt S x) m) (by omega)).1 h
    by_cases hc : cnt S x ≤ m
    · rw [Nat.min_eq_left hc] at this; omega
    · omega

/-- all of them, sorted, each once. -/
def putF (S : List One) (x : One) : List One := if fnd S x = true then S else insX S x
theorem putF_sorted {S : List One} {x : One} (hs : S.Pairwise lt4) : (putF S x).Pairwise lt4 := by
  unfold putF
  split
  · exact hs
  · rename_i hf
    exact insX_sorted hs (by simpa using hf)
theorem putX_take {S : List One} (hs : S.Pairwise lt4) (m : Nat) (x : One) : putX m (S.take m) x = (putF S x).take m := by
  have hc := cnt_take hs m x
  have hl := cnt_le S x
  unfold putX putF
  by_cases h : cnt S x < m
  · have hc' : cnt (S.take m) x = cnt S x := by rw [hc]; omega
    have hf : fnd (S.take m) x = fnd S x := by
      unfold fnd; rw [hc', List.getElem?_take_of_lt h]
    rw [hf]
    split
    · rfl
    · unfold insX
      rw [hc', List.take_take, Nat.min_eq_left (by omega)]
      rw [List.take_append, List.take_append]
      congr 1
      have e : (S.take (cnt S x)).length = cnt S x := by rw [List.length_take]; omega
      rw [e]
      obtain ⟨d, hd⟩ : ∃ d, m - cnt S x = d + 1 := ⟨m - cnt S x - 1, by omega⟩
      rw [hd, List.take_succ_cons, List.take_succ_cons, List.drop_take, List.take_take]
      congr 2
      omega
  · have hc' : cnt (S.take m) x = m := by rw [hc]; omega
    have hf : fnd (S.take m) x = false := by
      unfold fnd
      rw [hc', List.getElem?_eq_none (by rw [List.length_take]; omega)]
    rw [hf, if_neg (by decide)]
    have e1 : (insX (S.take m) x).take m = S.take m := by
      unfold insX
      rw [hc', List.take_take, Nat.min_self, List.take_append, List.length_take, List.take_of_length_le (by rw [List.length_take]; omega)]
      rw [show m - min m S.length = 0 from by omega]
      simp
    rw [e1]
    split
    · rfl
    · unfold insX
      rw [List.take_append, List.take_take, Nat.min_eq_left (by omega), List.length_take, show m - min (cnt S x) S.length = 0 from by omega]
      simp

theorem sorted_ext : ∀ {X Y : List One}, X.Pairwise lt4 → Y.Pairwise lt4 → (∀ z, z ∈ X ↔ z ∈ Y) → X = Y
  | [], [], _, _, _ => rfl
  | [], b :: Y, _, _, h => by have := (h b).2 (by simp); simp at this
  | a :: X, [], _, _, h => by have := (h a).1 (by simp); simp at this
  | a :: X, b :: Y, hx, hy, h => by
    rw [List.pairwise_cons] at hx hy
    have hab : a = b := by
      rcases List.mem_cons.1 ((h a).1 (by simp)) with e | ha
      · exact e
      rcases List.mem_cons.1 ((h b).2 (by simp)) with e | hb
      · exact e.symm
      exact absurd (lt4_trans (hx.1 b hb) (hy.1 a ha)) (lt4_irrefl a)
    subst hab
    rw [sorted_ext hx.2 hy.2 (fun z => ?_)]
    have nx : a ∉ X := fun hm => lt4_irrefl a (hx.1 a hm)
    have ny : a ∉ Y := fun hm => lt4_irrefl a (hy.1 a hm)
    constructor
    · intro hz
      rcases List.mem_cons.1 ((h z).1 (List.mem_cons_of_mem _ hz)) with e | hz'
      · exact absurd (e ▸ hz) nx
      · exact hz'
    · intro hz
      rcases List.mem_cons.1 ((h z).2 (List.mem_cons_of_mem _ hz)) with e | hz'
      · exact absurd (e ▸ hz) ny
      · exact hz'

/-- the sorted list of all, each once. -/
def bestF (l : List One) : List One := l.foldl putF []
theorem bestF_snoc (l : List One) (x : One) : bestF (l ++ [x]) = putF (bestF l) x := by simp [bestF]
theorem snoc_ind {P : List One → Prop} (h0 : P []) (hs : ∀ l x, P l → P (l ++ [x])) (l : List One) : P l := by
  have key : ∀ n (l : List One), l.length = n → P l := by
    intro n
    induction n with
    | zero => intro l hl; rw [List.eq_nil_of_length_eq_zero hl]; exact h0
    | succ n ih =>
      intro l hl
      have hne : l ≠ [] := by rintro rfl; simp at hl
      rw [← List.dropLast_concat_getLast hne]
      exact hs _ _ (ih _ (by rw [List.length_dropLast]; omega))
  exact key _ l rfl
theorem bestF_sorted (l : List One) : (bestF l).Pairwise lt4 := by
  refine snoc_ind (P := fun l => (bestF l).Pairwise lt4) List.Pairwise.nil (fun l x ih => ?_) l
  rw [bestF_snoc]; exact putF_sorted ih
theorem mem_insX {S : List One} {x z : One} : z ∈ insX S x ↔ z = x ∨ z ∈ S := by
  unfold insX
  rw [List.mem_append, List.mem_cons]
  constructor
  · rintro (h | h | h)
    · exact .inr (List.mem_of_mem_take h)
    · exact .inl h
    · exact .inr (List.mem_of_mem_drop h)
  · rintro (h | h)
    · exact .inr (.inl h)
    · rw [← List.take_append_drop (cnt S x) S] at h
      rcases List.mem_append.1 h with h | h
      · exact .inl h
      · exact .inr (.inr h)
theorem mem_putF {S : List One} (hs : S.Pairwise lt4) {x z : One} : z ∈ putF S x ↔ z = x ∨ z ∈ S := by
  unfold putF
  split
  · rename_i hf
    have hx := (fnd_mem hs).1 hf
    constructor
    · exact .inr
    · rintro (rfl | h)
      · exact hx
      · exact h
  · exact mem_insX
theorem mem_bestF (l : List One) (z : One) : z ∈ bestF l ↔ z ∈ l := by
  refine snoc_ind (P := fun l => z ∈ bestF l ↔ z ∈ l) (by simp [bestF]) (fun l x ih => ?_) l
  rw [bestF_snoc, mem_putF (bestF_sorted l), ih]
  simp [or_comm]
theorem bestF_perm {l l' : List One} (h : ∀ z, z ∈ l ↔ z ∈ l') : bestF l = bestF l' :=
  sorted_ext (bestF_sorted l) (bestF_sorted l') fun z => by rw [mem_bestF, mem_bestF]; exact h z
theorem bestF_len (l : List One) : (bestF l).length ≤ l.length := by
  refine snoc_ind (P := fun l => (bestF l).length ≤ l.length) (by simp [bestF]) (fun l x ih => ?_) l
  rw [bestF_snoc, List.length_append]
  unfold putF
  split
  · simp; omega
  · rw [insX_len]; simp; omega
/-- the step of a Show that holds the best of l. -/
theorem put_best (m : Nat) (l : List One) (x : One) : putX m ((bestF l).take m) x = (bestF (l ++ [x])).take m := by
  rw [putX_take (bestF_sorted l), bestF_snoc]
end Go.Proofs.Ytbedoahkpdpmeaa.Ex
