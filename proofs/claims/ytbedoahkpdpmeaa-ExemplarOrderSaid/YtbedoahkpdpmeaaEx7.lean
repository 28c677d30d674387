/- BinarySearchFunc and Insert over whatever slice owns its row. -/
import Derived.Test.YtbedoahkpdpmeaaEx6
import Derived.Deep.CutBlock
import Derived.Deep.Onto
set_option linter.unusedVariables false
set_option linter.unusedSimpArgs false
namespace Go.Proofs.Ytbedoahkpdpmeaa.Ex
open Go.RowKit Go.Proofs.Ytbedoahkpdpmeaa.B0 Go.Proofs.Ytbedoahkpdpmeaa.Pe Go.Proofs.YtbedoahkpdpmeaaW.PrintWords

theorem BSF_any (w : World) (base : Nat) (v : Value) (X : List One) (x : One) (ho : w.ownsRow base 31 4 v X.length (flat X)) (hs : X.Pairwise lt4) (hX : X.length < 1000) :
    Calls Try.prog 17 #[v, .agg #[.int .u64 x.f0, .int .u64 x.f1, .int .u64 x.f2, .bool x.f3], .func (.func 18) #[] #[]] w fun e w' => e = .returned (.tuple #[.int .i64 (cnt X x), .bool (fnd X x)]) ∧ Below w.heap.size w w' := by
  rcases ho.2 with ⟨rfl, h0⟩ | ⟨g, c, cur, rfl, _⟩
  · have : X = [] := List.eq_nil_of_length_eq_zero h0
    subst this
    exact BSF_nil w x
  · exact BSF_c w base g c X x ho hs hX

theorem Insert_any (w : World) (v : Value) (n i : Nat) (xs x4 : List Value) (vb : Nat) (ho : w.ownsRow 0 31 4 v n xs) (hi : i ≤ n) (hn : n < 1000) (h1 : ∀ u ∈ xs, u.oneCell' = true)
    (hv : w.heap[vb]? = some (.cells x4.toArray 31 (0, 0))) (hx : x4.length = 4) (h1x : ∀ u ∈ x4, u.oneCell' = true) (hvb : v.ownBlock ≠ some vb) :
    Calls Try.prog 19 #[v, .int .i64 i, .slice (some ⟨vb, 0, none⟩) 1 1] w fun e w' => ∃ v', e = .returned v' ∧ w'.ownsRow 0 31 4 v' (n + 1) (xs.take (i * 4) ++ x4 ++ xs.drop (i * 4)) ∧ Fr v.ownBlock.toList w w' ∧ (∀ k, v'.ownBlock = some k → v.ownBlock = some k ∨ w.heap.size ≤ k) := by
  by_cases hin : i = n
  · subst hin
    refine (Insert_end w 0 i v xs x4 vb ho hn (Nat.zero_le _) hv hx h1x).mono ?_
    rintro e w' ⟨v', rfl, hO, hg, hat⟩
    have hl : xs.length = i * 4 := ho.1
    refine ⟨v', rfl, ?_, ?_, ?_⟩
    · rw [List.take_of_length_le (by omega), List.drop_of_length_le (by omega), List.append_nil]; exact hO
    · exact (Fr.refl _ w).grown hg (fun k hk => .inl (by rw [hk]; simp))
    · intro k hk
      rcases hat with h | h
      · left; rw [← h]; exact hk
      · right; rw [h] at hk; cases hk; exact Nat.le_refl _
  · have hil : i < n := by omega
    rcases ho.2 with ⟨rfl, h0⟩ | ⟨g, c, cur, rfl, _, hg, hnc, hcm, hcs, hct⟩
    · omega
    · have hl : xs.length = n * 4 := ho.1
      have hcur : cur.toList = xs.take (i * 4) ++ xs.drop (i * 4) ++ cur.toList.drop (n * 4) := by
        rw [List.take_append_drop, ← hct, List.take_append_drop]
      have hpre : (xs.take (i * 4)).length = i * 4 := by rw [List.length_take]; omega
      have hsuf : (xs.drop (i * 4)).length = (n - i) * 4 := by rw [List.length_drop]; omega
      have hs1 : ∀ u ∈ xs.drop (i * 4), u.oneCell' = true := fun u hu => h1 u (List.mem_of_mem_drop hu)
      have hne : vb ≠ g := fun e => hvb (by rw [e]; rfl)
      by_cases hr : n + 1 ≤ c
      · refine (Insert_room w g n c i vb cur _ _ _ x4 hil hn hr hg hcur hpre hsuf hcs hv hx hne hs1 h1x).mono ?_
        rintro e w' ⟨rfl, k, rfl⟩
        have hrest : (cur.toList.drop (n * 4)).length = (c - n) * 4 := by rw [List.length_drop, Array.length_toList, hcs]; omega
        refine ⟨_, rfl, ⟨?_, .inr ⟨g, c, _, rfl, Nat.zero_le _, setRow_heap _ g cur _ _ _ hg, hr, hcm, ?_, ?_⟩⟩, ?_, ?_⟩
        · simp only [List.length_append]; omega
        · simp only [List.size_toArray, List.length_append, List.length_drop] at *; omega
        · rw [List.toList_toArray]
          exact List.take_left' (by simp only [List.length_append]; omega)
        · exact ⟨rfl, rfl, rfl, by rw [size_setRow]; exact Nat.le_refl _, fun k hk hn => by rw [setRow_other _ _ _ _ (fun e => hn (by subst e; simp [Value.ownBlock]))]; rfl⟩
        · intro k hk; left; exact hk
      · have hcn : c = n := by omega
        refine (Insert_grow w g n c i vb cur _ _ _ x4 hil hn hcn hg hcur hpre hsuf hv hx hs1 h1x).mono ?_
        rintro e w' ⟨G, rest2, rfl, hG, hGm, hr2, hh, hF⟩
        refine ⟨_, rfl, ⟨?_, .inr ⟨w.heap.size, G, _, rfl, Nat.zero_le _, hh, hG, hGm, ?_, ?_⟩⟩, hF.mono (by simp), ?_⟩
        · simp only [List.length_append]; omega
        · simp only [List.size_toArray, List.length_append]; omega
        · rw [List.toList_toArray]
          exact List.take_left' (by simp only [List.length_append]; omega)
        · intro k hk; right; simp [Value.ownBlock] at hk; omega
end Go.Proofs.Ytbedoahkpdpmeaa.Ex
