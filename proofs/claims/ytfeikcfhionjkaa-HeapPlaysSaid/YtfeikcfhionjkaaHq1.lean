/- Plain law: sifting up and down keeps a heap's order; who is at the top. -/
import Derived.Test.YtfeikcfhionjkaaHp7
set_option linter.unusedVariables false
set_option linter.unusedSimpArgs false
namespace Go.Proofs.Ytfeikcfhionjkaa.Hp
open Go.RowKit Go.Proofs.Ytfeikcfhionjkaa.B0

theorem cmpI_lt {a b : Int} (h : a < b) : cmpI a b = -1 := by unfold cmpI; rw [if_pos h]
theorem cmpI_gt {a b : Int} (h : b < a) : cmpI a b = 1 := by unfold cmpI; rw [if_neg (by omega), if_pos h]
theorem cmpI_eq (a : Int) : cmpI a a = 0 := by unfold cmpI; rw [if_neg (by omega), if_neg (by omega)]
theorem ltE_iff (x y : E) : ltE x y = true ↔ x.t < y.t ∨ x.t = y.t ∧ x.id < y.id := by
  unfold ltE ordI
  rw [decide_eq_true_eq]
  rcases Int.lt_trichotomy x.t y.t with h | h | h
  · rw [cmpI_lt h]; simp [orL, h]
  · rw [h, cmpI_eq]
    rcases Int.lt_trichotomy x.id y.id with g | g | g
    · rw [cmpI_lt g]; simp [orL, g]
    · rw [g, cmpI_eq]; simp [orL]
    · rw [cmpI_gt g]; simp [orL]; omega
  · rw [cmpI_gt h]; simp [orL]; omega
theorem ltE_iff' (x y : E) : ltE x y = false ↔ ¬ (x.t < y.t ∨ x.t = y.t ∧ x.id < y.id) := by
  rw [← ltE_iff]; simp

/-- index a's element isn't ahead of index b's (both within). -/
def Ge (L : List E) (a b : Nat) : Prop := ∀ x y, L[a]? = some x → L[b]? = some y → ltE x y = false

theorem Ge_asym {L : List E} {a b : Nat} (h : ltO L a b = true) : Ge L b a := by
  intro y x hy hx
  rw [ltO_some hx hy, ltE_iff] at h
  rw [ltE_iff']; omega
theorem Ge_of_ltO {L : List E} {a b : Nat} (h : ltO L a b = false) : Ge L a b := by
  intro x y hx hy
  rw [ltO_some hx hy] at h; exact h
theorem Ge_trans {L : List E} {a b c : Nat} (hb : b < L.length) (h1 : Ge L a b) (h2 : Ge L b c) : Ge L a c := by
  intro x z hx hz
  have hy := List.getElem?_eq_getElem hb
  have e1 := h1 x _ hx hy
  have e2 := h2 _ z hy hz
  rw [ltE_iff'] at *; omega

def sw (i j k : Nat) : Nat := if k = i then j else if k = j then i else k
theorem swp_get {L : List E} {i j : Nat} (hi : i < L.length) (hj : j < L.length) (hij : i ≠ j) (k : Nat) : (swp L i j)[k]? = L[sw i j k]? := by
  have hx := List.getElem?_eq_getElem hi
  have hy := List.getElem?_eq_getElem hj
  rw [swp_some hx hy, getElem?_swap hx hy hij]
  unfold sw
  by_cases h1 : k = j
  · subst h1; rw [if_pos rfl, if_neg (by omega), if_pos rfl, hx]
  · rw [if_neg h1]
    by_cases h2 : k = i
    · subst h2; rw [if_pos rfl, if_pos rfl, hy]
    · rw [if_neg h2, if_neg h2, if_neg h1]
theorem Ge_swp {L : List E} {i j : Nat} (hi : i < L.length) (hj : j < L.length) (hij : i ≠ j) {a b : Nat} (h : Ge L (sw i j a) (sw i j b)) : Ge (swp L i j) a b := by
  intro x y hx hy
  rw [swp_get hi hj hij] at hx hy
  exact h x y hx hy

def HO (n : Nat) (L : List E) : Prop := ∀ k, 0 < k → k < n → Ge L k ((k - 1) / 2)

theorem upL_HO (n : Nat) (j : Nat) : ∀ L : List E, n ≤ L.length → j < n → (∀ k, 0 < k → k < n → k ≠ j → Ge L k ((k - 1) / 2)) → (0 < j → ∀ k, 0 < k → k < n → (k - 1) / 2 = j → Ge L k ((j - 1) / 2)) → HO n (upL L j) := by
  induction j using Nat.strongRecOn with
  | ind j ih =>
    intro L hn hj h1 h2
    by_cases h0 : j = 0
    · subst h0
      rw [upL_zero]
      exact fun k hk hkn => h1 k hk hkn (by omega)
    · have hp : (j - 1) / 2 < j := by omega
      have hx := List.getElem?_eq_getElem (show j < L.length by omega)
      have hy := List.getElem?_eq_getElem (show (j - 1) / 2 < L.length by omega)
      cases hl : ltO L j ((j - 1) / 2) with
      | false =>
        rw [upL_stop h0 hx hy (by rw [← ltO_some hx hy]; exact hl)]
        intro k hk hkn
        by_cases hkj : k = j
        · subst hkj; exact Ge_of_ltO hl
        · exact h1 k hk hkn hkj
      | true =>
        rw [upL_step h0 hx hy (by rw [← ltO_some hx hy]; exact hl), ← swp_some hy hx]
        have hjl : j < L.length := by omega
        have hpl : (j - 1) / 2 < L.length := by omega
        have hne : (j - 1) / 2 ≠ j := by omega
        refine ih _ hp _ (by rw [length_swp]; exact hn) (by omega) ?_ ?_
        · intro k hk hkn hkp
          apply Ge_swp hpl hjl hne
          by_cases hkj : k = j
          · subst hkj
            have e1 : sw ((k - 1) / 2) k k = (k - 1) / 2 := by unfold sw; rw [if_neg (by omega), if_pos rfl]
            have e2 : sw ((k - 1) / 2) k ((k - 1) / 2) = k := by unfold sw; rw [if_pos rfl]
            rw [e1, e2]; exact Ge_asym hl
          · have e1 : sw ((j - 1) / 2) j k = k := by unfold sw; rw [if_neg hkp, if_neg hkj]
            rw [e1]
            by_cases hpp : (k - 1) / 2 = (j - 1) / 2
            · have e2 : sw ((j - 1) / 2) j ((k - 1) / 2) = j := by unfold sw; rw [if_pos hpp]
              rw [e2]
              exact Ge_trans hpl (hpp ▸ h1 k hk hkn hkj) (Ge_asym hl)
            · by_cases hpj : (k - 1) / 2 = j
              · have e2 : sw ((j - 1) / 2) j ((k - 1) / 2) = (j - 1) / 2 := by unfold sw; rw [if_neg hpp, if_pos hpj]
                rw [e2]; exact h2 (by omega) k hk hkn hpj
              · have e2 : sw ((j - 1) / 2) j ((k - 1) / 2) = (k - 1) / 2 := by unfold sw; rw [if_neg hpp, if_neg hpj]
                rw [e2]; exact h1 k hk hkn hkj
        · intro hp0 k hk hkn hkp
          apply Ge_swp hpl hjl hne
          have e2 : sw ((j - 1) / 2) j (((j - 1) / 2 - 1) / 2) = ((j - 1) / 2 - 1) / 2 := by unfold sw; rw [if_neg (by omega), if_neg (by omega)]
          rw [e2]
          have hpp := h1 ((j - 1) / 2) hp0 (by omega) (by omega)
          by_cases hkj : k = j
          · subst hkj
            have e1 : sw ((k - 1) / 2) k k = (k - 1) / 2 := by unfold sw; rw [if_neg (by omega), if_pos rfl]
            rw [e1]; exact hpp
          · have e1 : sw ((j - 1) / 2) j k = k := by unfold sw; rw [if_neg (by omega), if_neg hkj]
            rw [e1]
            exact Ge_trans hpl (hkp ▸ h1 k hk hkn hkj) hpp

theorem child_ge {n : Nat} {L : List E} {i k : Nat} (hk : k < n) (hk0 : 0 < k) (hp : (k - 1) / 2 = i) (hkc : k ≠ child n L i) : Ge L k (child n L i) := by
  unfold child at *
  by_cases h : 2 * i + 2 < n ∧ ltO L (2 * i + 2) (2 * i + 1) = true
  · rw [if_pos h] at *
    have : k = 2 * i + 1 := by omega
    subst this
    exact Ge_asym h.2
  · rw [if_neg h] at *
    have : k = 2 * i + 2 := by omega
    subst this
    refine Ge_of_ltO ?_
    cases hl : ltO L (2 * i + 2) (2 * i + 1) with
    | false => rfl
    | true => exact absurd ⟨hk, hl⟩ h
theorem child_par (n : Nat) (L : List E) (i : Nat) : (child n L i - 1) / 2 = i := by unfold child; split <;> omega

theorem downL_HO (n m : Nat) : ∀ (i : Nat) (L : List E), n - i = m → n ≤ L.length → i < n →
    (∀ k, 0 < k → k < n → k ≠ i → (k - 1) / 2 ≠ i → Ge L k ((k - 1) / 2)) → (0 < i → ∀ k, 0 < k → k < n → (k - 1) / 2 = i → Ge L k ((i - 1) / 2)) →
    ((downL n L i) = (L, i) ∧ (∀ k, 0 < k → k < n → (k - 1) / 2 = i → Ge L k i)) ∨ (i < (downL n L i).2 ∧ HO n (downL n L i).1) := by
  induction m using Nat.strongRecOn with
  | ind m ih =>
    intro i L hm hn hi h1 h2
    by_cases hc : 2 * i + 1 < n
    · have c1 := child_gt n L i
      have c2 := child_lt n L i hc
      have c3 := child_par n L i
      have c4 : ∀ k, k < n → 0 < k → (k - 1) / 2 = i → k ≠ child n L i → Ge L k (child n L i) := fun k a b c d => child_ge a b c d
      cases hl : ltO L (child n L i) i with
      | false =>
        left
        refine ⟨downL_stop rfl hl, ?_⟩
        intro k hk hkn hp
        by_cases hkc : k = child n L i
        · rw [hkc]; exact Ge_of_ltO hl
        · exact Ge_trans (by omega) (c4 k hkn hk hp hkc) (Ge_of_ltO hl)
      | true =>
        right
        rw [downL_step hc rfl hl]
        generalize child n L i = c at *
        have hil : i < L.length := by omega
        have hcl : c < L.length := by omega
        have hne : i ≠ c := by omega
        have swi : sw i c i = c := by unfold sw; rw [if_pos rfl]
        have swc : sw i c c = i := by unfold sw; rw [if_neg (by omega), if_pos rfl]
        have swo : ∀ k, k ≠ i → k ≠ c → sw i c k = k := fun k a b => by unfold sw; rw [if_neg a, if_neg b]
        have g1 : ∀ k, 0 < k → k < n → k ≠ c → (k - 1) / 2 ≠ c → Ge (swp L i c) k ((k - 1) / 2) := by
          intro k hk hkn hkc hpc
          apply Ge_swp hil hcl hne
          by_cases hki : k = i
          · subst hki
            rw [swi, swo ((k - 1) / 2) (by omega) hpc]
            exact h2 hk c (by omega) c2 c3
          · rw [swo k hki hkc]
            by_cases hpi : (k - 1) / 2 = i
            · rw [hpi, swi]; exact c4 k hkn hk hpi hkc
            · rw [swo _ hpi hpc]; exact h1 k hk hkn hki hpi
        have g2 : 0 < c → ∀ k, 0 < k → k < n → (k - 1) / 2 = c → Ge (swp L i c) k ((c - 1) / 2) := by
          intro hc0 k hk hkn hp
          apply Ge_swp hil hcl hne
          rw [c3, swi, swo k (by omega) (by omega)]
          exact hp ▸ h1 k hk hkn (by omega) (by omega)
        rcases ih (n - c) (by omega) c (swp L i c) rfl (by rw [length_swp]; exact hn) c2 g1 g2 with ⟨e, hch⟩ | ⟨hlt, hho⟩
        · rw [e]
          refine ⟨c1, ?_⟩
          intro k hk hkn
          by_cases hkc : k = c
          · subst hkc
            rw [c3]
            apply Ge_swp hil hcl hne
            rw [swc, swi]; exact Ge_asym hl
          · by_cases hpc : (k - 1) / 2 = c
            · rw [hpc]; exact hch k hk hkn hpc
            · exact g1 k hk hkn hkc hpc
        · exact ⟨by omega, hho⟩
    · left
      refine ⟨downL_end hc, fun k hk hkn hp => by omega⟩

theorem downL_le (n m : Nat) : ∀ (i : Nat) (L : List E), n - i = m → i ≤ (downL n L i).2 ∧ ∀ k, n ≤ k → n ≤ L.length → i < n → (downL n L i).1[k]? = L[k]? := by
  induction m using Nat.strongRecOn with
  | ind m ih =>
    intro i L hm
    by_cases hc : 2 * i + 1 < n
    · have c1 := child_gt n L i
      have c2 := child_lt n L i hc
      cases hl : ltO L (child n L i) i with
      | false => rw [downL_stop rfl hl]; exact ⟨Nat.le_refl _, fun _ _ _ _ => rfl⟩
      | true =>
        rw [downL_step hc rfl hl]
        obtain ⟨a, b⟩ := ih (n - child n L i) (by omega) (child n L i) (swp L i (child n L i)) rfl
        refine ⟨by omega, fun k hk hn hi => ?_⟩
        rw [b k hk (by rw [length_swp]; exact hn) c2, swp_get (by omega) (by omega) (by omega)]
        unfold sw; rw [if_neg (by omega), if_neg (by omega)]
    · rw [downL_end hc]; exact ⟨Nat.le_refl _, fun _ _ _ _ => rfl⟩
theorem upL_above (j : Nat) : ∀ (L : List E), j < L.length → ∀ k, j < k → (upL L j)[k]? = L[k]? := by
  induction j using Nat.strongRecOn with
  | ind j ih =>
    intro L hj k hk
    by_cases h0 : j = 0
    · subst h0; rw [upL_zero]
    · have hx := List.getElem?_eq_getElem hj
      have hy := List.getElem?_eq_getElem (show (j - 1) / 2 < L.length by omega)
      cases hl : ltE L[j] L[(j - 1) / 2] with
      | false => rw [upL_stop h0 hx hy hl]
      | true =>
        rw [upL_step h0 hx hy hl, ← swp_some hy hx, ih _ (by omega) _ (by rw [length_swp]; omega) k (by omega), swp_get (by omega) (by omega) (by omega)]
        unfold sw; rw [if_neg (by omega), if_neg (by omega)]

theorem fixL_HO {L : List E} {i : Nat} (hi : i < L.length) (h1 : ∀ k, 0 < k → k < L.length → k ≠ i → (k - 1) / 2 ≠ i → Ge L k ((k - 1) / 2)) (h2 : 0 < i → ∀ k, 0 < k → k < L.length → (k - 1) / 2 = i → Ge L k ((i - 1) / 2)) : HO L.length (fixL L i) := by
  rcases downL_HO L.length _ i L rfl (Nat.le_refl _) hi h1 h2 with ⟨e, hch⟩ | ⟨hlt, hho⟩
  · unfold fixL
    rw [e, if_neg (by omega)]
    refine upL_HO L.length i L (Nat.le_refl _) hi ?_ h2
    intro k hk hkn hki
    by_cases hp : (k - 1) / 2 = i
    · rw [hp]; exact hch k hk hkn hp
    · exact h1 k hk hkn hki hp
  · unfold fixL
    rw [if_pos hlt]; exact hho
theorem fixL_perm (L : List E) (i : Nat) : (fixL L i).Perm L := by
  unfold fixL
  split
  · exact downL_perm _ _ _
  · exact (upL_perm _ _).trans (downL_perm _ _ _)

/-- a changed time at one place. -/
theorem fixL_set {L : List E} {i : Nat} (e' : E) (hL : HO L.length L) (hi : i < L.length) : HO L.length (fixL (L.set i e') i) := by
  have hlen : (L.set i e').length = L.length := by simp
  rw [← hlen]
  have hget : ∀ k, k ≠ i → (L.set i e')[k]? = L[k]? := fun k hk => by rw [List.getElem?_set, if_neg (by omega)]
  refine fixL_HO (by rw [hlen]; exact hi) ?_ ?_
  · intro k hk hkn hki hp x y hx hy
    rw [hget k hki] at hx
    rw [hget _ hp] at hy
    exact hL k hk (by rw [hlen] at hkn; exact hkn) x y hx hy
  · intro h0 k hk hkn hp x y hx hy
    rw [hlen] at hkn
    rw [hget k (by omega)] at hx
    rw [hget _ (by omega)] at hy
    exact Ge_trans hi (hp ▸ hL k hk hkn) (hL i h0 hi) x y hx hy

theorem push_HO {L : List E} (e : E) (hL : HO L.length L) : HO (L.length + 1) (upL (L ++ [e]) L.length) := by
  refine upL_HO _ _ _ (by simp) (by omega) ?_ (fun _ k _ _ _ => by omega)
  intro k hk hkn hki x y hx hy
  rw [List.getElem?_append_left (by omega)] at hx
  rw [List.getElem?_append_left (by omega)] at hy
  exact hL k hk (by omega) x y hx hy

theorem removeL_spec {L : List E} {i : Nat} {e : E} (hL : HO L.length L) (he : L[i]? = some e) : HO (L.length - 1) (removeL L i) ∧ (removeL L i ++ [e]).Perm L := by
  have hi := (List.getElem?_eq_some_iff.1 he).1
  have key : ∀ X : List E, X.Perm L → X[L.length - 1]? = some e → HO (L.length - 1) X → HO (L.length - 1) X.dropLast ∧ (X.dropLast ++ [e]).Perm L := by
    intro X hX hl hho
    have hlen := hX.length_eq
    have hne : X ≠ [] := by intro hh; subst hh; simp at hlen; omega
    have hg : X.getLast hne = e := by
      rw [List.getLast_eq_getElem]
      have := (List.getElem?_eq_some_iff.1 hl).2
      simpa [hlen] using this
    have hcat : X.dropLast ++ [e] = X := by rw [← hg]; exact List.dropLast_concat_getLast hne
    refine ⟨?_, by rw [hcat]; exact hX⟩
    intro k hk hkn x y hx hy
    have ex : ∀ k, k < L.length - 1 → X.dropLast[k]? = X[k]? := fun k hk => by rw [List.dropLast_eq_take, List.getElem?_take, if_pos (by omega)]
    rw [ex k hkn] at hx
    rw [ex _ (by omega)] at hy
    exact hho k hk hkn x y hx hy
  by_cases hlast : i = L.length - 1
  · unfold removeL
    rw [if_pos hlast]
    exact key L (List.Perm.refl _) (hlast ▸ he) (fun k hk hkn => hL k hk (by omega))
  · unfold removeL
    rw [if_neg hlast]
    have hl1 : L.length - 1 < L.length := by omega
    have hls := length_swp L i (L.length - 1)
    have hpe : (swp L i (L.length - 1)).Perm L := perm_swp _ _ _ (by omega)
    have hsl : (swp L i (L.length - 1))[L.length - 1]? = some e := by
      rw [swp_get hi hl1 (by omega)]
      unfold sw; rw [if_neg (by omega), if_pos rfl]; exact he
    have hso : ∀ k, k ≠ i → k < L.length - 1 → (swp L i (L.length - 1))[k]? = L[k]? := by
      intro k h1 h2
      rw [swp_get hi hl1 (by omega)]
      unfold sw; rw [if_neg h1, if_neg (by omega)]
    have g1 : ∀ k, 0 < k → k < L.length - 1 → k ≠ i → (k - 1) / 2 ≠ i → Ge (swp L i (L.length - 1)) k ((k - 1) / 2) := by
      intro k hk hkn hki hp x y hx hy
      rw [hso k hki hkn] at hx
      rw [hso _ hp (by omega)] at hy
      exact hL k hk (by omega) x y hx hy
    have g2 : 0 < i → ∀ k, 0 < k → k < L.length - 1 → (k - 1) / 2 = i → Ge (swp L i (L.length - 1)) k ((i - 1) / 2) := by
      intro h0 k hk hkn hp x y hx hy
      rw [hso k (by omega) hkn] at hx
      rw [hso _ (by omega) (by omega)] at hy
      exact Ge_trans hi (hp ▸ hL k hk (by omega)) (hL i h0 hi) x y hx hy
    generalize swp L i (L.length - 1) = M at *
    have hd := downL_HO (L.length - 1) _ i M rfl (by omega) (by omega) g1 g2
    obtain ⟨_, ha⟩ := downL_le (L.length - 1) _ i M rfl
    have ha' := ha (L.length - 1) (Nat.le_refl _) (by omega) (by omega)
    have hP := downL_perm (L.length - 1) M i
    dsimp only
    rcases hd with ⟨e1, hch⟩ | ⟨hlt, hho⟩
    · rw [e1]
      rw [if_neg (by omega)]
      refine key _ ((upL_perm _ _).trans hpe) ?_ ?_
      · rw [upL_above i M (by omega) _ (by omega)]; exact hsl
      · refine upL_HO _ i M (by omega) (by omega) ?_ g2
        intro k hk hkn hki
        by_cases hp : (k - 1) / 2 = i
        · rw [hp]; exact hch k hk hkn hp
        · exact g1 k hk hkn hki hp
    · rw [if_pos hlt]
      exact key _ (hP.trans hpe) (by rw [ha']; exact hsl) hho

/-- nobody is ahead of the top. -/
theorem HO_top {L : List E} (hL : HO L.length L) : ∀ k, k < L.length → Ge L k 0 := by
  intro k
  induction k using Nat.strongRecOn with
  | ind k ih =>
    intro hk
    by_cases h0 : k = 0
    · subst h0
      intro x y hx hy
      rw [hx] at hy; cases hy
      rw [ltE_iff']; omega
    · exact Ge_trans (by omega) (hL k (by omega) hk) (ih _ (by omega) (by omega))
end Go.Proofs.Ytfeikcfhionjkaa.Hp
