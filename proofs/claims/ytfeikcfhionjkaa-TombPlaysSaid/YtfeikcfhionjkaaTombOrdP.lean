/- Plain law of TombOrder: a yard holds the last ones of the sorted list of all; turned round they are the same. -/
import Derived.Test.YtfeikcfhionjkaaTombKeepsW
set_option linter.unusedVariables false
set_option linter.unusedSimpArgs false
namespace Go.Proofs.Ytfeikcfhionjkaa.tombOrder
open Go.RowKit Go.Proofs.Ytfeikcfhionjkaa.B0 Go.Proofs.Ytfeikcfhionjkaa.Hp

theorem delS_none {S : List (Int × Int)} {id : Int} (h : id ∉ S.map Prod.fst) : delS S id = S := by
  unfold delS; rw [List.filter_eq_self]
  intro a ha
  have : a.1 ≠ id := fun hh => h (by rw [← hh]; exact List.mem_map.2 ⟨a, ha, rfl⟩)
  simp [this]

theorem insS_first {x : Int × Int} {l : List (Int × Int)} (h : ∀ z, z ∈ l → ltP x z) : insS x l = x :: l := by
  cases l with
  | nil => rfl
  | cons z l =>
    unfold insS
    have := h z (by simp)
    rw [if_neg (by unfold ltP at *; omega)]

theorem tail_insS {x : Int × Int} : ∀ (l : List (Int × Int)) (d : Nat), l.Pairwise ltP → x.1 ∉ l.map Prod.fst → (insS x (l.drop d)).tail = (insS x l).drop (d + 1) := by
  intro l
  induction l with
  | nil => intro d _ _; simp [insS]
  | cons y l ih =>
    intro d hs hx
    cases d with
    | zero => simp
    | succ d =>
      rw [List.pairwise_cons] at hs
      simp only [List.map_cons, List.mem_cons, not_or] at hx
      rw [List.drop_succ_cons]
      by_cases hy : ltP y x
      · rw [ih d hs.2 hx.2]
        have : insS x (y :: l) = y :: insS x l := by unfold insS; rw [if_pos hy]; cases l <;> rfl
        rw [this, List.drop_succ_cons]
      · have hxy : ltP x y := ltP_total (fun hh => hx.1 hh.symm) hy
        rw [insS_first (fun z hz => ltP_trans hxy (hs.1 z (List.mem_of_mem_drop hz)))]
        have : insS x (y :: l) = x :: y :: l := by conv => lhs; unfold insS; rw [if_neg hy]
        rw [this]; simp

theorem yput_top {T : List (Int × Int)} {m : Nat} {id t : Int} (hs : T.Pairwise ltP) (hx : id ∉ T.map Prod.fst) : yput (m : Int) (T.drop (T.length - m)) id t = (insS (id, t) T).drop ((T.length + 1) - m) := by
  have hx2 : id ∉ (T.drop (T.length - m)).map Prod.fst := fun hh => hx (by
    rw [List.map_drop] at hh; exact List.mem_of_mem_drop hh)
  have hp : putS (T.drop (T.length - m)) id t = insS (id, t) (T.drop (T.length - m)) := by unfold putS; rw [delS_none hx2]
  have hlen : (insS (id, t) (T.drop (T.length - m))).length = (T.length - (T.length - m)) + 1 := by rw [(insS_perm _ _).length_eq]; simp
  unfold yput
  rw [hp, hlen]
  by_cases hle : T.length + 1 ≤ m
  · rw [if_pos (by omega), show T.length - m = 0 from by omega, show T.length + 1 - m = 0 from by omega]; rfl
  · rw [if_neg (by omega), tail_insS T _ hs hx]
    congr 1; omega

/-- two sorted lists of the same members are one. -/
theorem sorted_ext : ∀ {A B : List (Int × Int)}, A.Pairwise ltP → B.Pairwise ltP → (∀ x, x ∈ A ↔ x ∈ B) → A = B := by
  intro A
  induction A with
  | nil =>
    intro B _ _ h
    cases B with
    | nil => rfl
    | cons b B => exact absurd ((h b).2 (by simp)) (by simp)
  | cons a A ih =>
    intro B hA hB h
    cases B with
    | nil => exact absurd ((h a).1 (by simp)) (by simp)
    | cons b B =>
      rw [List.pairwise_cons] at hA hB
      have hab : a = b := by
        rcases List.mem_cons.1 ((h a).1 (by simp)) with e | e
        · exact e
        · rcases List.mem_cons.1 ((h b).2 (by simp)) with e2 | e2
          · exact e2.symm
          · have h1 := hB.1 a e
            have h2 := hA.1 b e2
            unfold ltP at h1 h2; omega
      subst hab
      congr 1
      refine ih hA.2 hB.2 (fun x => ⟨fun hx => ?_, fun hx => ?_⟩)
      · rcases List.mem_cons.1 ((h x).1 (by simp [hx])) with e | e
        · subst e; have := hA.1 _ hx; unfold ltP at this; omega
        · exact e
      · rcases List.mem_cons.1 ((h x).2 (by simp [hx])) with e | e
        · subst e; have := hB.1 _ hx; unfold ltP at this; omega
        · exact e

def pr (l : List Int) (i : Nat) : Int × Int := ((i : Int), l.getD i 0)
/-- the sorted list of what came by f, so far. -/
def sorted (l : List Int) (f : Nat → Nat) : Nat → List (Int × Int)
  | 0 => []
  | j + 1 => insS (pr l (f j)) (sorted l f j)
theorem mem_sorted (l : List Int) (f : Nat → Nat) (j : Nat) (x : Int × Int) : x ∈ sorted l f j ↔ ∃ i, i < j ∧ x = pr l (f i) := by
  induction j with
  | zero => simp [sorted]
  | succ j ih =>
    unfold sorted
    rw [(insS_perm _ _).mem_iff, List.mem_cons, ih]
    constructor
    · rintro (rfl | ⟨i, hi, rfl⟩)
      · exact ⟨j, by omega, rfl⟩
      · exact ⟨i, by omega, rfl⟩
    · rintro ⟨i, hi, rfl⟩
      by_cases h : i = j
      · subst h; exact .inl rfl
      · exact .inr ⟨i, by omega, rfl⟩
theorem length_sorted (l : List Int) (f : Nat → Nat) (j : Nat) : (sorted l f j).length = j := by
  induction j with
  | zero => rfl
  | succ j ih => unfold sorted; rw [(insS_perm _ _).length_eq]; simp [ih]
theorem new_id {l : List Int} {f : Nat → Nat} {n : Nat} (hf : ∀ i j, i < n → j < n → f i = f j → i = j) {j : Nat} (hj : j < n) : (pr l (f j)).1 ∉ (sorted l f j).map Prod.fst := by
  intro hh
  obtain ⟨x, hx, he⟩ := List.mem_map.1 hh
  obtain ⟨i, hi, rfl⟩ := (mem_sorted l f j x).1 hx
  have : (f i : Int) = (f j : Int) := he
  have := hf i j (by omega) hj (by omega)
  omega
theorem sorted_sorted {l : List Int} {f : Nat → Nat} {n : Nat} (hf : ∀ i j, i < n → j < n → f i = f j → i = j) : ∀ j, j ≤ n → (sorted l f j).Pairwise ltP := by
  intro j
  induction j with
  | zero => intro _; simp [sorted]
  | succ j ih => intro hj; unfold sorted; exact insS_sorted _ _ (ih (by omega)) (new_id hf (by omega))

def cont (m : Nat) (l : List Int) (f : Nat → Nat) (j : Nat) : List (Int × Int) := (sorted l f j).drop (j - m)
theorem cont_step {m n : Nat} {l : List Int} {f : Nat → Nat} (hf : ∀ i j, i < n → j < n → f i = f j → i = j) {j : Nat} (hj : j < n) : yput (m : Int) (cont m l f j) (f j : Int) (l.getD (f j) 0) = cont m l f (j + 1) := by
  have := yput_top (m := m) (t := l.getD (f j) 0) (sorted_sorted (l := l) hf j (by omega)) (new_id (l := l) hf hj)
  rw [length_sorted] at this
  exact this
theorem len_cont (m : Nat) (l : List Int) (f : Nat → Nat) (j : Nat) : (cont m l f j).length = min j m := by
  unfold cont; rw [List.length_drop, length_sorted]; omega

/-- turned round. -/
def turn (n b i : Nat) : Nat := (n - 1 - i + b) % n
theorem turn_inj {n b : Nat} : ∀ i j, i < n → j < n → turn n b i = turn n b j → i = j := by
  have key : ∀ i j, i < n → j < n → i < j → turn n b i ≠ turn n b j := by
    intro i j hi hj hij h
    unfold turn at h
    have h1 := Nat.sub_mod_eq_zero_of_mod_eq h
    have h2 : (n - 1 - i + b) - (n - 1 - j + b) = j - i := by omega
    rw [h2, Nat.mod_eq_of_lt (by omega)] at h1
    omega
  intro i j hi hj h
  rcases Nat.lt_trichotomy i j with hlt | heq | hgt
  · exact absurd h (key i j hi hj hlt)
  · exact heq
  · exact absurd h.symm (key j i hj hi hgt)
theorem turn_surj {n b k : Nat} (hk : k < n) : ∃ i, i < n ∧ turn n b i = k := by
  refine ⟨(n - 1 + b - k) % n, Nat.mod_lt _ (by omega), ?_⟩
  unfold turn
  have h1 := Nat.div_add_mod (n - 1 + b - k) n
  have h2 := Nat.mod_lt (n - 1 + b - k) (show 0 < n by omega)
  generalize (n - 1 + b - k) % n = i at *
  generalize (n - 1 + b - k) / n = q at *
  have h3 : n - 1 - i + b = k + n * q := by omega
  rw [h3, Nat.add_mul_mod_self_left, Nat.mod_eq_of_lt hk]
theorem turn_lt {n b i : Nat} (h : i < n) : turn n b i < n := Nat.mod_lt _ (by omega)
theorem sorted_same (l : List Int) (n b : Nat) : sorted l (fun i => i) n = sorted l (turn n b) n := by
  refine sorted_ext (sorted_sorted (n := n) (fun i j _ _ h => h) n (Nat.le_refl _)) (sorted_sorted (n := n) turn_inj n (Nat.le_refl _)) (fun x => ?_)
  rw [mem_sorted, mem_sorted]
  constructor
  · rintro ⟨i, hi, rfl⟩
    obtain ⟨j, hj, e⟩ := turn_surj (b := b) hi
    exact ⟨j, hj, by rw [e]⟩
  · rintro ⟨i, hi, rfl⟩
    exact ⟨_, turn_lt hi, rfl⟩
theorem cont_same (m : Nat) (l : List Int) (n b : Nat) : cont m l (turn n b) n = cont m l (fun i => i) n := by unfold cont; rw [sorted_same l n b]
theorem look_more {m m' n : Nat} {l : List Int} {id : Int} (hm : m ≤ m') (h : ((cont m l (fun i => i) n).lookup id).isSome = true) : ((cont m' l (fun i => i) n).lookup id).isSome = true := by
  rw [tombKeeps.lookup_isSome, decide_eq_true_eq] at *
  obtain ⟨x, hx, rfl⟩ := List.mem_map.1 h
  refine List.mem_map.2 ⟨x, ?_, rfl⟩
  unfold cont at *
  have : n - m = (n - m') + ((n - m) - (n - m')) := by omega
  rw [this, ← List.drop_drop] at hx
  exact List.mem_of_mem_drop hx
end Go.Proofs.Ytfeikcfhionjkaa.tombOrder
