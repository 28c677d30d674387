/- The document's queue (tallyroomref12): what Drop, Put and Find compute, as the sorted list's own functions. -/
import Derived.Test.YtfeikcfhionjkaaTombKeepsW
import Derived.Test.YtfeikcfhionjkaaPk3
set_option linter.unusedVariables false
set_option linter.unusedSimpArgs false
namespace Go.Proofs.Ytfeikcfhionjkaa.Pk
open Go.RowKit Go.Proofs.Ytfeikcfhionjkaa.B0 Go.Proofs.Ytfeikcfhionjkaa.Hp Go.Proofs.YtfeikcfhionjkaaW.PrintWords

abbrev I := S41
def cv (x : Int × Int) : I := ⟨x.1, x.2⟩

theorem rd_cv (S : List (Int × Int)) (i : Nat) (hi : i < S.length) : rd_T41 (S.map cv) (i : Int) = cv (S.getD i (0, 0)) := by
  unfold rd_T41
  rw [Int.toNat_natCast, List.getD_eq_getElem?_getD, List.getElem?_map, List.getElem?_eq_getElem hi, List.getD_eq_getElem?_getD, List.getElem?_eq_getElem hi]
  rfl

theorem wrapS {i : Nat} (h : i < 1000000) : wrap64 ((i : Int) + 1) = ((i + 1 : Nat) : Int) := by unfold wrap64; omega

theorem drop_l0 (S : List (Int × Int)) (id : Int) (hS : S.length < 1000000) (d : Nat) : ∀ (k i : Nat) (acc : List (Int × Int)), S.length - i = d → d < k → acc.length ≤ i → i ≤ S.length →
    tallyroomref12_Drop.l0 k (S.map cv) id (acc.map cv) (i : Int) = some ((acc ++ delS (S.drop i) id).map cv) := by
  induction d with
  | zero =>
    intro k i acc hd hk ha hi
    obtain ⟨k, rfl⟩ : ∃ m, k = m + 1 := ⟨k - 1, by omega⟩
    simp only [tallyroomref12_Drop.l0]
    rw [if_neg (by rw [List.length_map]; omega), List.drop_of_length_le (by omega)]
    simp [delS]
  | succ d ih =>
    intro k i acc hd hk ha hi
    obtain ⟨k, rfl⟩ : ∃ m, k = m + 1 := ⟨k - 1, by omega⟩
    have hil : i < S.length := by omega
    simp only [tallyroomref12_Drop.l0]
    rw [if_pos (by rw [List.length_map]; omega), if_pos (by omega), rd_cv S i hil, wrapS (by omega)]
    have hg : S.getD i (0, 0) = S[i] := by rw [List.getD_eq_getElem?_getD, List.getElem?_eq_getElem hil]; rfl
    rw [hg, List.drop_eq_getElem_cons hil]
    by_cases he : S[i].1 = id
    · rw [if_pos (by exact he), ih k (i + 1) acc (by omega) (by omega) (by omega) (by omega)]
      congr 2
      unfold delS
      rw [List.filter_cons]; simp [he]
    · rw [if_neg (by exact he), if_pos (by rw [List.length_map]; omega)]
      have : acc.map cv ++ [(⟨(cv S[i]).f0, (cv S[i]).f1⟩ : I)] = (acc ++ [S[i]]).map cv := by simp [cv]
      rw [this, ih k (i + 1) (acc ++ [S[i]]) (by omega) (by omega) (by simp; omega) (by omega)]
      congr 2
      unfold delS
      rw [List.filter_cons]; simp [he]

theorem drop_f (S : List (Int × Int)) (id : Int) (hS : S.length < 1000000) (k : Nat) (hk : S.length < k) : tallyroomref12_Drop.f k (S.map cv) id = some ((delS S id).map cv) := by
  unfold tallyroomref12_Drop.f
  have := drop_l0 S id hS S.length k 0 [] (by omega) hk (by simp) (by omega)
  simpa using this

theorem put_l0 (S : List (Int × Int)) (id t : Int) (hS : S.length < 1000000) (d : Nat) : ∀ (k i : Nat), S.length - i = d → d < k → i ≤ S.length →
    tallyroomref12_Put.l0 k (S.map cv) (i : Int) id t = some ((S.take i ++ insS (id, t) (S.drop i)).map cv) := by
  induction d with
  | zero =>
    intro k i hd hk hi
    obtain ⟨k, rfl⟩ : ∃ m, k = m + 1 := ⟨k - 1, by omega⟩
    have hi' : i = S.length := by omega
    have e1 : ¬ (i : Int) < ((S.map cv).length : Int) := by rw [List.length_map]; omega
    simp only [tallyroomref12_Put.l0, if_neg e1, Option.bind_some, List.nil_append, List.length_nil, Nat.zero_add]
    repeat (rw [if_pos (by first | omega | (simp only [List.length_map, List.length_append, List.length_take, List.length_drop, List.length_cons, List.length_nil, Int.toNat_natCast]; omega))])
    rw [List.drop_of_length_le (by first | omega | (rw [List.length_map]; omega)), List.drop_of_length_le (by first | omega | (rw [List.length_map]; omega))]
    simp [insS, cv, List.map_take]
  | succ d ih =>
    intro k i hd hk hi
    obtain ⟨k, rfl⟩ : ∃ m, k = m + 1 := ⟨k - 1, by omega⟩
    have hil : i < S.length := by omega
    have hg : S.getD i (0, 0) = S[i] := by rw [List.getD_eq_getElem?_getD, List.getElem?_eq_getElem hil]; rfl
    have hrec : tallyroomref12_Put.l0 k (S.map cv) ((i + 1 : Nat) : Int) id t = some ((S.take i ++ S[i] :: insS (id, t) (S.drop (i + 1))).map cv) := by
      rw [ih k (i + 1) (by omega) (by omega) (by omega), List.take_succ_eq_append_getElem hil, List.append_assoc, List.singleton_append]
    have hins : insS (id, t) (S.drop i) = if ltP S[i] (id, t) then S[i] :: insS (id, t) (S.drop (i + 1)) else (id, t) :: S.drop i := by
      rw [List.drop_eq_getElem_cons hil]; conv => lhs; unfold insS
    have e1 : (i : Int) < ((S.map cv).length : Int) := by rw [List.length_map]; omega
    have e2 : (0 : Int) ≤ i := by omega
    rw [tallyroomref12_Put.l0, if_pos e1, if_pos e2, rd_cv S i hil, wrapS (by omega), hg, hrec, hins]
    have fin : ((some (([] : List I) : List I)).bind fun y119 => if (i : Int) ≤ ((S.map cv).length : Int) then (some ((S.map cv).take (i : Int).toNat)).bind fun y122 => if y119.length + y122.length < 8796093022208 then (some (y119 ++ y122)).bind fun y126 => if y126.length < 8796093022208 then (some (y126 ++ [(⟨id, t⟩ : I)])).bind fun y129 => (some ((S.map cv).drop (i : Int).toNat)).bind fun y132 => if y129.length + y132.length < 8796093022208 then some (y129 ++ y132) else none else none else none else none) = some ((S.take i ++ (id, t) :: S.drop i).map cv) := by
      simp only [Option.bind_some, List.nil_append, List.length_nil, Nat.zero_add]
      repeat (rw [if_pos (by first | omega | (simp only [List.length_map, List.length_append, List.length_take, List.length_drop, List.length_cons, List.length_nil, Int.toNat_natCast]; omega))])
      simp [cv, List.map_take, List.map_drop]
    by_cases h1 : S[i].2 < t
    · rw [if_pos (show (cv S[i]).f1 < t from h1), if_pos (show ltP S[i] (id, t) from .inl h1)]
    · rw [if_neg (show ¬ (cv S[i]).f1 < t from h1)]
      by_cases h2 : S[i].2 = t
      · rw [if_pos (show (cv S[i]).f1 = t from h2)]
        by_cases h3 : S[i].1 < id
        · rw [if_pos (show (cv S[i]).f0 < id from h3), if_pos (show ltP S[i] (id, t) from .inr ⟨h2, h3⟩)]
        · rw [if_neg (show ¬ (cv S[i]).f0 < id from h3), if_neg (show ¬ ltP S[i] (id, t) from by unfold ltP; simp; omega)]
          exact fin
      · rw [if_neg (show ¬ (cv S[i]).f1 = t from h2), if_neg (show ¬ ltP S[i] (id, t) from by unfold ltP; simp; omega)]
        exact fin

theorem put_f (S : List (Int × Int)) (id t : Int) (hS : S.length < 1000000) (k : Nat) (hk : S.length < k) : tallyroomref12_Put.f k (S.map cv) id t = some ((putS S id t).map cv) := by
  unfold tallyroomref12_Put.f
  rw [drop_f S id hS k hk, Option.bind_some]
  have hl : (delS S id).length ≤ S.length := List.length_filter_le _ _
  have := put_l0 (delS S id) id t (by omega) (delS S id).length k 0 (by omega) (by omega) (by omega)
  simpa [putS] using this

/-- an id's place; below 0: it isn't there. -/
def findS (S : List (Int × Int)) (id : Int) : Int := if id ∈ S.map Prod.fst then ((S.map Prod.fst).idxOf id : Nat) else -1
theorem find_l0 (S : List (Int × Int)) (id : Int) (hS : S.length < 1000000) (d : Nat) : ∀ (k i : Nat), S.length - i = d → d < k → i ≤ S.length →
    tallyroomref12_Find.l0 k (S.map cv) id (i : Int) = some (if id ∈ (S.drop i).map Prod.fst then (i : Int) + (((S.drop i).map Prod.fst).idxOf id : Nat) else -1) := by
  induction d with
  | zero =>
    intro k i hd hk hi
    obtain ⟨k, rfl⟩ : ∃ m, k = m + 1 := ⟨k - 1, by omega⟩
    simp only [tallyroomref12_Find.l0]
    rw [if_neg (by rw [List.length_map]; omega), List.drop_of_length_le (by omega)]
    simp
  | succ d ih =>
    intro k i hd hk hi
    obtain ⟨k, rfl⟩ : ∃ m, k = m + 1 := ⟨k - 1, by omega⟩
    have hil : i < S.length := by omega
    have hg : S.getD i (0, 0) = S[i] := by rw [List.getD_eq_getElem?_getD, List.getElem?_eq_getElem hil]; rfl
    simp only [tallyroomref12_Find.l0]
    rw [if_pos (by rw [List.length_map]; omega), if_pos (by omega), rd_cv S i hil, wrapS (by omega), hg, List.drop_eq_getElem_cons hil]
    by_cases he : S[i].1 = id
    · have hb : (S[i].1 == id) = true := by simp [he]
      rw [if_pos (by exact he), List.map_cons, if_pos (by rw [List.mem_cons]; exact .inl he.symm), List.idxOf_cons, hb]
      simp
    · rw [if_neg (by exact he), ih k (i + 1) (by omega) (by omega) (by omega)]
      simp only [List.map_cons, List.mem_cons]
      have hne : ¬ id = S[i].1 := fun hh => he hh.symm
      have hb : (S[i].1 == id) = false := by simp [he]
      rw [List.idxOf_cons, hb]
      by_cases hm : id ∈ (S.drop (i + 1)).map Prod.fst
      · rw [if_pos hm, if_pos (.inr hm)]
        simp only [cond_false]; congr 1; omega
      · rw [if_neg hm, if_neg (by rintro (h | h); exact hne h; exact hm h)]
theorem find_f (S : List (Int × Int)) (id : Int) (hS : S.length < 1000000) (k : Nat) (hk : S.length < k) : tallyroomref12_Find.f k (S.map cv) id = some (findS S id) := by
  unfold tallyroomref12_Find.f findS
  have := find_l0 S id hS S.length k 0 (by omega) hk (by omega)
  rw [List.drop_zero] at this
  simpa using this
theorem findS_ge (S : List (Int × Int)) (id : Int) : decide (findS S id ≥ 0) = decide (id ∈ S.map Prod.fst) := by
  unfold findS
  by_cases h : id ∈ S.map Prod.fst
  · rw [if_pos h]; simp [h]
  · rw [if_neg h]; simp [h]
end Go.Proofs.Ytfeikcfhionjkaa.Pk
