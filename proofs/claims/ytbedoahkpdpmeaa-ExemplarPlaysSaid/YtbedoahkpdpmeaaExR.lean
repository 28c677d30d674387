/- The law's helpers by contract: Same, the reference's Best; what Best gives, as a row of exemplars. -/
import Derived.Test.YtbedoahkpdpmeaaExB
import Derived.Test.YtbedoahkpdpmeaaEx9
import Derived.Test.YtbedoahkpdpmeaaPeOp
set_option linter.unusedVariables false
set_option linter.unusedSimpArgs false
namespace Go.Proofs.Ytbedoahkpdpmeaa.Ex
open Go.RowKit Go.Proofs.Ytbedoahkpdpmeaa.B0 Go.Proofs.Ytbedoahkpdpmeaa.Pe Go.Proofs.YtbedoahkpdpmeaaW.PrintWords

theorem C_of_own {w : World} {base : Nat} {v : Value} {X : List One} (h : w.ownsRow base 31 4 v X.length (flat X)) : ∃ A c, v = .slice A X.length c ∧ X.length ≤ c ∧ Kd.C k31 w A X.length X := by
  rcases h.2 with ⟨rfl, h0⟩ | ⟨g, cap, cur, rfl, _, _, hnc, hcm, _⟩
  · have : X = [] := List.eq_nil_of_length_eq_zero h0
    subst this
    exact ⟨none, 0, rfl, Nat.le_refl _, Kd.C_nil _ _⟩
  · refine ⟨some ⟨g, 0, none⟩, cap, rfl, hnc, rfl, by unfold maxLen at hcm; omega, fun _ => ⟨_, rfl, fun j x hx => ⟨_, rfl, k31_mk w x, fun i u hu => ?_⟩⟩⟩
    have hj := (List.getElem?_eq_some_iff.1 hx).1
    have hi : i < 4 := (List.getElem?_eq_some_iff.1 hu).1
    show w.cell? (Addr.add ⟨g, 0, none⟩ (j * 4 + i)) = _
    rw [add_lit, Nat.zero_add, h.cellAt (j * 4 + i) (by omega), flat_at hx i hi]
    exact hu

theorem rdE {L : List One} {i : Nat} {y : One} (h : L[i]? = some y) : rd_T31 L (i : Int) = y := by
  unfold rd_T31
  simp [List.getD, h]
theorem same_l0 (X : List One) (hX : X.length ≤ 60) : ∀ (d i : Nat), i + d = X.length → tallyroomlaw21_Same.l0 (d + 1) X (X.map toR) i = some true := by
  intro d
  induction d with
  | zero =>
    intro i hi
    rw [tallyroomlaw21_Same.l0, if_neg (by omega)]
  | succ d ih =>
    intro i hi
    obtain ⟨y, hy⟩ : ∃ y, X[i]? = some y := ⟨_, List.getElem?_eq_getElem (by omega)⟩
    have hy2 : (X.map toR)[i]? = some (toR y) := by rw [List.getElem?_map, hy]; rfl
    rw [tallyroomlaw21_Same.l0, if_pos (by omega), if_pos (by omega), if_pos (by rw [List.length_map]; omega), rdE hy, rdR hy2, w1_eq (show i < X.length by omega) (by omega), ih (i + 1) (by omega)]
    simp [toR]
theorem Same_t {w : World} {A A' : Option Addr} {c c' : Nat} {X : List One} {R : List Rf} (hX : X.length ≤ 60) (hR : R = X.map toR) (h1 : Kd.C k31 w A X.length X) (hc : X.length ≤ c) (h2 : Kd.C k32 w A' R.length R) (hc' : R.length ≤ c') :
    Calls Try.prog 9 #[.slice A X.length c, .slice A' R.length c'] w fun e w' => e = .returned (.bool true) ∧ Below w.heap.size w w' := by
  subst hR
  refine (tallyroomlaw21_Same.calls (X.length + 1) A c X A' c' (X.map toR) true w h1 hc h2 hc' ?_).mono fun e w' ⟨he, hd⟩ => ⟨he, hd.below⟩
  unfold tallyroomlaw21_Same.f
  rw [if_pos (by rw [List.length_map])]
  exact same_l0 X hX X.length 0 (by omega)
theorem Best_r {w : World} {A : Option Addr} {c : Nat} {L : List Rf} (m : Int) (h0 : 0 ≤ m) (hL : L.length ≤ 60) (h : Kd.C k32 w A L.length L) (hc : L.length ≤ c) :
    Calls Try.prog 11 #[.slice A L.length c, .int .i64 m] w fun e w' => ∃ A' c', e = .returned (.slice A' (((bestF (L.map toE)).take m.toNat).map toR).length c') ∧ (((bestF (L.map toE)).take m.toNat).map toR).length ≤ c' ∧ Kd.C k32 w' A' (((bestF (L.map toE)).take m.toNat).map toR).length (((bestF (L.map toE)).take m.toNat).map toR) ∧ Below w.heap.size w w' := by
  obtain ⟨k, hk⟩ := ref_best L m h0 hL
  refine (tallyroomref21_Best.calls k A c L m _ w h hc hk).mono ?_
  rintro e w' ⟨v, rfl, hR, hB⟩
  obtain ⟨A', c', rfl, h1, h2⟩ := Kd.R_reads hR
  exact ⟨A', c', rfl, h1, h2, hB⟩

/-- the other order: from behind, turned round. -/
def idx (n b j : Nat) : Nat := (n - 1 - j + b) % n
def rot (l : List Rf) (b : Nat) : List Rf := (List.range l.length).map fun j => l.getD (idx l.length b j) z32
theorem idx_lt {n : Nat} (b : Nat) {j : Nat} (h : j < n) : idx n b j < n := Nat.mod_lt _ (by omega)
theorem rot_at {l : List Rf} {b j : Nat} {y : Rf} (h : j < l.length) (hy : l[idx l.length b j]? = some y) : (rot l b)[j]? = some y := by
  unfold rot
  rw [List.getElem?_map, List.getElem?_range h]
  simp [List.getD, hy]
theorem rot_mem (l : List Rf) (b : Nat) (z : Rf) : z ∈ rot l b ↔ z ∈ l := by
  unfold rot
  rw [List.mem_map]
  constructor
  · rintro ⟨j, hj, rfl⟩
    have hj' := List.mem_range.1 hj
    have := idx_lt b hj'
    rw [List.getD_eq_getElem?_getD, List.getElem?_eq_getElem this]
    exact List.getElem_mem _
  · intro h
    obtain ⟨k, hk, rfl⟩ := List.getElem_of_mem h
    have hm : (l.length - 1 + b - k) % l.length < l.length := Nat.mod_lt _ (by omega)
    refine ⟨(l.length - 1 + b - k) % l.length, List.mem_range.2 hm, ?_⟩
    have e : idx l.length b ((l.length - 1 + b - k) % l.length) = k := by
      unfold idx
      have hd := Nat.div_add_mod (l.length - 1 + b - k) l.length
      generalize (l.length - 1 + b - k) % l.length = j at *
      generalize (l.length - 1 + b - k) / l.length = q at *
      rw [show l.length - 1 - j + b = k + l.length * q from by omega, Nat.add_mul_mod_self_left, Nat.mod_eq_of_lt hk]
    rw [e, List.getD_eq_getElem?_getD, List.getElem?_eq_getElem hk]
    rfl
theorem rot_len (l : List Rf) (b : Nat) : (rot l b).length = l.length := by unfold rot; simp
theorem idx_int {n b j : Nat} (h : j < n) : ((n : Int) - 1 - j + b) % n = (idx n b j : Int) := by
  unfold idx
  have : ((n : Int) - 1 - j + b) = ((n - 1 - j + b : Nat) : Int) := by omega
  rw [this]; omega
end Go.Proofs.Ytbedoahkpdpmeaa.Ex
