/- The reference's best ones are the first of the sorted list of all. No program. -/
import Derived.Test.YtbedoahkpdpmeaaExP
set_option linter.unusedVariables false
set_option linter.unusedSimpArgs false
namespace Go.Proofs.Ytbedoahkpdpmeaa.Ex
open Go.RowKit Go.Proofs.Ytbedoahkpdpmeaa.B0 Go.Proofs.Ytbedoahkpdpmeaa.Pe Go.Proofs.YtbedoahkpdpmeaaW.PrintWords

abbrev Rf := S32
def toE (x : Rf) : One := ⟨x.f0, x.f1, x.f2, x.f3⟩
def toR (x : One) : Rf := ⟨x.f0, x.f1, x.f2, x.f3⟩
theorem toR_toE (x : Rf) : toR (toE x) = x := rfl
theorem toE_toR (x : One) : toE (toR x) = x := rfl
theorem toE_inj {x y : Rf} (h : toE x = toE y) : x = y := by rw [← toR_toE x, h, toR_toE]
def eqR (a b : Rf) : Bool := (a.f0 == b.f0 && (a.f1 == b.f1 && (a.f2 == b.f2 && (a.f3 == b.f3))))
theorem eqR_iff (a b : Rf) : eqR a b = true ↔ a = b := by
  cases a; cases b; simp [eqR]
theorem ref_better (x y : Rf) : tallyroomref21_Better.f x.f0 x.f1 x.f2 x.f3 y.f0 y.f1 y.f2 y.f3 = some (decide (ordE (toE x) (toE y) < 0)) := by
  have h : ordE (toE x) (toE y) < 0 ↔ lt4 (toE x) (toE y) := ordE_lt _ _
  obtain ⟨x0, x1, x2, x3⟩ := x
  obtain ⟨y0, y1, y2, y3⟩ := y
  unfold tallyroomref21_Better.f
  cases x3 <;> cases y3 <;> simp only [bne_self_eq_false, Bool.false_eq_true, if_false, Bool.true_bne, Bool.not_false, if_true, Bool.false_bne, Bool.not_true]
  all_goals (try split)
  all_goals (try split)
  all_goals (refine congrArg some ?_; rw [Bool.eq_iff_iff]; refine Iff.trans ?_ (h.symm.trans decide_eq_true_iff.symm))
  all_goals (simp only [lt4, toE, fi, Bool.false_eq_true, if_true, if_false, true_and, false_and, false_or, or_false, Int.lt_irrefl, decide_eq_true_eq])
  all_goals (first | omega | simp)

def W1 (i : Nat) : Int := wrap64 ((i : Int) + 1)
theorem w1_eq {i n : Nat} (h : i < n) (hn : n ≤ 1000) : wrap64 ((i : Int) + 1) = ((i + 1 : Nat) : Int) := by unfold wrap64; omega
theorem rdR {L : List Rf} {i : Nat} {y : Rf} (h : L[i]? = some y) : rd_T32 L (i : Int) = y := by
  unfold rd_T32
  simp [List.getD, h]

instance : DecidableEq Rf := fun a b => decidable_of_iff _ (eqR_iff a b)

def stepAt (L out : List Rf) (at' : Int) (i : Nat) (y : Rf) : Int :=
  if y ∈ out then at' else if at' < 0 then (i : Int) else if ordE (toE y) (toE (rd_T32 L at')) < 0 then (i : Int) else at'

theorem l2_eq (L : List Rf) (m : Int) (out : List Rf) (at' : Int) (i : Nat) (y : Rf) (hy : L[i]? = some y) (hL : L.length ≤ 60) (ho : out.length ≤ 60) (ha : at' < L.length) (K : Nat) :
    ∀ (d j : Nat) (tk : Bool), j + d = out.length → (tk = true ∨ tk = false ∧ True) → tallyroomref21_Best.l2 (K + d + 1) L m out at' i tk j = tallyroomref21_Best.l1 K L m out (if tk = true ∨ y ∈ out.drop j then at' else if at' < 0 then (i : Int) else if ordE (toE y) (toE (rd_T32 L at')) < 0 then (i : Int) else at') ((i + 1 : Nat) : Int) := by
  have hil := (List.getElem?_eq_some_iff.1 hy).1
  have hr := rdR hy
  have hw := w1_eq hil (by omega : L.length ≤ 1000)
  intro d
  induction d with
  | zero =>
    intro j tk hj _
    have hd : out.drop j = [] := List.drop_of_length_le (by omega)
    rw [hd]
    rw [Nat.add_zero, tallyroomref21_Best.l2]
    rw [if_neg (by omega), hw]
    cases tk with
    | true => simp
    | false =>
      simp only [Bool.false_eq_true, if_false, List.not_mem_nil, or_self]
      by_cases h0 : at' < 0
      · rw [if_pos h0, if_pos h0]
      · rw [if_neg h0, if_neg h0, if_pos (by omega), if_pos (by omega), if_pos (by omega), if_pos ha, hr, ref_better]
        simp only [Option.bind_some]
        by_cases hb : ordE (toE y) (toE (rd_T32 L at')) < 0
        · rw [if_pos hb, if_pos (by simpa using hb)]
        · rw [if_neg hb, if_neg (by simpa using hb)]
  | succ d ih =>
    intro j tk hj _
    have hjl : j < out.length := by omega
    have hwj := w1_eq hjl (by omega : out.length ≤ 1000)
    obtain ⟨z, hz⟩ : ∃ z, out[j]? = some z := ⟨_, List.getElem?_eq_getElem hjl⟩
    have hrz := rdR hz
    have hdr : out.drop j = z :: out.drop (j + 1) := by
      rw [List.drop_eq_getElem_cons hjl]; congr 1; exact (List.getElem?_eq_some_iff.1 hz).2
    rw [show K + (d + 1) + 1 = (K + d + 1) + 1 from rfl]
    rw [tallyroomref21_Best.l2]
    rw [if_pos (by omega), hwj]
    cases tk with
    | true =>
      rw [if_pos rfl, ih (j + 1) true (by omega) (.inl rfl)]
      simp
    | false =>
      rw [if_neg (by decide), if_pos (by omega), if_pos (by omega), if_pos (by omega), hr, hrz]
      have hq : (z.f0 == y.f0 && (z.f1 == y.f1 && (z.f2 == y.f2 && (z.f3 == y.f3)))) = eqR z y := rfl
      rw [hq, ih (j + 1) (eqR z y) (by omega) (by cases eqR z y <;> simp), hdr]
      congr 1
      by_cases e : eqR z y = true
      · have := (eqR_iff z y).1 e
        rw [if_pos (.inl e), if_pos (.inr (by simp [this]))]
      · have hne : ¬ (y = z) := fun h => e ((eqR_iff z y).2 h.symm)
        simp only [e, List.mem_cons, hne, false_or]

def InvB (L out : List Rf) (i : Nat) (a : Int) : Prop :=
  (a = -1 ∧ ∀ y ∈ L.take i, y ∈ out) ∨ ∃ (n : Nat) (y : Rf), a = n ∧ n < i ∧ L[n]? = some y ∧ y ∉ out ∧ ∀ z ∈ L.take i, z ∉ out → z = y ∨ lt4 (toE y) (toE z)

theorem inv_step {L out : List Rf} {i : Nat} {a : Int} {y : Rf} (h : InvB L out i a) (hy : L[i]? = some y) : InvB L out (i + 1) (stepAt L out a i y) := by
  have ht : L.take (i + 1) = L.take i ++ [y] := by rw [List.take_add_one, hy]; rfl
  have hm : ∀ z, z ∈ L.take (i + 1) ↔ z ∈ L.take i ∨ z = y := fun z => by rw [ht]; simp
  unfold stepAt
  by_cases ho : y ∈ out
  · rw [if_pos ho]
    rcases h with ⟨h1, h2⟩ | ⟨n, u, h1, h2, h3, h4, h5⟩
    · exact .inl ⟨h1, fun z hz => by rcases (hm z).1 hz with h | rfl; exact h2 z h; exact ho⟩
    · exact .inr ⟨n, u, h1, by omega, h3, h4, fun z hz hn => by rcases (hm z).1 hz with h | rfl; exact h5 z h hn; exact absurd ho hn⟩
  · rw [if_neg ho]
    rcases h with ⟨h1, h2⟩ | ⟨n, u, h1, h2, h3, h4, h5⟩
    · rw [if_pos (by omega)]
      exact .inr ⟨i, y, rfl, by omega, hy, ho, fun z hz hn => by rcases (hm z).1 hz with h | rfl; exact absurd (h2 z h) hn; exact .inl rfl⟩
    · subst h1
      rw [if_neg (by omega), rdR h3]
      by_cases hb : ordE (toE y) (toE u) < 0
      · rw [if_pos hb]
        have hlt := (ordE_lt _ _).1 hb
        refine .inr ⟨i, y, rfl, by omega, hy, ho, fun z hz hn => ?_⟩
        rcases (hm z).1 hz with h | rfl
        · rcases h5 z h hn with rfl | h
          · exact .inr hlt
          · exact .inr (lt4_trans hlt h)
        · exact .inl rfl
      · rw [if_neg hb]
        refine .inr ⟨n, u, rfl, by omega, h3, h4, fun z hz hn => ?_⟩
        rcases (hm z).1 hz with h | rfl
        · exact h5 z h hn
        · by_cases e : z = u
          · exact .inl e
          · right
            rcases lt4_total (x := toE z) (y := toE u) (fun h => e (toE_inj h)) with h | h
            · exact absurd ((ordE_lt _ _).2 h) hb
            · exact h

theorem l1_eq (L : List Rf) (m : Int) (out : List Rf) (hL : L.length ≤ 60) (ho : out.length ≤ 60) :
    ∀ (d i : Nat) (a : Int), i + d = L.length → InvB L out i a → ∃ a', InvB L out L.length a' ∧ ∀ K, tallyroomref21_Best.l1 (K + d * (out.length + 2) + 1) L m out a i = if a' < 0 then some out else tallyroomref21_Best.l0 K L m (out ++ [rd_T32 L a']) := by
  intro d
  induction d with
  | zero =>
    intro i a hi hI
    obtain rfl : i = L.length := by omega
    refine ⟨a, hI, fun K => ?_⟩
    rw [Nat.zero_mul, Nat.add_zero, tallyroomref21_Best.l1]
    rw [if_neg (by omega)]
    by_cases h0 : a < 0
    · rw [if_pos h0, if_pos h0]
    · have hal : a < L.length := by
        rcases hI with ⟨h1, h2⟩ | ⟨n, u, h1, h2, h3, h4, h5⟩ <;> omega
      rw [if_neg h0, if_neg h0, if_pos (by omega), if_pos hal, if_pos (by omega)]
  | succ d ih =>
    intro i a hi hI
    obtain ⟨y, hy⟩ : ∃ y, L[i]? = some y := ⟨_, List.getElem?_eq_getElem (by omega)⟩
    obtain ⟨a', hI', hK⟩ := ih (i + 1) (stepAt L out a i y) (by omega) (inv_step hI hy)
    refine ⟨a', hI', fun K => ?_⟩
    have hal : a < L.length := by
      rcases hI with ⟨h1, h2⟩ | ⟨n, u, h1, h2, h3, h4, h5⟩ <;> omega
    rw [show K + (d + 1) * (out.length + 2) + 1 = ((K + d * (out.length + 2) + 1) + out.length + 1) + 1 from by rw [Nat.succ_mul]; omega]
    rw [tallyroomref21_Best.l1]
    rw [if_pos (by omega)]
    refine (l2_eq L m out a i y hy hL ho hal _ out.length 0 false (by omega) (.inr ⟨rfl, trivial⟩)).trans ?_
    rw [← hK K]
    congr 1
    unfold stepAt
    simp

theorem best_l0 (L : List Rf) (m : Nat) (hL : L.length ≤ 60) : ∀ (d n : Nat), n + d = m → n ≤ (bestF (L.map toE)).length →
    ∃ k, tallyroomref21_Best.l0 k L m (((bestF (L.map toE)).take n).map toR) = some (((bestF (L.map toE)).take m).map toR) := by
  have hlen := bestF_len (L.map toE)
  rw [List.length_map] at hlen
  have hso := bestF_sorted (L.map toE)
  have hmem := mem_bestF (L.map toE)
  generalize bestF (L.map toE) = S at *
  intro d
  induction d with
  | zero =>
    intro n hn hS
    obtain rfl : n = m := by omega
    refine ⟨1, ?_⟩
    rw [tallyroomref21_Best.l0]
    rw [if_neg (by rw [List.length_map, List.length_take]; omega)]
  | succ d ih =>
    intro n hn hS
    have ho : ((S.take n).map toR).length = n := by rw [List.length_map, List.length_take]; omega
    obtain ⟨a, hI, hK⟩ := l1_eq L m ((S.take n).map toR) hL (by omega) L.length 0 (-1) (by omega) (.inl ⟨rfl, by simp⟩)
    rw [InvB, List.take_length] at hI
    have inO : ∀ z : Rf, z ∈ (S.take n).map toR ↔ toE z ∈ S.take n := fun z => by
      constructor
      · intro h
        obtain ⟨u, hu, rfl⟩ := List.mem_map.1 h
        exact hu
      · intro h
        exact List.mem_map.2 ⟨_, h, rfl⟩
    rcases hI with ⟨rfl, h2⟩ | ⟨j, y, rfl, h2, h3, h4, h5⟩
    · refine ⟨(0 + L.length * (((S.take n).map toR).length + 2) + 1) + 1, ?_⟩
      rw [tallyroomref21_Best.l0]
      rw [if_pos (by omega)]
      refine (hK 0).trans ?_
      rw [if_pos (by decide)]
      have hSn : S.length ≤ n := by
        refine Nat.le_of_not_lt fun hlt => ?_
        have hy : S[n] ∈ S := List.getElem_mem _
        obtain ⟨z, hz, he⟩ := List.mem_map.1 ((hmem S[n]).1 hy)
        have := (inO z).1 (h2 z hz)
        rw [he] at this
        obtain ⟨i, hi, hie⟩ := List.getElem_of_mem this
        rw [List.getElem_take] at hie
        rw [List.length_take] at hi
        have := List.pairwise_iff_getElem.1 hso i n (by omega) hlt (by omega)
        rw [hie] at this
        exact lt4_irrefl _ this
      rw [List.take_of_length_le hSn, List.take_of_length_le (by omega)]
    · have hyS : toE y ∈ S := (hmem _).2 (List.mem_map.2 ⟨y, List.mem_of_getElem? h3, rfl⟩)
      obtain ⟨q, hq, hqe⟩ := List.getElem_of_mem hyS
      have hnq : n ≤ q := by
        refine Nat.le_of_not_lt fun hlt => ?_
        apply h4
        rw [inO, ← hqe]
        exact List.mem_iff_getElem.2 ⟨q, by rw [List.length_take]; omega, by rw [List.getElem_take]⟩
      have hnS : n < S.length := by omega
      have hSn : S[n] = toE y := by
        by_cases e : q = n
        · subst e; exact hqe
        have hlt := List.pairwise_iff_getElem.1 hso n q hnS hq (by omega)
        rw [hqe] at hlt
        obtain ⟨z, hz, he⟩ := List.mem_map.1 ((hmem S[n]).1 (List.getElem_mem _))
        have hzo : z ∉ (S.take n).map toR := by
          rw [inO, he]
          intro hh
          obtain ⟨i, hi, hie⟩ := List.getElem_of_mem hh
          rw [List.getElem_take] at hie
          rw [List.length_take] at hi
          have := List.pairwise_iff_getElem.1 hso i n (by omega) hnS (by omega)
          rw [hie] at this
          exact lt4_irrefl _ this
        rcases h5 z hz hzo with rfl | h
        · exact he.symm
        · rw [he] at h
          exact absurd (lt4_trans h hlt) (lt4_irrefl _)
      obtain ⟨k, hk⟩ := ih (n + 1) (by omega) (by omega)
      refine ⟨(k + L.length * (((S.take n).map toR).length + 2) + 1) + 1, ?_⟩
      rw [tallyroomref21_Best.l0]
      rw [if_pos (by omega)]
      refine (hK k).trans ?_
      rw [if_neg (by omega), rdR h3, ← hk]
      congr 1
      rw [List.take_add_one, List.getElem?_eq_getElem hnS, hSn]
      simp [toR_toE]

theorem ref_best (L : List Rf) (m : Int) (h0 : 0 ≤ m) (hL : L.length ≤ 60) : ∃ k, tallyroomref21_Best.f k L m = some (((bestF (L.map toE)).take m.toNat).map toR) := by
  obtain ⟨k, hk⟩ := best_l0 L m.toNat hL m.toNat 0 (by omega) (by omega)
  exact ⟨k, by unfold tallyroomref21_Best.f; rw [show (m.toNat : Int) = m from by omega] at hk; exact hk⟩
end Go.Proofs.Ytbedoahkpdpmeaa.Ex
