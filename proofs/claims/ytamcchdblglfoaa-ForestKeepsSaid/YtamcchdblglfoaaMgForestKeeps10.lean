/- forest: slices.SortedFunc of spans, as a Call. forest: ways up by parents: ends, rings, the least of a ring. No program. forest: rows of nodes of the call's own: read, stored into. Maps in memory, by the list of their entries: what a lookup, a store, a delete, a length come to. No program. forest: begin, as a Call. forest: the builder in memory; cut, as a Call. forest: rings: what its loops keep. No walk. forest: rings, as a Call. -/
import Derived.Test.YtamcchdblglfoaaMgForestKeeps9
import Derived.Shelf.SlSortCmp.NoneTotal
import Derived.WalkKit
import Derived.Test.YtamcchdblglfoaaMgForestKeeps1
import Derived.Maps.Own
set_option linter.unusedVariables false
set_option linter.unusedSimpArgs false
namespace Go.Proofs.Ytamcchdblglfoaa.Ft
open Go.RowKit Go.Proofs.Ytamcchdblglfoaa.B0 Go.Proofs.Ytamcchdblglfoaa.Pf Go.Proofs.YtamcchdblglfoaaW.PrintWords

theorem ps_of_C {w : World} {A : Option Addr} {n : Nat} {l : List Sp} (h : Kd.C k44 w A n l) : ∃ ps : List PS, ps.map (fun p => p.s) = l ∧ RowP w A ps ∧ ∀ p ∈ ps, AttP w p := by
  have hn : l.length = n := h.1
  have h1 : ∀ j : Fin l.length, ∃ p : PS, p.s = l[j] ∧ (∃ ad, A = some ad ∧ ∀ (i : Nat) (u : Value), (csP p)[i]? = some u → w.cell? (ad.add (j.1 * 10 + i)) = some u) ∧ AttP w p := fun j => by
    obtain ⟨ad, e, hc⟩ := h.2.2 (by have := j.2; omega)
    obtain ⟨c, h1, h2, h3⟩ := hc j.1 l[j] (List.getElem?_eq_getElem j.2)
    obtain ⟨A9, c9, rfl, hl, hC⟩ := k44_open h2
    exact ⟨⟨l[j], A9, c9⟩, rfl, ⟨ad, e, h3⟩, hC, hl⟩
  refine ⟨List.ofFn (fun j => Classical.choose (h1 j)), ?_, ?_, ?_⟩
  · apply List.ext_getElem
    · simp
    · intro i hi hi2
      simp only [List.getElem_map, List.getElem_ofFn]
      exact (Classical.choose_spec (h1 ⟨i, hi2⟩)).1
  · intro i p hp
    obtain ⟨hi, rfl⟩ := List.getElem?_eq_some_iff.1 hp
    simp only [List.getElem_ofFn]
    exact (Classical.choose_spec (h1 ⟨i, by simpa using hi⟩)).2.1
  · intro p hp
    obtain ⟨i, hi, rfl⟩ := List.mem_iff_getElem.1 hp
    simp only [List.getElem_ofFn]
    exact (Classical.choose_spec (h1 ⟨i, by simpa using hi⟩)).2.2
theorem C_of_ps {w : World} {A : Option Addr} {ps : List PS} (h : RowP w A ps) (ha : ∀ p ∈ ps, AttP w p) (hn : ps.length ≤ 1000000) : Kd.C k44 w A ps.length (ps.map fun p => p.s) := by
  refine ⟨by simp, by omega, fun hp => ?_⟩
  obtain ⟨ad, e, _⟩ := h 0 ps[0] (List.getElem?_eq_getElem hp)
  refine ⟨ad, e, fun j x hx => ?_⟩
  rw [List.getElem?_map, Option.map_eq_some_iff] at hx
  obtain ⟨p, hp, rfl⟩ := hx
  obtain ⟨ad', e', hc⟩ := h j p hp
  rw [e] at e'
  obtain rfl := Option.some.inj e'
  have hat := ha p (List.mem_of_getElem? hp)
  exact ⟨csP p, rfl, k44_mk w p.s hat.2 hat.1, hc⟩

set_option maxHeartbeats 2000000 in
set_option maxRecDepth 100000 in
theorem SortedF_c {w0 w : World} (hb : Below w0.heap.size w0 w) (Bm : Nat) (A : Option Addr) (c : Nat) (ps : List PS) (hm : w.cell? ⟨Bm, 0, none⟩ = some (.slice A ps.length c)) (hrow : RowP w A ps) (hatt : ∀ p ∈ ps, AttP w0 p) (hN : ps.length ≤ 1000000) :
    Calls Try.prog 74 #[.func (.func 93) #[] #[.pointer (some ⟨Bm, 0, none⟩)], .func (.func 23) #[] #[]] w fun e w' => ∃ (A' : Option Addr) (c' : Nat) (X : List PS),
      e = .returned (.slice A' ps.length c') ∧ X.Perm ps ∧ X.Pairwise (fun a b => cmpSp a.s b.s ≤ 0) ∧ RowP w' A' X ∧ ps.length ≤ c' ∧ Below w0.heap.size w0 w' := by
  obtain ⟨N, hNn⟩ : ∃ N, Hid (ps.length = N) := ⟨_, Lib.hid rfl⟩
  have HC : Hid (Calls Try.prog 91 #[.func (.func 93) #[] #[.pointer (some ⟨Bm, 0, none⟩)]] w fun e w' => ∃ (v : Value) (ss : List PS), e = .returned v ∧ ss = ps ∧ w'.ownsRow w.heap.size 44 10 v ss.length (cells ss) ∧ (v = .slice none 0 0 ↔ ss = []) ∧ Below w.heap.size w w') :=
    callsIn_wide.1 (collect_in Fence.wide 5 trivial trivial rfl (by omega) 93 _ trivial (enters_of Try.func93 (by kernel_rfl) rfl) _ ps.length (by simp [maxLen]; omega) (by omega) w (vals_gives Fence.wide 3 trivial rfl (by omega) Bm A c ps w hm hrow hN))
  rw [hNn.out] at hN ⊢
  have HB := Lib.hid hb; have HA := Lib.hid hatt; clear hb hatt hm hrow
  go_enter Try.func74, Try.ntmps74
  go_wp2_with fail
  refine HC.out.mono ?_
  rintro e w1 ⟨v, ss, rfl, rfl, hown, hnil, hb1⟩
  have HO := Lib.hid (And.intro hown (And.intro hnil hb1)); clear hown hnil hb1
  rcases HO.out.1.2 with ⟨rfl, hz⟩ | ⟨g, cap, cur, rfl, hrest⟩
  · have hss : ss = [] := HO.out.2.1.1 rfl
    have hN0 : N = 0 := by rw [← hNn.out, hss]; rfl
    subst hN0
    clear hz
    go_wp2_with fail
    refine (AnyF.slices_SortFunc_none Try.layQ none 0 _ w1).mono ?_
    rintro e w2 ⟨rfl, hw2⟩
    subst hw2
    go_wp2_with fail
    go_ret
    exact ⟨none, 0, [], rfl, by rw [hss], List.Pairwise.nil, (fun i p h => by simp at h), Nat.le_refl _, HB.out.trans (HO.out.2.2.mono HB.out.size)⟩
  · have HR := Lib.hid hrest; clear hrest
    have hne : ss ≠ [] := fun e => by have := HO.out.2.1.2 e; cases this
    rw [hNn.out]
    go_wp2_with fail
    have hs := sort_ps (w0 := w0) (w := w1) (HB.out.trans (HO.out.2.2.mono HB.out.size)) g cap (Nat.le_trans HB.out.size HR.out.1) ss hne HA.out cur HR.out.2.1 HR.out.2.2.2.2.2 (by rw [hNn.out]; exact hN)
    rw [hNn.out] at hs
    refine hs.mono ?_
    rintro e w2 ⟨rfl, X, hp, hpw, hrow2, hb2⟩
    have H2 := Lib.hid (And.intro hp (And.intro hpw (And.intro hrow2 hb2))); clear hp hpw hrow2 hb2 hs
    go_wp2_with fail
    go_ret
    exact ⟨_, cap, X, rfl, H2.out.1, H2.out.2.1, H2.out.2.2.1, by have := HR.out.2.2.1; rw [hNn.out] at this; exact this, H2.out.2.2.2⟩
end Go.Proofs.Ytamcchdblglfoaa.Ft
set_option linter.unusedVariables false
namespace Go.Proofs.Ytamcchdblglfoaa.Ft

/-- a node's parent; below 0: none. -/
def nx (l : List Int) (x : Int) : Int := if x < 0 then -1 else l.getD x.toNat (-1)
theorem nx_neg {l : List Int} {x : Int} (h : x < 0) : nx l x = -1 := if_pos h
theorem nx_at {l : List Int} {i : Nat} : nx l (i : Int) = l.getD i (-1) := by unfold nx; rw [if_neg (by omega), Int.toNat_natCast]
theorem nx_set {l : List Int} {i : Nat} {v : Int} (hi : i < l.length) (x : Int) : nx (l.set i v) x = if x = i then v else nx l x := by
  unfold nx
  by_cases hx : x < 0
  · rw [if_pos hx, if_pos hx, if_neg (by omega)]
  · rw [if_neg hx, if_neg hx]
    by_cases he : x = i
    · subst he
      rw [if_pos rfl, Int.toNat_natCast]
      simp [List.getD_eq_getElem?_getD, hi]
    · rw [if_neg he]
      rw [List.getD_eq_getElem?_getD, List.getD_eq_getElem?_getD, List.getElem?_set_ne (by omega)]
/-- each parent is a node, or none. -/
def InR (l : List Int) : Prop := ∀ x : Int, nx l x = -1 ∨ (0 ≤ nx l x ∧ nx l x < l.length)
theorem InR.of {l : List Int} (h : ∀ i : Nat, i < l.length → l.getD i (-1) = -1 ∨ (0 ≤ l.getD i (-1) ∧ l.getD i (-1) < l.length)) : InR l := fun x => by
  by_cases hx : x < 0
  · exact .inl (nx_neg hx)
  · obtain ⟨i, rfl⟩ : ∃ i : Nat, x = i := ⟨x.toNat, by omega⟩
    rw [nx_at]
    rcases Nat.lt_or_ge i l.length with h1 | h1
    · exact h i h1
    · exact .inl (by rw [List.getD_eq_getElem?_getD, List.getElem?_eq_none h1]; rfl)

inductive Ends (l : List Int) : Int → Prop
  | none {x : Int} : x < 0 → Ends l x
  | step {x : Int} : Ends l (nx l x) → Ends l x
/-- reached in a step or more. -/
inductive Rch (l : List Int) : Int → Int → Prop
  | one {x : Int} : 0 ≤ x → Rch l x (nx l x)
  | step {x y : Int} : 0 ≤ x → Rch l (nx l x) y → Rch l x y
theorem Rch.pos {l : List Int} {x y : Int} (h : Rch l x y) : 0 ≤ x := by cases h <;> assumption
theorem Rch.last {l : List Int} {x y : Int} (h : Rch l x y) (hy : 0 ≤ y) : Rch l x (nx l y) := by
  induction h with
  | one hx => exact .step hx (.one hy)
  | step hx _ ih => exact .step hx (ih hy)
theorem Rch.trans {l : List Int} {x y z : Int} (h : Rch l x y) (k : Rch l y z) : Rch l x z := by
  induction h with
  | one hx => exact .step hx k
  | step hx _ ih => exact .step hx (ih k)
theorem Rch.ends {l : List Int} {x y : Int} (h : Rch l x y) (k : Ends l y) : Ends l x := by
  induction h with
  | one hx => exact .step k
  | step hx _ ih => exact .step (ih k)
theorem Ends.next {l : List Int} {x : Int} (h : Ends l x) : Ends l (nx l x) := by
  cases h with
  | none hx => rw [nx_neg hx]; exact .none (by omega)
  | step h => exact h
theorem Rch.inv {l : List Int} {x y : Int} (h : Rch l x y) : 0 ≤ x ∧ (y = nx l x ∨ Rch l (nx l x) y) := by
  cases h with
  | one hx => exact ⟨hx, .inl rfl⟩
  | step hx h => exact ⟨hx, .inr h⟩
theorem Ends.noring {l : List Int} {x : Int} (h : Ends l x) : ¬ Rch l x x := by
  induction h with
  | none hx => exact fun k => by have := k.pos; omega
  | @step x h ih =>
    intro k
    apply ih
    have hx := k.pos
    rcases k.inv.2 with e | k
    · rw [← e]; exact k
    · exact k.last hx
/-- from a ring's node all that is reached reaches it. -/
theorem Rch.back {l : List Int} {i y : Int} (hi : Rch l i i) (h : Rch l i y) : Rch l y i := by
  have key : ∀ x y, Rch l x y → Rch l x i → Rch l y i := by
    intro x y h
    induction h with
    | @one x hx =>
      intro k
      rcases k.inv.2 with e | k
      · rw [← e]; exact hi
      · exact k
    | @step x y hx h ih =>
      intro k
      refine ih ?_
      rcases k.inv.2 with e | k
      · rw [← e]; exact hi
      · exact k
  exact key i y h hi
/-- the least of its ring. -/
def RMin (l : List Int) (i : Int) : Prop := Rch l i i ∧ ∀ y, Rch l i y → i ≤ y
/-- l is l0, of which some rings' least ones are cut. -/
def Cut (l0 l : List Int) : Prop := l.length = l0.length ∧ ∀ x : Int, nx l x = nx l0 x ∨ (nx l x = -1 ∧ RMin l0 x)
theorem Cut.refl (l : List Int) : Cut l l := ⟨rfl, fun _ => .inl rfl⟩
theorem Cut.rch {l0 l : List Int} (h : Cut l0 l) {x y : Int} (k : Rch l x y) (hy : 0 ≤ y) : Rch l0 x y := by
  induction k with
  | @one x hx =>
    rcases h.2 x with e | ⟨e, _⟩
    · rw [e]; exact .one hx
    · omega
  | @step x y hx k ih =>
    have hk := k.pos
    rcases h.2 x with e | ⟨e, _⟩
    · rw [e] at ih; exact .step hx (ih hy)
    · omega
theorem Cut.inR {l0 l : List Int} (h : Cut l0 l) (h0 : InR l0) : InR l := fun x => by
  rcases h.2 x with e | ⟨e, _⟩
  · rw [e, h.1]; exact h0 x
  · exact .inl e
theorem Cut.rmin {l0 l : List Int} (h0 : InR l0) (h : Cut l0 l) {i : Int} (k : RMin l i) : RMin l0 i := by
  have hi := k.1.pos
  have hr := h.rch k.1 hi
  refine ⟨hr, fun y hy => ?_⟩
  -- all that l0 reaches from i, l reaches: by the last step
  have all : ∀ x y, Rch l0 x y → Rch l i x ∨ x = i → Rch l i y := by
    intro x y hxy
    induction hxy with
    | @one x hx =>
      intro hh
      have e : nx l x = nx l0 x := by
        rcases h.2 x with e | ⟨e, _⟩
        · exact e
        · have : Rch l i (nx l x) := by
            rcases hh with hh | rfl
            · exact hh.last hx
            · exact .one hx
          have := k.2 _ this
          omega
      rw [← e]
      rcases hh with hh | rfl
      · exact hh.last hx
      · exact .one hx
    | @step x y hx _ ih =>
      intro hh
      have hr1 : Rch l i (nx l x) := by
        rcases hh with hh | rfl
        · exact hh.last hx
        · exact .one hx
      have e : nx l x = nx l0 x := by
        rcases h.2 x with e | ⟨e, _⟩
        · exact e
        · have := k.2 _ hr1; omega
      exact ih (.inl (by rw [← e]; exact hr1))
  exact k.2 y (all i y hy (.inr rfl))
theorem Cut.cut {l0 l : List Int} (h0 : InR l0) (h : Cut l0 l) {i : Nat} (hi : i < l.length) (k : RMin l (i : Int)) : Cut l0 (l.set i (-1)) := by
  refine ⟨by rw [List.length_set]; exact h.1, fun x => ?_⟩
  rw [nx_set hi]
  by_cases e : x = i
  · subst e; rw [if_pos rfl]; exact .inr ⟨rfl, h.rmin h0 k⟩
  · rw [if_neg e]; exact h.2 x
/-- a ring's least one that isn't cut: its ring is whole. -/
theorem Cut.whole {l0 l : List Int} (h : Cut l0 l) {i : Int} (k : RMin l0 i) (hn : nx l i = nx l0 i) : RMin l i := by
  have hi := k.1.pos
  have same : ∀ y, Rch l0 i y → nx l y = nx l0 y := by
    intro y hy
    rcases h.2 y with e | ⟨e, hm⟩
    · exact e
    · have hyi := Rch.back k.1 hy
      have h1 := hm.2 i hyi
      have h2 := k.2 y hy
      have : y = i := by omega
      subst this; exact hn
  have up : ∀ x y, Rch l0 x y → (Rch l0 i x ∨ x = i) → Rch l x y := by
    intro x y hxy
    induction hxy with
    | @one x hx =>
      intro hh
      have e : nx l x = nx l0 x := by rcases hh with hh | rfl; exact same _ hh; exact hn
      rw [← e]; exact .one hx
    | @step x y hx _ ih =>
      intro hh
      have e : nx l x = nx l0 x := by rcases hh with hh | rfl; exact same _ hh; exact hn
      refine .step hx ?_
      rw [e]
      refine ih (.inl ?_)
      rcases hh with hh | rfl
      · exact hh.last hx
      · exact .one hx
  have dn : ∀ x y, Rch l x y → (Rch l0 i x ∨ x = i) → Rch l0 x y := by
    intro x y hxy
    induction hxy with
    | @one x hx =>
      intro hh
      have e : nx l x = nx l0 x := by rcases hh with hh | rfl; exact same _ hh; exact hn
      rw [e]; exact .one hx
    | @step x y hx _ ih =>
      intro hh
      have e : nx l x = nx l0 x := by rcases hh with hh | rfl; exact same _ hh; exact hn
      refine .step hx ?_
      rw [e] at ih
      refine ih (.inl ?_)
      rcases hh with hh | rfl
      · exact hh.last hx
      · exact .one hx
  exact ⟨up _ _ k.1 (.inr rfl), fun y hy => k.2 y (dn _ _ hy (.inr rfl))⟩
/-- all rings cut: in one way alone. -/
theorem Cut.unique {l0 l l' : List Int} (h : Cut l0 l) (h' : Cut l0 l') (he : ∀ x : Int, Ends l x) (he' : ∀ x : Int, Ends l' x) : l = l' := by
  have side : ∀ {a b : List Int}, Cut l0 a → Cut l0 b → (∀ x, Ends b x) → ∀ x, nx a x = -1 → nx b x = -1 ∨ nx a x = nx l0 x := by
    intro a b ha hb eb x hx
    rcases ha.2 x with e | ⟨e, hm⟩
    · exact .inr e
    · rcases hb.2 x with e' | ⟨e', _⟩
      · exact absurd (hb.whole hm e').1 (eb x).noring
      · exact .inl e'
  apply List.ext_getElem?
  intro i
  rcases Nat.lt_or_ge i l.length with hi | hi
  · have hi' : i < l'.length := by rw [h'.1, ← h.1]; exact hi
    have e : nx l (i : Int) = nx l' (i : Int) := by
      rcases h.2 i with e | ⟨e, hm⟩
      · rcases h'.2 i with e' | ⟨e', hm'⟩
        · rw [e, e']
        · exact absurd (h.whole hm' e).1 (he i).noring
      · rcases h'.2 i with e' | ⟨e', hm'⟩
        · exact absurd (h'.whole hm e').1 (he' i).noring
        · rw [e, e']
    rw [nx_at, nx_at, List.getD_eq_getElem?_getD, List.getD_eq_getElem?_getD, List.getElem?_eq_getElem hi, List.getElem?_eq_getElem hi'] at e
    rw [List.getElem?_eq_getElem hi, List.getElem?_eq_getElem hi']
    simpa using e
  · rw [List.getElem?_eq_none hi, List.getElem?_eq_none (by rw [h'.1, ← h.1]; exact hi)]

/-- reached from n without coming to k. -/
inductive Bef (l : List Int) (k : Int) : Int → Int → Prop
  | here {n : Int} : n ≠ k → Bef l k n n
  | step {n y : Int} : n ≠ k → Bef l k (nx l n) y → Bef l k n y
theorem Bef.next {l : List Int} {k n y : Int} (h : Bef l k n y) : nx l y = k ∨ Bef l k n (nx l y) := by
  induction h with
  | @here n hn =>
    by_cases e : nx l n = k
    · exact .inl e
    · exact .inr (.step hn (.here e))
  | @step n y hn _ ih =>
    rcases ih with e | e
    · exact .inl e
    · exact .inr (.step hn e)
theorem Bef.of_rch {l : List Int} {k y : Int} (h : Rch l k y) : y = k ∨ Bef l k (nx l k) y := by
  have key : ∀ x y, Rch l x y → (x = k ∨ Bef l k (nx l k) x) → (y = k ∨ Bef l k (nx l k) y) := by
    intro x y hxy
    have one : ∀ x, (x = k ∨ Bef l k (nx l k) x) → (nx l x = k ∨ Bef l k (nx l k) (nx l x)) := by
      rintro x (rfl | hh)
      · by_cases e : nx l x = x
        · exact .inl e
        · exact .inr (.here e)
      · exact hh.next
    induction hxy with
    | one hx => exact one _
    | step hx _ ih => exact fun hh => ih (one _ hh)
  exact key k y h (.inl rfl)
theorem Bef.cases' {l : List Int} {k n y : Int} (h : Bef l k n y) : n ≠ k ∧ (y = n ∨ Bef l k (nx l n) y) := by
  cases h with
  | here hn => exact ⟨hn, .inl rfl⟩
  | step hn h => exact ⟨hn, .inr h⟩

def it (l : List Int) : Nat → Int → Int
  | 0, x => x
  | m + 1, x => it l m (nx l x)
theorem hasMin {P : Nat → Prop} : (∃ m, P m) → ∃ m, P m ∧ ∀ j, j < m → ¬ P j := by
  rintro ⟨m, hm⟩
  induction m using Nat.strongRecOn with
  | ind m ih =>
    by_cases h : ∃ j, j < m ∧ P j
    · obtain ⟨j, h1, h2⟩ := h; exact ih j h1 h2
    · exact ⟨m, hm, fun j hj hp => h ⟨j, hj, hp⟩⟩
open Classical in
/-- how far k is. -/
noncomputable def dist (l : List Int) (k x : Int) : Nat := if h : ∃ m, it l m x = k then Classical.choose (hasMin h) else 0
open Classical in
theorem dist_lt {l : List Int} {k x : Int} (h : ∃ m, it l m x = k) (hx : x ≠ k) : (∃ m, it l m (nx l x) = k) ∧ dist l k (nx l x) < dist l k x := by
  obtain ⟨m, hm⟩ : ∃ m, Classical.choose (hasMin h) = m := ⟨_, rfl⟩
  have hs := (Classical.choose_spec (hasMin h)).1
  rw [hm] at hs
  match m, hm, hs with
  | 0, _, hs => exact absurd hs hx
  | m + 1, hm, hs =>
    have h2 : ∃ m, it l m (nx l x) = k := ⟨m, hs⟩
    refine ⟨h2, ?_⟩
    unfold dist
    rw [dif_pos h2, dif_pos h, hm]
    have hmin := (Classical.choose_spec (hasMin h2)).2
    rcases Nat.lt_or_ge m (Classical.choose (hasMin h2)) with hlt | hge
    · exact absurd hs (hmin m hlt)
    · omega
theorem Rch.it {l : List Int} {x y : Int} (h : Rch l x y) : ∃ m, it l m (nx l x) = y := by
  induction h with
  | one _ => exact ⟨0, rfl⟩
  | step _ _ ih => obtain ⟨m, hm⟩ := ih; exact ⟨m + 1, hm⟩
end Go.Proofs.Ytamcchdblglfoaa.Ft
set_option linter.unusedVariables false
set_option linter.unusedSimpArgs false
namespace Go.Proofs.Ytamcchdblglfoaa.Ft
open Go.RowKit Go.Proofs.Ytamcchdblglfoaa.B0 Go.Proofs.Ytamcchdblglfoaa.Pf Go.Proofs.YtamcchdblglfoaaW.PrintWords

/-- elements of k cells that lead nowhere. -/
def flat {α : Type} (enc : α → List Value) (k : Nat) (hk : ∀ x, (enc x).length = k) (h1 : ∀ x, ∀ u ∈ enc x, u.oneCell' = true) : Kd α where
  sz := k
  E := []
  K := fun _ x cs => cs = enc x
  M := fun _ _ _ x cs => cs = enc x
  K_len := fun h => by rw [h]; exact hk _
  K_one := fun h u hu => by rw [h] at hu; exact h1 _ u hu
  K_below := fun _ h => h
  K_of_M := fun h => h
  M_mono := fun _ h => h
  M_bound := fun h => h
  M_move := fun _ h => h
  M_lower := fun _ h => h
section
variable {α : Type} {enc : α → List Value} {k : Nat} {hk : ∀ x, (enc x).length = k} {h1 : ∀ x, ∀ u ∈ enc x, u.oneCell' = true}
theorem reps_flat {xs : List α} {inner : List Value} (hk : ∀ x, (enc x).length = k) : Reps (fun x cs => cs = enc x) k xs inner ↔ inner.length = xs.length * k ∧ ∀ (i : Nat) (x : α), xs[i]? = some x → ∀ j, j < k → inner[i * k + j]? = (enc x)[j]? := by
  constructor
  · rintro ⟨hl, h⟩
    refine ⟨hl, fun i x hx j hj => ?_⟩
    have := h i x hx
    rw [← this, List.getElem?_take, if_pos hj, List.getElem?_drop]
  · rintro ⟨hl, h⟩
    refine ⟨hl, fun i x hx => ?_⟩
    have hi := (List.getElem?_eq_some_iff.1 hx).1
    have hik : i * k + k ≤ xs.length * k := by have := Nat.mul_le_mul_right k (show i + 1 ≤ xs.length from hi); rw [Nat.add_mul, Nat.one_mul] at this; exact this
    apply List.ext_getElem?
    intro j
    rw [List.getElem?_take]
    by_cases hj : j < k
    · rw [if_pos hj, List.getElem?_drop]; exact h i x hx j hj
    · rw [if_neg hj, List.getElem?_eq_none (by rw [hk]; omega)]
theorem flat_get {e g n cap base : Nat} {W : World} {ok : Nat → Prop} {xs : List α} (h : (flat enc k hk h1).R e W base ok (.slice (some ⟨g, 0, none⟩) n cap) xs) : ∃ cur : Array Value, W.heap[g]? = some (.cells cur e (0, 0)) ∧ base ≤ g ∧ n = xs.length ∧ n ≤ cap ∧ ∀ (i : Nat) (x : α), xs[i]? = some x → ∀ j, j < k → cur[i * k + j]? = (enc x)[j]? := by
  obtain ⟨h0, inner, ho, hr0⟩ := h
  obtain ⟨hl, hr⟩ := (reps_flat hk).1 hr0
  clear hr0
  have ho : W.ownsRow base e k (.slice (some ⟨g, 0, none⟩) n cap) xs.length inner := ho
  rcases ho.2 with ⟨e1, _⟩ | ⟨g', cap', cur, e1, hb, hg, h2, h3, h4, h5⟩
  · cases e1
  · injection e1 with e1 e2 e3
    injection e1 with e1
    injection e1 with e1 _ _
    subst e1 e2 e3
    refine ⟨cur, hg, hb, rfl, h2, fun i x hx j hj => ?_⟩
    rw [← hr i x hx j hj, ← h5, List.getElem?_take]
    have hi := (List.getElem?_eq_some_iff.1 hx).1
    have hik : i * k + k ≤ xs.length * k := by have := Nat.mul_le_mul_right k (show i + 1 ≤ xs.length from hi); rw [Nat.add_mul, Nat.one_mul] at this; exact this
    rw [if_pos (by show i * k + j < xs.length * k; omega)]
    simp
theorem flat_cell {e g n cap base : Nat} {W : World} {ok : Nat → Prop} {xs : List α} (h : (flat enc k hk h1).R e W base ok (.slice (some ⟨g, 0, none⟩) n cap) xs) {i : Nat} {x : α} (hx : xs[i]? = some x) {j : Nat} {u : Value} (hu : (enc x)[j]? = some u) : W.cell? ⟨g, i * k + j, none⟩ = some u ∧ W.frozen? ⟨g, i * k + j, none⟩ = false := by
  obtain ⟨cur, hg, _, _, _, hc⟩ := flat_get h
  have hj : j < k := by have := (List.getElem?_eq_some_iff.1 hu).1; rw [hk] at this; exact this
  exact ⟨by rw [cellB hg, hc i x hx j hj, hu], frozenB hg _⟩
theorem flat_set {e g n cap base : Nat} {W : World} {ok : Nat → Prop} {xs : List α} (h : (flat enc k hk h1).R e W base ok (.slice (some ⟨g, 0, none⟩) n cap) xs) {i : Nat} {x : α} (hx : xs[i]? = some x) {j : Nat} (hj : j < k) (u : Value) (x' : α) (he : enc x' = (enc x).set j u) :
    (flat enc k hk h1).R e (W.setCell ⟨g, i * k + j, none⟩ u) base ok (.slice (some ⟨g, 0, none⟩) n cap) (xs.set i x') := by
  obtain ⟨h0, inner, ho, hr0⟩ := h
  obtain ⟨hl, hr⟩ := (reps_flat hk).1 hr0
  clear hr0
  have ho : W.ownsRow base e k (.slice (some ⟨g, 0, none⟩) n cap) xs.length inner := ho
  have hi := (List.getElem?_eq_some_iff.1 hx).1
  have hik : i * k + k ≤ xs.length * k := by have := Nat.mul_le_mul_right k (show i + 1 ≤ xs.length from hi); rw [Nat.add_mul, Nat.one_mul] at this; exact this
  refine ⟨h0, inner.set (i * k + j) u, ?_, (reps_flat hk).2 ⟨by rw [List.length_set, List.length_set]; exact hl, fun i2 y hy j2 hj2 => ?_⟩⟩
  · rw [List.length_set]
    show (W.setCell ⟨g, i * k + j, none⟩ u).ownsRow base e k (.slice (some ⟨g, 0, none⟩) n cap) xs.length _
    refine ⟨by rw [List.length_set]; exact ho.1, ?_⟩
    rcases ho.2 with ⟨e1, _⟩ | ⟨g', cap', cur, e1, hb, hg, h2, h3, h4, h5⟩
    · cases e1
    · injection e1 with e1 e2 e3
      injection e1 with e1
      injection e1 with e1 _ _
      subst e1 e2 e3
      refine .inr ⟨g, cap, cur.setIfInBounds (i * k + j) u, rfl, hb, setB hg _ _, h2, h3, by simpa using h4, ?_⟩
      rw [Array.toList_setIfInBounds, ← h5]
      apply List.ext_getElem?
      intro m
      simp only [List.getElem?_take, List.getElem?_set, List.length_take]
      by_cases hm : m < xs.length * k
      · rw [if_pos hm]
        by_cases he2 : i * k + j = m
        · subst he2
          rw [if_pos rfl, if_pos rfl]
          have : i * k + j < cur.toList.length := by rw [Array.length_toList, h4]; have := Nat.mul_le_mul_right k h2; omega
          rw [if_pos this, if_pos (by show i * k + j < min _ _; omega)]
        · rw [if_neg he2, if_neg he2]
          rw [if_pos hm]
      · rw [if_neg hm]
        by_cases he2 : i * k + j = m
        · subst he2; omega
        · rw [if_neg he2, if_neg hm]
  · have hlen : i * k + j < inner.length := by rw [hl]; omega
    rw [List.getElem?_set]
    by_cases hii : i = i2
    · subst hii
      rw [List.getElem?_set_self hi] at hy
      obtain rfl := Option.some.inj hy
      rw [he, List.getElem?_set]
      by_cases hjj : j = j2
      · subst hjj
        rw [if_pos rfl, if_pos hlen, if_pos rfl, if_pos (by rw [hk]; exact hj)]
      · rw [if_neg (by omega), if_neg hjj]; exact hr i x hx j2 hj2
    · rw [List.getElem?_set_ne hii] at hy
      have hne : ¬ (i * k + j = i2 * k + j2) := by
        intro e
        rcases Nat.lt_or_ge i i2 with h | h
        · have := Nat.mul_le_mul_right k (show i + 1 ≤ i2 from h); rw [Nat.add_mul, Nat.one_mul] at this; omega
        · have := Nat.mul_le_mul_right k (show i2 + 1 ≤ i by omega); rw [Nat.add_mul, Nat.one_mul] at this; omega
      rw [if_neg hne]; exact hr i2 y hy j2 hj2
end
/-- a node as it lies. -/
structure PN where
  p : PS
  par : Int
  dep : Int
  orp : Bool
def csN (x : PN) : List Value := csP x.p ++ [.int .i64 x.par, .int .i64 x.dep, .bool x.orp]
theorem csN_len (x : PN) : (csN x).length = 13 := rfl
theorem csN_one (x : PN) : ∀ u ∈ csN x, u.oneCell' = true := by
  intro u hu
  rcases List.mem_append.1 hu with h | h
  · exact csP_one _ u h
  · simp only [List.mem_cons, List.not_mem_nil, or_false] at h
    rcases h with rfl | rfl | rfl <;> rfl
def kN : Kd PN := flat csN 13 csN_len csN_one
def kP : Kd PS := flat csP 10 csP_len csP_one
theorem infoN : (Try.prog.info? 47).map (fun i => (i.zero, i.size, i.bytes)) = some (some (.agg #[.int .u64 0, .int .u64 0, .int .u64 0, .string ⟨#[]⟩, .string ⟨#[]⟩, .int .i64 0, .int .i64 0, .int .u64 0, .int .u64 0, .slice none 0 0, .int .i64 0, .int .i64 0, .bool false]), 13, 136) := by kernel_rfl
end Go.Proofs.Ytamcchdblglfoaa.Ft
set_option linter.unusedVariables false
set_option linter.unusedSimpArgs false
namespace Go.Proofs.Ytamcchdblglfoaa.B0
open Go.RowKit Go.MapKept

/-- How keys of a type are told in memory. -/
structure KeyB (P : Program) (kt : TypeId) {K : Type} (ek : K → Value) : Prop where
  inj : ∀ a b, ek a = ek b → a = b
  chk : ∀ e w k, (Instr.checkKey e 10000 kt (ek k)).run P w = .ok () w
  fnd : ∀ k (l : List MapEntry) w, (∀ x ∈ l, ∃ k', x.key = ek k') →
    ((Instr.findKey kt (ek k) l).run P w = .ok none w ∧ ∀ x ∈ l, x.key ≠ ek k) ∨ ∃ j e, (Instr.findKey kt (ek k) l).run P w = .ok (some (j, e.val)) w ∧ l[j]? = some e ∧ e.key = ek k
  stay : ∀ k w, (Instr.keyThatStays (ek k) (ek k)).run P w = .ok (ek k) w

theorem KeyB.of_isKey {P : Program} {kt : TypeId} {d : TypeDesc} {K : Type} {ek : K → Value} (hd : P.underlying kt = some d) (hk : ∀ k, IsKey d (ek k)) (inj : ∀ a b, ek a = ek b → a = b) : KeyB P kt ek where
  inj := inj
  chk := fun e w k => run_checkKey hd (hk k) e 9999
  fnd := fun k l w hl => by
    rcases findNow_spec (hk k) l 0 (fun x hx => by obtain ⟨k', h⟩ := hl x hx; rw [h]; exact hk k') with ⟨h1, h2⟩ | ⟨j, e, h1, h2, h3⟩
    · exact .inl ⟨run_findKey hd h1, h2⟩
    · exact .inr ⟨j, e, by simpa using run_findKey (w := w) hd h1, h2, h3⟩
  stay := fun k w => run_keyThatStays (hk k)

theorem KeyB.u64 {P : Program} {kt : TypeId} (hd : P.underlying kt = some (.int .u64)) : KeyB P kt (fun n : Int => Value.int .u64 n) :=
  .of_isKey hd (fun k => by simp [IsKey]) (fun a b h => by simpa using h)
theorem KeyB.str {P : Program} {kt : TypeId} (hd : P.underlying kt = some .string) : KeyB P kt (fun s : ByteArray => Value.string s) :=
  .of_isKey hd (fun k => by simp [IsKey]) (fun a b h => by simpa using h)

/-- Block b of w is a map of these entries, in the order in which they came. -/
def MapR {K : Type} (ek : K → Value) (w : World) (b : Nat) (M : List (K × Value)) : Prop :=
  ∃ es clock, w.heap[b]? = some (.map es clock) ∧ es.toList.map (fun e => (e.key, e.val)) = M.map (fun p => (ek p.1, p.2)) ∧ Stamped es clock

theorem MapR.lt {K : Type} {ek : K → Value} {w : World} {b : Nat} {M : List (K × Value)} (h : MapR ek w b M) : b < w.heap.size := by obtain ⟨_, _, h1, _⟩ := h; exact lt_of_get h1
theorem MapR.fr {K : Type} {ek : K → Value} {w w' : World} {b : Nat} {M : List (K × Value)} {F : List Nat} (h : MapR ek w b M) (hf : Fr F w w') (hb : b ∉ F) : MapR ek w' b M := by
  obtain ⟨es, c, h1, h2⟩ := h
  exact ⟨es, c, hf.get h1 hb, h2⟩
theorem MapR.made {K : Type} {ek : K → Value} (w : World) : MapR ek (w.alloc (.map #[] 0)) w.heap.size ([] : List (K × Value)) := ⟨#[], 0, allocN w _, by simp, stamped_empty 0⟩

theorem nodup_of_map {α β : Type} (f : α → β) {l : List α} (h : (l.map f).Nodup) : l.Nodup := by
  unfold List.Nodup at *
  rw [List.pairwise_map] at h
  exact h.imp (fun hab e => hab (by rw [e]))
theorem nodup_inj {α : Type} {l : List α} (h : l.Nodup) {i j : Nat} {x : α} (hi : l[i]? = some x) (hj : l[j]? = some x) : i = j := by
  obtain ⟨l1, e1⟩ := List.getElem?_eq_some_iff.1 hi
  obtain ⟨l2, e2⟩ := List.getElem?_eq_some_iff.1 hj
  rcases Nat.lt_trichotomy i j with hlt | heq | hgt
  · exact absurd (e1.trans e2.symm) (List.pairwise_iff_getElem.1 h i j l1 l2 hlt)
  · exact heq
  · exact absurd (e2.trans e1.symm) (List.pairwise_iff_getElem.1 h j i l2 l1 hgt)

theorem MapR.keys {K : Type} {ek : K → Value} {P : Program} {kt : TypeId} {w : World} {b : Nat} {M : List (K × Value)} (KB : KeyB P kt ek) (h : MapR ek w b M) : (M.map Prod.fst).Nodup := by
  obtain ⟨es, c, h1, h2, h3⟩ := h
  have hn : (es.toList.map (·.key)).Nodup := h3.2.2
  have e : es.toList.map (·.key) = (M.map Prod.fst).map ek := by
    have := congrArg (List.map Prod.fst) h2
    rw [List.map_map, List.map_map] at this
    rw [List.map_map]
    exact this
  rw [e] at hn
  exact nodup_of_map _ hn

theorem nodup_at {K : Type} {M : List (K × Value)} (hn : (M.map Prod.fst).Nodup) {i j : Nat} {p q : K × Value} (hi : M[i]? = some p) (hj : M[j]? = some q) (h : p.1 = q.1) : i = j :=
  nodup_inj hn (x := p.1) (by simp [hi]) (by simp [hj, h])

theorem find_M {K : Type} {ek : K → Value} {P : Program} {kt : TypeId} (KB : KeyB P kt ek) (k : K) {es : Array MapEntry} {M : List (K × Value)} (h2 : es.toList.map (fun e => (e.key, e.val)) = M.map (fun p => (ek p.1, p.2))) (w : World) :
    ((Instr.findKey kt (ek k) es.toList).run P w = .ok none w ∧ k ∉ M.map Prod.fst) ∨
    ∃ j e v, (Instr.findKey kt (ek k) es.toList).run P w = .ok (some (j, v)) w ∧ es[j]? = some e ∧ e.key = ek k ∧ e.val = v ∧ M[j]? = some (k, v) := by
  have hl : ∀ x ∈ es.toList, ∃ k', x.key = ek k' := by
    intro x hx
    have : (x.key, x.val) ∈ es.toList.map (fun e => (e.key, e.val)) := List.mem_map.2 ⟨x, hx, rfl⟩
    rw [h2] at this
    obtain ⟨p, _, hp⟩ := List.mem_map.1 this
    simp only [Prod.mk.injEq] at hp
    exact ⟨p.1, hp.1.symm⟩
  rcases KB.fnd k es.toList w hl with ⟨h1, h3⟩ | ⟨j, e, h1, h3, h4⟩
  · refine .inl ⟨h1, fun hh => ?_⟩
    obtain ⟨p, hp, rfl⟩ := List.mem_map.1 hh
    have : (ek p.1, p.2) ∈ M.map (fun p => (ek p.1, p.2)) := List.mem_map.2 ⟨p, hp, rfl⟩
    rw [← h2] at this
    obtain ⟨x, hx, he⟩ := List.mem_map.1 this
    simp only [Prod.mk.injEq] at he
    exact h3 x hx he.1
  · refine .inr ⟨j, e, e.val, h1, by simpa using h3, h4, rfl, ?_⟩
    have := congrArg (fun l => l[j]?) h2
    simp only [List.getElem?_map, h3, Option.map_some] at this
    cases hm : M[j]? with
    | none => simp [hm] at this
    | some p =>
      simp only [hm, Option.map_some, Option.some.injEq, Prod.mk.injEq] at this
      rw [h4] at this
      obtain ⟨t1, t2⟩ := this
      have := KB.inj _ _ t1
      subst this
      rw [t2]

section
variable {K : Type} [DecidableEq K] {ek : K → Value} {P : Program} {kt : TypeId} {w w' : World} {b : Nat} {M : List (K × Value)}

def putM (M : List (K × Value)) (k : K) (v : Value) : List (K × Value) := if k ∈ M.map Prod.fst then M.map (fun p => if p.1 = k then (k, v) else p) else M ++ [(k, v)]
def delM (M : List (K × Value)) (k : K) : List (K × Value) := M.filter (fun p => !decide (p.1 = k))

theorem lookup_at {V : Type} {M : List (K × V)} (hn : (M.map Prod.fst).Nodup) {i : Nat} {p : K × V} (hi : M[i]? = some p) : M.lookup p.1 = some p.2 := by
  induction M generalizing i with
  | nil => simp at hi
  | cons a M ih =>
    simp only [List.map_cons, List.nodup_cons] at hn
    cases i with
    | zero => simp at hi; subst hi; simp [List.lookup]
    | succ i =>
      simp at hi
      have hne : p.1 ≠ a.1 := fun hh => hn.1 (by rw [← hh]; exact List.mem_map.2 ⟨p, List.mem_of_getElem? hi, rfl⟩)
      have : (p.1 == a.1) = false := by simp [hne]
      simp only [List.lookup, this]
      exact ih hn.2 hi
theorem lookup_none {V : Type} {M : List (K × V)} {k : K} (h : k ∉ M.map Prod.fst) : M.lookup k = none := by
  induction M with
  | nil => rfl
  | cons a M ih =>
    simp only [List.map_cons, List.mem_cons, not_or] at h
    have : (k == a.1) = false := by simp [h.1]
    simp only [List.lookup, this]
    exact ih h.2

theorem MapR.lookup (KB : KeyB P kt ek) (h : MapR ek w b M) {t e : TypeId} (ht : P.underlying t = some (.map kt e)) {z : Value} (hz : (zeroValue e).run P w = .ok z w) (k : K) :
    (Instr.lookup t (.map (some b)) (ek k) false).run P w = .ok ((M.lookup k).getD z) w := by
  have hn := h.keys KB
  obtain ⟨es, c, h1, h2, h3⟩ := h
  rcases find_M KB k h2 w with ⟨f, hne⟩ | ⟨j, e, v, f, _, _, _, hm⟩
  · rw [lookup_none hne]
    simp [Instr.lookup, run_underlying ht, Go.MapKept.run_getObj_map h1, KB.chk, f, Result.andThen, hz]
  · rw [lookup_at hn hm]
    simp [Instr.lookup, run_underlying ht, Go.MapKept.run_getObj_map h1, KB.chk, f, Result.andThen]

theorem MapR.lookup_ok (KB : KeyB P kt ek) (h : MapR ek w b M) {t e : TypeId} (ht : P.underlying t = some (.map kt e)) {z : Value} (hz : (zeroValue e).run P w = .ok z w) (k : K) :
    (Instr.lookup t (.map (some b)) (ek k) true).run P w = .ok (.tuple #[(M.lookup k).getD z, .bool (M.lookup k).isSome]) w := by
  have hn := h.keys KB
  obtain ⟨es, c, h1, h2, h3⟩ := h
  rcases find_M KB k h2 w with ⟨f, hne⟩ | ⟨j, e, v, f, _, _, _, hm⟩
  · rw [lookup_none hne]
    simp [Instr.lookup, run_underlying ht, Go.MapKept.run_getObj_map h1, KB.chk, f, Result.andThen, hz]
  · rw [lookup_at hn hm]
    simp [Instr.lookup, run_underlying ht, Go.MapKept.run_getObj_map h1, KB.chk, f, Result.andThen]

/-- what a store and a delete leave: one block is another. -/
def setBlk (w : World) (b : Nat) (o : Obj) : World := { w with heap := w.heap.setIfInBounds b o }
theorem setBlk_same {w : World} {b : Nat} {o o' : Obj} (h : w.heap[b]? = some o) : (setBlk w b o').heap[b]? = some o' := (heap_set h).1
theorem setBlk_fr {w : World} {b : Nat} {o o' : Obj} (h : w.heap[b]? = some o) : Fr [b] w (setBlk w b o') :=
  ⟨rfl, rfl, rfl, by simp [setBlk], fun k _ hk => (heap_set h).2 k (by simpa using hk)⟩

theorem putM_in {M : List (K × Value)} {k : K} {v v0 : Value} {j : Nat} (hn : (M.map Prod.fst).Nodup) (hj : M[j]? = some (k, v0)) : putM M k v = M.set j (k, v) := by
  have hm : k ∈ M.map Prod.fst := List.mem_map.2 ⟨_, List.mem_of_getElem? hj, rfl⟩
  unfold putM
  rw [if_pos hm]
  apply List.ext_getElem?
  intro i
  rw [List.getElem?_map, List.getElem?_set]
  by_cases hij : j = i
  · subst hij
    obtain ⟨hlt, he⟩ := List.getElem?_eq_some_iff.1 hj
    simp [hlt, he]
  · rw [if_neg hij]
    cases hi : M[i]? with
    | none => rfl
    | some p =>
      have : p.1 ≠ k := fun hh => hij (nodup_at hn hj hi (by simp [hh]))
      simp [this]

theorem MapR.update (KB : KeyB P kt ek) (h : MapR ek w b M) {t e : TypeId} (ht : P.underlying t = some (.map kt e)) (k : K) (v : Value) :
    ∃ w', (Instr.mapUpdate t (.map (some b)) (ek k) v).run P w = .ok () w' ∧ MapR ek w' b (putM M k v) ∧ Fr [b] w w' := by
  have hn := h.keys KB
  obtain ⟨es, c, h1, h2, h3⟩ := h
  rcases find_M KB k h2 w with ⟨f, hne⟩ | ⟨j, e, v0, f, he, hek, hev, hm⟩
  · refine ⟨setBlk w b (.map (es.push { key := ek k, val := v, born := c }) (c + 1)), ?_, ⟨_, _, setBlk_same h1, ?_, ?_⟩, setBlk_fr h1⟩
    · simp [Instr.mapUpdate, run_underlying ht, Go.MapKept.run_getObj_map h1, KB.chk, f, Result.andThen, run_setObj_map _ h1, setBlk]
    · unfold putM
      rw [if_neg hne]
      simp [h2]
    · refine stamped_push h3 ?_
      intro x hx hh
      have : (x.key, x.val) ∈ es.toList.map (fun e => (e.key, e.val)) := List.mem_map.2 ⟨x, hx, rfl⟩
      rw [h2] at this
      obtain ⟨p, hp, hpe⟩ := List.mem_map.1 this
      simp only [Prod.mk.injEq] at hpe
      have hh' : ek p.1 = ek k := by rw [hpe.1]; exact hh
      exact hne (by rw [← KB.inj _ _ hh']; exact List.mem_map.2 ⟨p, hp, rfl⟩)
  · refine ⟨setBlk w b (.map (es.modify j fun e => { e with key := ek k, val := v }) c), ?_, ⟨_, _, setBlk_same h1, ?_, ?_⟩, setBlk_fr h1⟩
    · simp [Instr.mapUpdate, run_underlying ht, Go.MapKept.run_getObj_map h1, KB.chk, f, Result.andThen, run_setObj_map _ h1, setBlk, he, hek, KB.stay]
    · rw [putM_in hn hm]
      apply List.ext_getElem?
      intro i
      have h2i := congrArg (fun l => l[i]?) h2
      simp only [List.getElem?_map, Array.getElem?_toList] at h2i
      simp only [List.getElem?_map, Array.getElem?_toList, Array.getElem?_modify, List.getElem?_set]
      by_cases hij : j = i
      · subst hij
        have := (List.getElem?_eq_some_iff.1 hm).1
        simp [he, this]
      · simp only [if_neg hij]; exact h2i
    · exact stamped_modify h3 _ _ (fun _ _ => rfl) (fun e' _ he' => by rw [he] at he'; cases he'; exact hek.symm)

theorem MapR.delete (KB : KeyB P kt ek) (h : MapR ek w b M) {t e : TypeId} (ht : P.underlying t = some (.map kt e)) (u : TypeId) (k : K) :
    ∃ w', (∀ ty, (Builtin.delete_ #[t, u] ty #[.map (some b), ek k]).run P w = .ok (.tuple #[]) w') ∧ MapR ek w' b (delM M k) ∧ Fr [b] w w' := by
  have hn := h.keys KB
  obtain ⟨es, c, h1, h2, h3⟩ := h
  rcases find_M KB k h2 w with ⟨f, hne⟩ | ⟨j, e, v0, f, he, hek, hev, hm⟩
  · refine ⟨setBlk w b (.map es c), ?_, ⟨_, _, setBlk_same h1, ?_, h3⟩, setBlk_fr h1⟩
    · intro ty; simp [Builtin.delete_, run_underlying ht, Go.MapKept.run_getObj_map h1, KB.chk, f, Result.andThen, run_setObj_map _ h1, setBlk]
    · rw [h2]
      congr 1
      unfold delM
      rw [List.filter_eq_self.2]
      intro p hp
      have : p.1 ≠ k := fun hh => hne (by rw [← hh]; exact List.mem_map.2 ⟨p, hp, rfl⟩)
      simp [this]
  · refine ⟨setBlk w b (.map (es.eraseIdxIfInBounds j) c), ?_, ⟨_, _, setBlk_same h1, ?_, stamped_erase h3 j⟩, setBlk_fr h1⟩
    · intro ty; simp [Builtin.delete_, run_underlying ht, Go.MapKept.run_getObj_map h1, KB.chk, f, Result.andThen, run_setObj_map _ h1, setBlk]
    · have hjs : j < es.size := (Array.getElem?_eq_some_iff.1 he).1
      have e1 : (es.eraseIdxIfInBounds j).toList = es.toList.eraseIdx j := by
        unfold Array.eraseIdxIfInBounds; rw [dif_pos hjs]; simp
      have e2 : delM M k = M.eraseIdx j := by
        unfold delM
        have hjl := (List.getElem?_eq_some_iff.1 hm).1
        rw [List.eraseIdx_eq_take_drop_succ]
        conv => lhs; rw [← List.take_append_drop j M, List.drop_eq_getElem_cons hjl]
        rw [List.filter_append, List.filter_cons]
        have hjk : M[j] = (k, v0) := by have := (List.getElem?_eq_some_iff.1 hm).2; exact this
        rw [hjk]
        simp only [decide_true, Bool.not_true, Bool.false_eq_true, if_false]
        rw [List.filter_eq_self.2, List.filter_eq_self.2]
        · intro p hp
          obtain ⟨i, hi⟩ := List.mem_iff_getElem?.1 hp
          rw [List.getElem?_drop] at hi
          have : p.1 ≠ k := fun hh => by have := nodup_at hn hm hi (by simp [hh]); omega
          simp [this]
        · intro p hp
          obtain ⟨i, hi⟩ := List.mem_iff_getElem?.1 hp
          rw [List.getElem?_take] at hi
          split at hi
          · have : p.1 ≠ k := fun hh => by have := nodup_at hn hm hi (by simp [hh]); omega
            simp [this]
          · cases hi
      rw [e1, e2, List.eraseIdx_eq_take_drop_succ, List.eraseIdx_eq_take_drop_succ, List.map_append, List.map_append, List.map_take, List.map_drop, List.map_take, List.map_drop, h2]

end
theorem MapR.len {K : Type} {ek : K → Value} {P : Program} {w : World} {b : Nat} {M : List (K × Value)} (h : MapR ek w b M) {t ke e ty : TypeId} (ht : P.underlying t = some (.map ke e)) : (Builtin.len_ #[t] ty #[.map (some b)]).run P w = .ok (.int .i64 M.length) w := by
  obtain ⟨es, c, h1, h2, h3⟩ := h
  have : es.size = M.length := by have := congrArg List.length h2; simpa using this
  simp [Builtin.len_, run_underlying ht, Go.MapKept.run_getObj_map h1, Result.andThen, this, goInt]
end Go.Proofs.Ytamcchdblglfoaa.B0
set_option linter.unusedVariables false
set_option linter.unusedSimpArgs false
namespace Go.Proofs.Ytamcchdblglfoaa.Ft
open Go.RowKit Go.Proofs.Ytamcchdblglfoaa.B0 Go.Proofs.Ytamcchdblglfoaa.Pf Go.Proofs.YtamcchdblglfoaaW.PrintWords Go.Proofs.YtamcchdblglfoaaW.PrintLast

theorem at_P {w : World} {A : Option Addr} {ps : List PS} (h : RowP w A ps) {i : Nat} {p : PS} (hi : ps[i]? = some p) : ∃ ad, A = some ad ∧ w.cell? (ad.add (i * 10)) = some (.int .u64 p.s.f0) ∧ w.cell? ⟨(ad.add (i * 10)).block, (ad.add (i * 10)).off + 1, none⟩ = some (.int .u64 p.s.f1) ∧
    w.cell? ⟨(ad.add (i * 10)).block, (ad.add (i * 10)).off + 2, none⟩ = some (.int .u64 p.s.f2) ∧ w.cell? ⟨(ad.add (i * 10)).block, (ad.add (i * 10)).off + 3, none⟩ = some (.string p.s.f3) ∧ w.cell? ⟨(ad.add (i * 10)).block, (ad.add (i * 10)).off + 4, none⟩ = some (.string p.s.f4) ∧
    w.cell? ⟨(ad.add (i * 10)).block, (ad.add (i * 10)).off + 5, none⟩ = some (.int .i64 p.s.f5) ∧ w.cell? ⟨(ad.add (i * 10)).block, (ad.add (i * 10)).off + 6, none⟩ = some (.int .i64 p.s.f6) ∧ w.cell? ⟨(ad.add (i * 10)).block, (ad.add (i * 10)).off + 7, none⟩ = some (.int .u64 p.s.f7) ∧
    w.cell? ⟨(ad.add (i * 10)).block, (ad.add (i * 10)).off + 8, none⟩ = some (.int .u64 p.s.f8) ∧ w.cell? ⟨(ad.add (i * 10)).block, (ad.add (i * 10)).off + 9, none⟩ = some (.slice p.A p.s.f9.length p.c) := by
  obtain ⟨ad, e, hc⟩ := h i p hi
  refine ⟨ad, e, hc 0 _ rfl, ?_, ?_, ?_, ?_, ?_, ?_, ?_, ?_, ?_⟩
  · have := hc 1 _ rfl; rw [add_field ad _ _ (by omega)] at this; exact this
  · have := hc 2 _ rfl; rw [add_field ad _ _ (by omega)] at this; exact this
  · have := hc 3 _ rfl; rw [add_field ad _ _ (by omega)] at this; exact this
  · have := hc 4 _ rfl; rw [add_field ad _ _ (by omega)] at this; exact this
  · have := hc 5 _ rfl; rw [add_field ad _ _ (by omega)] at this; exact this
  · have := hc 6 _ rfl; rw [add_field ad _ _ (by omega)] at this; exact this
  · have := hc 7 _ rfl; rw [add_field ad _ _ (by omega)] at this; exact this
  · have := hc 8 _ rfl; rw [add_field ad _ _ (by omega)] at this; exact this
  · have := hc 9 _ rfl; rw [add_field ad _ _ (by omega)] at this; exact this

def idM : Nat → List Sp → List (Int × Value)
  | _, [] => []
  | k, x :: l => (x.f1, .int .i64 k) :: idM (k + 1) l
def fndF : Nat → List Sp → Int → Int
  | _, [], _ => -1
  | k, x :: l, id => if x.f1 = id then (k : Int) else fndF (k + 1) l id
theorem idM_keys : ∀ (k : Nat) (l : List Sp), (idM k l).map Prod.fst = l.map (fun x => x.f1)
  | _, [] => rfl
  | k, x :: l => by simp [idM, idM_keys]
theorem idM_snoc : ∀ (k : Nat) (l : List Sp) (x : Sp), idM k (l ++ [x]) = idM k l ++ [(x.f1, .int .i64 ((k + l.length : Nat) : Int))]
  | k, [], x => by simp [idM]
  | k, y :: l, x => by simp [idM, idM_snoc (k + 1) l x, Nat.add_comm, Nat.add_left_comm]
theorem fndF_range : ∀ (k : Nat) (l : List Sp) (id : Int), fndF k l id = -1 ∨ ((k : Int) ≤ fndF k l id ∧ fndF k l id < k + l.length)
  | k, [], id => .inl rfl
  | k, x :: l, id => by
    unfold fndF
    by_cases h : x.f1 = id
    · rw [if_pos h]; right; simp; omega
    · rw [if_neg h]
      rcases fndF_range (k + 1) l id with h1 | h1
      · exact .inl h1
      · right; simp only [List.length_cons]; omega
theorem idM_look : ∀ (k : Nat) (l : List Sp) (id : Int), (idM k l).lookup id = if fndF k l id = -1 then none else some (.int .i64 (fndF k l id))
  | k, [], id => by simp [idM, fndF]
  | k, x :: l, id => by
    unfold idM fndF
    by_cases h : x.f1 = id
    · subst h
      simp only [List.lookup, beq_self_eq_true, if_true]
      rw [if_neg (by omega)]
    · have : (id == x.f1) = false := by rw [beq_eq_false_iff_ne]; exact fun e => h e.symm
      simp only [List.lookup, this]
      rw [if_neg h, idM_look (k + 1) l id]
theorem idM_in {k : Nat} {l : List Sp} {id : Int} : ((idM k l).lookup id).isSome = true ↔ id ∈ l.map (fun x => x.f1) := by
  induction l generalizing k with
  | nil => simp [idM]
  | cons x l ih =>
    unfold idM
    by_cases h : id = x.f1
    · subst h; simp [List.lookup]
    · have : (id == x.f1) = false := by rw [beq_eq_false_iff_ne]; exact h
      simp only [List.lookup, this, ih, List.map_cons, List.mem_cons, h, false_or]
/-- one trace, each id once. -/
def okX (l : List Sp) : Prop := (l.map fun x => x.f1).Nodup ∧ ∀ x ∈ l, ∀ y ∈ l, x.f0 = y.f0
def par0 (l : List Sp) (x : Sp) : Int := if x.f2 ≠ 0 ∧ x.f2 ≠ x.f1 then fndF 0 l x.f2 else -1
def orp0 (l : List Sp) (x : Sp) : Bool := decide (x.f2 ≠ 0 ∧ x.f2 ≠ x.f1 ∧ fndF 0 l x.f2 = -1)
def nodeOf (l : List Sp) (p : PS) : PN := ⟨p, par0 l p.s, 0, orp0 l p.s⟩
theorem KBu : KeyB Try.prog 41 (fun n : Int => Value.int .u64 n) := .u64 Try.underlying41
def BegPost (w : World) (l : List Sp) (e : Ending) (w' : World) : Prop := ∃ X : List PS, Below w.heap.size w w' ∧ (X.map fun p => p.s).Perm l ∧ X.Pairwise (fun a b => cmpSp a.s b.s ≤ 0) ∧ (∀ p ∈ X, AttP w p) ∧
  ((okX (X.map fun p => p.s) ∧ ∃ v, e = .returned (.tuple #[v, .bool true]) ∧ kN.R 47 w' w.heap.size (fun _ => True) v (X.map (nodeOf (X.map fun p => p.s)))) ∨
   (¬ okX (X.map fun p => p.s) ∧ e = .returned (.tuple #[.slice none 0 0, .bool false])))
def T47_7 : Bool × List (List Nat × List Nat) := (true, [([], []), ([0], [0]), ([1], [1]), ([2, 1], [1, 2]), ([1], [1]), ([4, 1], [1, 4]), ([5, 1], [1, 5]), ([6, 1], [1, 6]), ([3, 7, 1], [1, 3, 7]), ([1, 8], [1, 8])])
def B47_7 : List Nat := [0, 1, 3, 7, 3, 19, 51, 115, 255, 511]
theorem tab47_7 : rtab .any (opsOf Try.f47 7) = T47_7 := by kernel_rfl
theorem bits47_7 : waitsOk T47_7.2 B47_7 = true := by kernel_rfl
set_option maxHeartbeats 4000000 in
set_option maxRecDepth 100000 in
theorem begin_c (w : World) (A : Option Addr) (c : Nat) (l : List Sp) (hC : Kd.C k44 w A l.length l) (hn : l.length ≤ 1000) :
    Calls Try.prog 47 #[.slice A l.length c] w (BegPost w l) := by
  have hmm := @run_makeMap Try.prog
  obtain ⟨ps, hps, hrow, hatt⟩ := ps_of_C hC
  obtain ⟨n, hnn⟩ : ∃ n, Hid (ps.length = n) := ⟨_, Lib.hid rfl⟩
  have hln : l.length = n := by rw [← hps, List.length_map]; exact hnn.out
  have HPS := Lib.hid hps
  rw [hln] at hn ⊢
  clear hC hps hln
  have HV : Hid (Calls Try.prog 75 #[.slice A n c] w fun e w' => e = .returned (.func (.func 93) #[] #[.pointer (some ⟨w.heap.size, 0, none⟩)]) ∧ w' = w.alloc (.cells #[.slice A n c] 26)) := callsIn_wide.1 (vals_in Fence.wide 1 trivial rfl A n c w)
  have HR := Lib.hid hrow; have HA := Lib.hid hatt; clear hrow hatt
  go_enter Try.func47, Try.ntmps47
  go_wp2_with fail
  refine HV.out.mono ?_
  rintro e w1 ⟨rfl, hw1⟩
  have H1 : Hid (Below w.heap.size w w1 ∧ w1.cell? ⟨w.heap.size, 0, none⟩ = some (.slice A n c)) := by
    rw [hw1]; exact ⟨(Below.refl _ _).alloc (Nat.le_refl _) _, by rw [cellB (allocN _ _)]; rfl⟩
  clear hw1
  have HS : Hid (Calls Try.prog 74 #[.func (.func 93) #[] #[.pointer (some ⟨w.heap.size, 0, none⟩)], .func (.func 23) #[] #[]] w1 fun e w' => ∃ (A' : Option Addr) (c' : Nat) (X : List PS),
      e = .returned (.slice A' n c') ∧ X.Perm ps ∧ X.Pairwise (fun a b => cmpSp a.s b.s ≤ 0) ∧ RowP w' A' X ∧ n ≤ c' ∧ Below w.heap.size w w') := by
    have h := SortedF_c (w0 := w) H1.out.1 w.heap.size A c ps (by rw [hnn.out]; exact H1.out.2) (HR.out.below H1.out.1) HA.out (by rw [hnn.out]; omega)
    rw [hnn.out] at h; exact Lib.hid h
  go_wp2_with fail
  refine HS.out.mono ?_
  rintro e w2 ⟨A2, c2, X, rfl, hp, hpw, hrow, hc2, hb2⟩
  have HX := Lib.hid (And.intro hp (And.intro hpw (And.intro hrow hb2)))
  have hXn : Hid (X.length = n) := by rw [hp.length_eq]; exact hnn
  have HAX : Hid (∀ p ∈ X, AttP w p) := fun p hh => HA.out p (hp.mem_iff.1 hh)
  have HPM : Hid ((X.map fun p => p.s).Perm l) := by rw [← HPS.out]; exact Lib.hid (hp.map _)
  clear hp hpw hrow hb2 hc2
  go_wp2_with fail
  obtain ⟨mb, hmb⟩ : ∃ mb, Hid (w2.heap.size = mb) := ⟨_, Lib.hid rfl⟩
  obtain ⟨w3, hw3⟩ : ∃ w3, Hid (w2.alloc (.map #[] 0) = w3) := ⟨_, Lib.hid rfl⟩
  rw [hw3.out, hmb.out]
  have H3 : Hid (MapR (fun n : Int => Value.int .u64 n) w3 mb (idM 0 []) ∧ Below w.heap.size w w3 ∧ Below w2.heap.size w2 w3) := by
    rw [← hw3.out, ← hmb.out]
    exact ⟨MapR.made w2, HX.out.2.2.2.alloc HX.out.2.2.2.size _, (Below.refl _ _).alloc (Nat.le_refl _) _⟩
  have HLT : Hid (w.heap.size ≤ mb) := by rw [← hmb.out]; exact Lib.hid HX.out.2.2.2.size
  clear hmm
  go_loopw [22] (fun iv wr => ∃ i : Nat, iv = .int .i64 i ∧ i ≤ n ∧ Hid (MapR (fun n : Int => Value.int .u64 n) wr mb (idM 0 ((X.take i).map fun p => p.s)) ∧ Below w.heap.size w wr ∧ Below w2.heap.size w2 wr ∧ ((X.take i).map fun p => p.s.f1).Nodup ∧ ∀ x ∈ X.take i, ∀ y ∈ X.take i, x.s.f0 = y.s.f0)) (fun iv _ => n - (intOf iv).toNat)
  case atStart => exact ⟨0, rfl, Nat.zero_le _, H3.out.1, H3.out.2.1, H3.out.2.2, by simp, by simp⟩
  case round =>
    obtain ⟨i, rfl, hi, HW⟩ := hrel
    by_cases hlt : i < n
    · have hki : (i : Int) < (n : Int) := by omega
      have h0n : (0 : Int) < (n : Int) := by omega
      obtain ⟨p, hp⟩ : ∃ p, X[i]? = some p := ⟨_, List.getElem?_eq_getElem (by rw [hXn.out]; exact hlt)⟩
      obtain ⟨p0, hp0⟩ : ∃ p0, X[0]? = some p0 := ⟨_, List.getElem?_eq_getElem (by rw [hXn.out]; omega)⟩
      obtain ⟨ad, rfl, d0, d1, d2, d3, d4, d5, d6, d7, d8, d9⟩ := at_P (HX.out.2.2.1.below HW.out.2.2.1) hp
      obtain ⟨qa, hqa⟩ : ∃ qa, Hid (ad.add (i * 10) = qa) := ⟨_, Lib.hid rfl⟩
      have hqo := hqa.out
      rw [hqa.out] at d0 d1 d2 d3 d4 d5 d6 d7 d8 d9
      obtain ⟨wa, hwa⟩ : ∃ wa, wr.alloc (.cells #[.int .u64 p.s.f0, .int .u64 p.s.f1, .int .u64 p.s.f2, .string p.s.f3, .string p.s.f4, .int .i64 p.s.f5, .int .i64 p.s.f6, .int .u64 p.s.f7, .int .u64 p.s.f8, .slice p.A p.s.f9.length p.c] 44) = wa := ⟨_, rfl⟩
      have hba : Below wr.heap.size wr wa := by rw [← hwa]; exact (Below.refl _ _).alloc (Nat.le_refl _) _
      have hMa : MapR (fun n : Int => Value.int .u64 n) wa mb (idM 0 ((X.take i).map fun p => p.s)) := HW.out.1.fr (Fr.of_below hba [] (Nat.le_refl _)) (by simp)
      have hlk0 := hMa.lookup_ok KBu Try.underlying147 (Try.zeroValue3 wa) p.s.f1
      obtain ⟨lv, hlv⟩ : ∃ lv, Hid (((idM 0 ((X.take i).map fun p => p.s)).lookup p.s.f1).getD (.int .i64 0) = lv) := ⟨_, Lib.hid rfl⟩
      obtain ⟨tw, htw⟩ : ∃ tw, Hid (((idM 0 ((X.take i).map fun p => p.s)).lookup p.s.f1).isSome = tw) := ⟨_, Lib.hid rfl⟩
      rw [hlv.out, htw.out] at hlk0
      have hlk : (Instr.lookup 147 (.map (some mb)) (.int .u64 p.s.f1) true).run Try.prog wa = .ok (.tuple #[lv, .bool tw]) wa := hlk0
      rw [← hwa] at hlk
      have HP := Lib.hid hp; have HP0 := Lib.hid hp0
      have HMA : Hid (MapR (fun n : Int => Value.int .u64 n) wa mb (idM 0 ((X.take i).map fun p => p.s)) ∧ Below wr.heap.size wr wa) := ⟨hMa, hba⟩
      have Hwa := Lib.hid hwa
      clear hlk0 hMa hba hp hp0 hwa
      cases tw with
      | true =>
        go_upto_region 7 with fail
        rw [Hwa.out]
        clear hlk d0 d1 d2 d3 d4 d5 d6 d7 d8 d9
        refine start_ (n := 10) (S := (fun w' => Below wa.heap.size wa w')) (ds := []) #[false, false, false, false, false, false, false, false, false, false] (by kernel_rfl) (by rfl) (by rfl) (pw_below_drewN (Below.refl _ _) 1) (fun hHeld => ?_); refine with_tabW tab47_7 bits47_7 (fun HT_ HW_ => ?_)
        refine pure_ (i := 0) (N := some 34) (v := ?_) (a' := ?_) #[true, false, false, false, false, false, false, false, false, false] rfl rfl (any_of HT_.out (by kernel_rfl)) (fun _ _ _ h => h) (Or.inl ⟨by rfl, ?_⟩) ?_ ?_
        rotate_left
        · intro w'
          go_simp
          with_reducible rfl
        rotate_left
        · simp only [Act.put, List.setIfInBounds_toArray, List.set_cons_zero, List.set_cons_succ]
          rfl
        refine pure_ (i := 1) (N := some 35) (v := ?_) (a' := ?_) #[true, true, false, false, false, false, false, false, false, false] rfl rfl (any_of HT_.out (by kernel_rfl)) (fun _ _ _ h => h) (Or.inl ⟨by rfl, ?_⟩) ?_ ?_
        rotate_left
        · intro w'
          go_simp
          with_reducible rfl
        rotate_left
        · simp only [Act.put, List.setIfInBounds_toArray, List.set_cons_zero, List.set_cons_succ]
          rfl
        refine pure_ (i := 2) (N := some 36) (v := undef) (a' := ?_) #[true, true, true, false, false, false, false, false, false, false] rfl rfl (any_of HT_.out (by kernel_rfl)) (fun _ _ _ h => h) (Or.inr ⟨by rfl, rfl⟩) ?_ ?_
        rotate_left
        · simp only [Act.put, List.setIfInBounds_toArray, List.set_cons_zero, List.set_cons_succ]
          rfl
        refine pure_ (i := 3) (N := some 37) (v := undef) (a' := ?_) #[true, true, true, true, false, false, false, false, false, false] rfl rfl (any_of HT_.out (by kernel_rfl)) (fun _ _ _ h => h) (Or.inr ⟨by rfl, rfl⟩) ?_ ?_
        rotate_left
        · simp only [Act.put, List.setIfInBounds_toArray, List.set_cons_zero, List.set_cons_succ]
          rfl
        refine pure_ (i := 4) (N := some 38) (v := undef) (a' := ?_) #[true, true, true, true, true, false, false, false, false, false] rfl rfl (any_of HT_.out (by kernel_rfl)) (fun _ _ _ h => h) (Or.inr ⟨by rfl, rfl⟩) ?_ ?_
        rotate_left
        · simp only [Act.put, List.setIfInBounds_toArray, List.set_cons_zero, List.set_cons_succ]
          rfl
        refine pure_ (i := 5) (N := some 39) (v := undef) (a' := ?_) #[true, true, true, true, true, true, false, false, false, false] rfl rfl (any_of HT_.out (by kernel_rfl)) (fun _ _ _ h => h) (Or.inr ⟨by rfl, rfl⟩) ?_ ?_
        rotate_left
        · simp only [Act.put, List.setIfInBounds_toArray, List.set_cons_zero, List.set_cons_succ]
          rfl
        refine pure_ (i := 6) (N := some 40) (v := undef) (a' := ?_) #[true, true, true, true, true, true, true, false, false, false] rfl rfl (any_of HT_.out (by kernel_rfl)) (fun _ _ _ h => h) (Or.inr ⟨by rfl, rfl⟩) ?_ ?_
        rotate_left
        · simp only [Act.put, List.setIfInBounds_toArray, List.set_cons_zero, List.set_cons_succ]
          rfl
        refine pure_ (i := 7) (N := some 41) (v := undef) (a' := ?_) #[true, true, true, true, true, true, true, true, false, false] rfl rfl (any_of HT_.out (by kernel_rfl)) (fun _ _ _ h => h) (Or.inr ⟨by rfl, rfl⟩) ?_ ?_
        rotate_left
        · simp only [Act.put, List.setIfInBounds_toArray, List.set_cons_zero, List.set_cons_succ]
          rfl
        refine pure_ (i := 8) (N := some 42) (v := undef) (a' := ?_) #[true, true, true, true, true, true, true, true, true, false] rfl rfl (any_of HT_.out (by kernel_rfl)) (fun _ _ _ h => h) (Or.inr ⟨by rfl, rfl⟩) ?_ ?_
        rotate_left
        · simp only [Act.put, List.setIfInBounds_toArray, List.set_cons_zero, List.set_cons_succ]
          rfl
        refine pure_ (i := 9) (N := some 43) (v := ?_) (a' := ?_) #[true, true, true, true, true, true, true, true, true, true] rfl rfl (any_of HT_.out (by kernel_rfl)) (fun _ _ _ h => h) (Or.inl ⟨by rfl, ?_⟩) ?_ ?_
        rotate_left
        · intro w'
          go_simp
          with_reducible rfl
        rotate_left
        · simp only [Act.put, List.setIfInBounds_toArray, List.set_cons_zero, List.set_cons_succ]
          rfl
        refine done_ (done_of HT_.out (by kernel_rfl)) ?_
        clear HT_ HW_ hHeld
        go_wp2_with fail
        go_ret2
        refine ⟨X, HW.out.2.1.trans ((HMA.out.2.trans ((pw_below_drewN (Below.refl _ _) 1).mono HMA.out.2.size)).mono HW.out.2.1.size), HPM.out, HX.out.2.1, HAX.out, .inr ⟨fun h => ?_, rfl⟩⟩
        have h1 := idM_in.1 htw.out
        have h2 := h.1
        rw [List.map_map] at h1 h2
        obtain ⟨j, hj⟩ := List.mem_iff_getElem?.1 h1
        have hj2 : j < i := by have := (List.getElem?_eq_some_iff.1 hj).1; simp at this; omega
        rw [List.getElem?_map, List.getElem?_take, if_pos hj2] at hj
        have h3 : (X.map ((fun x : Sp => x.f1) ∘ fun p => p.s))[j]? = some p.s.f1 := by rw [List.getElem?_map]; exact hj
        have h4 : (X.map ((fun x : Sp => x.f1) ∘ fun p => p.s))[i]? = some p.s.f1 := by rw [List.getElem?_map, HP.out]; rfl
        have := nodup_inj h2 h3 h4
        omega
      | false =>
        obtain ⟨ad', e', b0, _⟩ := at_P ((HX.out.2.2.1.below HW.out.2.2.1).below HMA.out.2) HP0.out
        obtain rfl := Option.some.inj e'
        rw [Nat.zero_mul] at b0
        rw [← Hwa.out] at b0
        rw [show ad.add 0 = ad from rfl] at b0
        go_wp2_with fail
        go_quiet (fail)
        rw [Hwa.out]
        obtain ⟨wq, hwq⟩ : ∃ wq, Hid (wa.drewN nq = wq) := ⟨_, Lib.hid rfl⟩
        rw [hwq.out]
        have HQ : Hid (Below wa.heap.size wa wq ∧ MapR (fun n : Int => Value.int .u64 n) wq mb (idM 0 ((X.take i).map fun p => p.s)) ∧ wq.cell? ⟨wr.heap.size, 1, none⟩ = some (.int .u64 p.s.f1)) := by
          have hb : Below wa.heap.size wa wq := by rw [← hwq.out]; exact pw_below_drewN (Below.refl _ _) _
          refine ⟨hb, HMA.out.1.fr (Fr.of_below hb [] (Nat.le_refl _)) (by simp), pw_cell_below hb ?_⟩
          rw [← Hwa.out, cellB (allocN _ _)]; rfl
        clear hlk d0 d1 d2 d3 d4 d5 d6 d7 d8 d9 b0
        have HTk : Hid (X.take (i + 1) = X.take i ++ [p]) := by rw [List.take_add_one, HP.out]; exact Lib.hid rfl
        have HXQ : Hid (Below w.heap.size w wq ∧ Below w2.heap.size w2 wq) := by
          have h1 := HMA.out.2.trans (HQ.out.1.mono HMA.out.2.size)
          exact ⟨HW.out.2.1.trans (h1.mono HW.out.2.1.size), HW.out.2.2.1.trans (h1.mono HW.out.2.2.1.size)⟩
        by_cases hf : p.s.f0 = p0.s.f0
        · have fne : (p.s.f0 != p0.s.f0) = false := by simp [hf]
          have HF := Lib.hid hf; clear hf
          obtain ⟨w5, hup, hm5, F5⟩ := HQ.out.2.1.update KBu Try.underlying147 p.s.f1 (.int .i64 (i : Int))
          have HM5 : Hid (MapR (fun n : Int => Value.int .u64 n) w5 mb (idM 0 ((X.take (i + 1)).map fun p => p.s))) := by
            have hnk : p.s.f1 ∉ (idM 0 ((X.take i).map fun p => p.s)).map Prod.fst := by
              rw [idM_keys]
              intro hh
              have := idM_in (k := 0).2 hh
              rw [htw.out] at this; cases this
            have hpm : putM (idM 0 ((X.take i).map fun p => p.s)) p.s.f1 (.int .i64 (i : Int)) = idM 0 ((X.take (i + 1)).map fun p => p.s) := by
              unfold putM
              rw [if_neg hnk, HTk.out, List.map_append, show [p].map (fun p : PS => p.s) = [p.s] from rfl, idM_snoc]
              congr 4
              rw [List.length_map, List.length_take, hXn.out]; omega
            rw [← hpm]; exact Lib.hid hm5
          have HF5 := Lib.hid F5
          have hup' : (Instr.mapUpdate 147 (.map (some mb)) (.int .u64 p.s.f1) (.int .i64 (i : Int))).run Try.prog wq = .ok () w5 := hup
          have cq := HQ.out.2.2
          clear hup hm5 F5
          go_wp2_with fail
          go_roundw
          case rel =>
            have hmb2 : w.heap.size ≤ mb := HLT.out
            refine ⟨i + 1, by go_num, by omega, HM5.out, HXQ.out.1.trans (HF5.out.belowB HXQ.out.1.size (fun k hk => by simp at hk; omega)), HXQ.out.2.trans (HF5.out.belowB HXQ.out.2.size (fun k hk => by simp at hk; rw [hmb.out]; omega)), ?_, ?_⟩
            · rw [HTk.out, List.map_append, List.nodup_append]
              refine ⟨HW.out.2.2.2.1, by simp, ?_⟩
              intro a ha b hb e
              subst e
              simp only [List.map_cons, List.map_nil, List.mem_singleton] at hb
              subst hb
              have h1 := idM_in (k := 0) (l := (X.take i).map fun p => p.s) (id := p.s.f1)
              rw [List.map_map] at h1
              have := h1.2 ha
              rw [htw.out] at this; cases this
            · have h00 : ∀ x ∈ X.take (i + 1), x.s.f0 = p0.s.f0 := by
                intro x hx
                rw [HTk.out] at hx
                rcases List.mem_append.1 hx with hx | hx
                · rcases Nat.eq_zero_or_pos i with h0 | h0
                  · subst h0; simp at hx
                  · refine HW.out.2.2.2.2 x hx p0 ?_
                    refine List.mem_of_getElem? (i := 0) ?_
                    rw [List.getElem?_take, if_pos h0]; exact HP0.out
                · obtain rfl : x = p := by simpa using hx
                  exact HF.out
              exact fun x hx y hy => (h00 x hx).trans (h00 y hy).symm
          case measure => simp [intOf]; omega
        · have fne : (p.s.f0 != p0.s.f0) = true := by simp [hf]
          have HF := Lib.hid hf; clear hf
          go_wp2_with fail
          go_ret2
          refine ⟨X, HXQ.out.1, HPM.out, HX.out.2.1, HAX.out, .inr ⟨fun h => ?_, rfl⟩⟩
          exact HF.out (h.2 _ (List.mem_map.2 ⟨p, List.mem_of_getElem? HP.out, rfl⟩) _ (List.mem_map.2 ⟨p0, List.mem_of_getElem? HP0.out, rfl⟩))
    · obtain rfl : i = n := by omega
      have HOK : Hid (okX (X.map fun p => p.s)) := by
        have h1 := HW.out.2.2.2
        rw [List.take_of_length_le (by rw [hXn.out]; exact Nat.le_refl _)] at h1
        refine ⟨by rw [List.map_map]; exact h1.1, fun x hx y hy => ?_⟩
        obtain ⟨a, ha, rfl⟩ := List.mem_map.1 hx
        obtain ⟨b, hb, rfl⟩ := List.mem_map.1 hy
        exact h1.2 a ha b hb
      have HWW : Hid (MapR (fun n : Int => Value.int .u64 n) wr mb (idM 0 (X.map fun p => p.s)) ∧ Below w.heap.size w wr ∧ Below w2.heap.size w2 wr) := by
        have h1 := HW.out.1
        rw [List.take_of_length_le (by rw [hXn.out]; exact Nat.le_refl _)] at h1
        exact ⟨h1, HW.out.2.1, HW.out.2.2.1⟩
      clear HW
      go_wp2_with fail
      obtain ⟨L, hL⟩ : ∃ L, Hid ((X.map fun p => p.s) = L) := ⟨_, Lib.hid rfl⟩
      obtain ⟨wo, hwo⟩ : ∃ wo, wo = wr := ⟨_, rfl⟩
      subst hwo
      go_loopw [51, 10] (fun iv ov wx => ∃ (j : Nat) (v : Value), iv = .int .i64 j ∧ ov = v ∧ j ≤ i ∧ Hid (kN.R 47 wx wo.heap.size (fun _ => True) v ((X.take j).map (nodeOf L)) ∧ Below wo.heap.size wo wx)) (fun iv _ _ => i - (intOf iv).toNat)
      case atStart => exact ⟨0, _, rfl, rfl, Nat.zero_le _, Kd.R_nil _ _ _ _ _, Below.refl _ _⟩
      case round =>
        obtain ⟨j, v, rfl, rfl, hj, HY⟩ := hrel
        by_cases hlt : j < i
        · have hki : (j : Int) < (i : Int) := by omega
          obtain ⟨p, hp⟩ : ∃ p, X[j]? = some p := ⟨_, List.getElem?_eq_getElem (by rw [hXn.out]; exact hlt)⟩
          obtain ⟨ad, rfl, d0, d1, d2, d3, d4, d5, d6, d7, d8, d9⟩ := at_P ((HX.out.2.2.1.below HWW.out.2.2).below HY.out.2) hp
          obtain ⟨qa, hqa⟩ : ∃ qa, Hid (ad.add (j * 10) = qa) := ⟨_, Lib.hid rfl⟩
          have hqo := hqa.out
          rw [hqa.out] at d0 d1 d2 d3 d4 d5 d6 d7 d8 d9
          have HTk : Hid (X.take (j + 1) = X.take j ++ [p]) := by rw [List.take_add_one, hp]; exact Lib.hid rfl
          obtain ⟨wb, hwb⟩ : ∃ wb, (wr.alloc (.cells #[.int .u64 p.s.f0, .int .u64 p.s.f1, .int .u64 p.s.f2, .string p.s.f3, .string p.s.f4, .int .i64 p.s.f5, .int .i64 p.s.f6, .int .u64 p.s.f7, .int .u64 p.s.f8, .slice p.A p.s.f9.length p.c] 44)).alloc (.cells #[.int .u64 p.s.f0, .int .u64 p.s.f1, .int .u64 p.s.f2, .string p.s.f3, .string p.s.f4, .int .i64 p.s.f5, .int .i64 p.s.f6, .int .u64 p.s.f7, .int .u64 p.s.f8, .slice p.A p.s.f9.length p.c, .int .i64 (-1), .int .i64 0, .bool false] 47) = wb := ⟨_, rfl⟩
          have hbb : Below wr.heap.size wr wb := by rw [← hwb]; exact ((Below.refl _ _).alloc (Nat.le_refl _) _).alloc (by simp) _
          have HWB : Hid (Below wr.heap.size wr wb ∧ wb.heap[wr.heap.size + 1]? = some (.cells #[.int .u64 p.s.f0, .int .u64 p.s.f1, .int .u64 p.s.f2, .string p.s.f3, .string p.s.f4, .int .i64 p.s.f5, .int .i64 p.s.f6, .int .u64 p.s.f7, .int .u64 p.s.f8, .slice p.A p.s.f9.length p.c, .int .i64 (-1), .int .i64 0, .bool false] 47 (0, 0)) ∧ wb.heap[wr.heap.size]? = some (.cells #[.int .u64 p.s.f0, .int .u64 p.s.f1, .int .u64 p.s.f2, .string p.s.f3, .string p.s.f4, .int .i64 p.s.f5, .int .i64 p.s.f6, .int .u64 p.s.f7, .int .u64 p.s.f8, .slice p.A p.s.f9.length p.c] 44 (0, 0))) := by
            refine ⟨hbb, ?_, ?_⟩
            · rw [← hwb]
              have := allocN (wr.alloc (.cells #[.int .u64 p.s.f0, .int .u64 p.s.f1, .int .u64 p.s.f2, .string p.s.f3, .string p.s.f4, .int .i64 p.s.f5, .int .i64 p.s.f6, .int .u64 p.s.f7, .int .u64 p.s.f8, .slice p.A p.s.f9.length p.c] 44)) (.cells #[.int .u64 p.s.f0, .int .u64 p.s.f1, .int .u64 p.s.f2, .string p.s.f3, .string p.s.f4, .int .i64 p.s.f5, .int .i64 p.s.f6, .int .u64 p.s.f7, .int .u64 p.s.f8, .slice p.A p.s.f9.length p.c, .int .i64 (-1), .int .i64 0, .bool false] 47)
              rw [size_alloc] at this; exact this
            · rw [← hwb]; exact (allocO _ _ (by simp)).trans (allocN _ _)
          have Hwb := Lib.hid hwb
          have HMb : Hid (MapR (fun n : Int => Value.int .u64 n) wb mb (idM 0 L)) := by
            have h := HWW.out.1
            rw [hL.out] at h
            exact Lib.hid (h.fr ((Fr.of_below HY.out.2 [] (Nat.le_refl _)).trans (Fr.of_below hbb [] (Nat.le_refl _))) (by simp))
          clear hwb hbb hp
          go_upto_region 16 with fail
          rw [Hwb.out]
          have e1 : wb.cell? ⟨wr.heap.size, 1, none⟩ = some (.int .u64 p.s.f1) := by rw [cellB HWB.out.2.2]; rfl
          have e2 : wb.cell? ⟨wr.heap.size, 2, none⟩ = some (.int .u64 p.s.f2) := by rw [cellB HWB.out.2.2]; rfl
          clear d0 d1 d2 d3 d4 d5 d6 d7 d8 d9
          by_cases hz : p.s.f2 = 0
          · have f0 : (p.s.f2 != 0) = false := by simp [hz]
            have HN : Hid (nodeOf L p = ⟨p, -1, 0, false⟩) := by
              show _ = _
              unfold nodeOf par0 orp0
              simp [hz]
            clear hz
            go_upto_region 21 with fail
            obtain ⟨wz, hwz⟩ : ∃ wz, Hid (wb = wz) := ⟨_, Lib.hid rfl⟩
            rw [hwz.out]
            have HZ : Hid (Below wr.heap.size wr wz ∧ wz.heap[wr.heap.size + 1]? = some (.cells #[.int .u64 p.s.f0, .int .u64 p.s.f1, .int .u64 p.s.f2, .string p.s.f3, .string p.s.f4, .int .i64 p.s.f5, .int .i64 p.s.f6, .int .u64 p.s.f7, .int .u64 p.s.f8, .slice p.A p.s.f9.length p.c, .int .i64 (-1), .int .i64 0, .bool false] 47 (0, 0))) := by rw [← hwz.out]; exact ⟨HWB.out.1, HWB.out.2.1⟩
            have n0 : wz.cell? ⟨wr.heap.size + 1, 0, none⟩ = some (.int .u64 p.s.f0) := by rw [cellB HZ.out.2]; rfl
            have n1 : wz.cell? ⟨wr.heap.size + 1, 1, none⟩ = some (.int .u64 p.s.f1) := by rw [cellB HZ.out.2]; rfl
            have n2 : wz.cell? ⟨wr.heap.size + 1, 2, none⟩ = some (.int .u64 p.s.f2) := by rw [cellB HZ.out.2]; rfl
            have n3 : wz.cell? ⟨wr.heap.size + 1, 3, none⟩ = some (.string p.s.f3) := by rw [cellB HZ.out.2]; rfl
            have n4 : wz.cell? ⟨wr.heap.size + 1, 4, none⟩ = some (.string p.s.f4) := by rw [cellB HZ.out.2]; rfl
            have n5 : wz.cell? ⟨wr.heap.size + 1, 5, none⟩ = some (.int .i64 p.s.f5) := by rw [cellB HZ.out.2]; rfl
            have n6 : wz.cell? ⟨wr.heap.size + 1, 6, none⟩ = some (.int .i64 p.s.f6) := by rw [cellB HZ.out.2]; rfl
            have n7 : wz.cell? ⟨wr.heap.size + 1, 7, none⟩ = some (.int .u64 p.s.f7) := by rw [cellB HZ.out.2]; rfl
            have n8 : wz.cell? ⟨wr.heap.size + 1, 8, none⟩ = some (.int .u64 p.s.f8) := by rw [cellB HZ.out.2]; rfl
            have n9 : wz.cell? ⟨wr.heap.size + 1, 9, none⟩ = some (.slice p.A p.s.f9.length p.c) := by rw [cellB HZ.out.2]; rfl
            have n10 : wz.cell? ⟨wr.heap.size + 1, 10, none⟩ = some (.int .i64 (-1)) := by rw [cellB HZ.out.2]; rfl
            have n11 : wz.cell? ⟨wr.heap.size + 1, 11, none⟩ = some (.int .i64 0) := by rw [cellB HZ.out.2]; rfl
            have n12 : wz.cell? ⟨wr.heap.size + 1, 12, none⟩ = some (.bool false) := by rw [cellB HZ.out.2]; rfl
            have hrz : kN.R 47 wz wo.heap.size (fun _ => True) u10 ((X.take j).map (nodeOf L)) := Kd.R_below HY.out.1 HZ.out.1
            have hbz : Below wo.heap.size wo wz := HY.out.2.trans (HZ.out.1.mono HY.out.2.size)
            obtain ⟨ml, hml⟩ : ∃ ml, Hid ((X.take j).map (nodeOf L) = ml ∧ ml.length ≤ 1000) := ⟨_, rfl, by rw [List.length_map, List.length_take]; omega⟩
            rw [hml.out.1] at hrz
            have HRZ := Lib.hid (And.intro hrz hbz); clear hrz hbz
            clear e1 e2
            go_wp2_with (at_builtin; go_loud (refine Kd.R_append kN (w0 := wo) (W := wz) wo.heap.size rfl _ _ 25 47 (.agg #[.int .u64 0, .int .u64 0, .int .u64 0, .string ⟨#[]⟩, .string ⟨#[]⟩, .int .i64 0, .int .i64 0, .int .u64 0, .int .u64 0, .slice none 0 0, .int .i64 0, .int .i64 0, .bool false]) 136 rfl Try.underlying25 infoN rfl (by decide) (by decide) u10 ml (⟨p, (-1), 0, false⟩ : PN) (csN ⟨p, (-1), 0, false⟩) (fun _ => True) (fun _ => False) rfl rfl rfl (fun _ h => h.elim) (fun _ _ => trivial) HRZ.out.1 HRZ.out.2 HRZ.out.2.size (by have := hml.out.2; omega) ?_))
            intro v9 w9 ho9 hb9 hg9 hat9
            have H9 : Hid (kN.R 47 w9 wo.heap.size (fun _ => True) v9 ((X.take (j + 1)).map (nodeOf L)) ∧ Below wo.heap.size wo w9) := by
              rw [HTk.out, List.map_append, List.map_cons, List.map_nil, hml.out.1, show nodeOf L p = ⟨p, (-1), 0, false⟩ from HN.out]
              exact ⟨ho9, hb9⟩
            clear ho9 hb9 hg9 hat9
            go_wp2_with fail
            go_roundw
            case rel => exact ⟨j + 1, v9, by go_num, rfl, by omega, H9.out⟩
            case measure => simp [intOf]; omega
          have f0 : (p.s.f2 != 0) = true := by simpa using hz
          by_cases hz1 : p.s.f2 = p.s.f1
          · have f1 : (p.s.f2 != p.s.f1) = false := by simp [hz1]
            have HN : Hid (nodeOf L p = ⟨p, -1, 0, false⟩) := by
              show _ = _
              unfold nodeOf par0 orp0
              simp [hz1]
            clear hz hz1
            go_upto_region 21 with fail
            obtain ⟨wz, hwz⟩ : ∃ wz, Hid (wb = wz) := ⟨_, Lib.hid rfl⟩
            rw [hwz.out]
            have HZ : Hid (Below wr.heap.size wr wz ∧ wz.heap[wr.heap.size + 1]? = some (.cells #[.int .u64 p.s.f0, .int .u64 p.s.f1, .int .u64 p.s.f2, .string p.s.f3, .string p.s.f4, .int .i64 p.s.f5, .int .i64 p.s.f6, .int .u64 p.s.f7, .int .u64 p.s.f8, .slice p.A p.s.f9.length p.c, .int .i64 (-1), .int .i64 0, .bool false] 47 (0, 0))) := by rw [← hwz.out]; exact ⟨HWB.out.1, HWB.out.2.1⟩
            have n0 : wz.cell? ⟨wr.heap.size + 1, 0, none⟩ = some (.int .u64 p.s.f0) := by rw [cellB HZ.out.2]; rfl
            have n1 : wz.cell? ⟨wr.heap.size + 1, 1, none⟩ = some (.int .u64 p.s.f1) := by rw [cellB HZ.out.2]; rfl
            have n2 : wz.cell? ⟨wr.heap.size + 1, 2, none⟩ = some (.int .u64 p.s.f2) := by rw [cellB HZ.out.2]; rfl
            have n3 : wz.cell? ⟨wr.heap.size + 1, 3, none⟩ = some (.string p.s.f3) := by rw [cellB HZ.out.2]; rfl
            have n4 : wz.cell? ⟨wr.heap.size + 1, 4, none⟩ = some (.string p.s.f4) := by rw [cellB HZ.out.2]; rfl
            have n5 : wz.cell? ⟨wr.heap.size + 1, 5, none⟩ = some (.int .i64 p.s.f5) := by rw [cellB HZ.out.2]; rfl
            have n6 : wz.cell? ⟨wr.heap.size + 1, 6, none⟩ = some (.int .i64 p.s.f6) := by rw [cellB HZ.out.2]; rfl
            have n7 : wz.cell? ⟨wr.heap.size + 1, 7, none⟩ = some (.int .u64 p.s.f7) := by rw [cellB HZ.out.2]; rfl
            have n8 : wz.cell? ⟨wr.heap.size + 1, 8, none⟩ = some (.int .u64 p.s.f8) := by rw [cellB HZ.out.2]; rfl
            have n9 : wz.cell? ⟨wr.heap.size + 1, 9, none⟩ = some (.slice p.A p.s.f9.length p.c) := by rw [cellB HZ.out.2]; rfl
            have n10 : wz.cell? ⟨wr.heap.size + 1, 10, none⟩ = some (.int .i64 (-1)) := by rw [cellB HZ.out.2]; rfl
            have n11 : wz.cell? ⟨wr.heap.size + 1, 11, none⟩ = some (.int .i64 0) := by rw [cellB HZ.out.2]; rfl
            have n12 : wz.cell? ⟨wr.heap.size + 1, 12, none⟩ = some (.bool false) := by rw [cellB HZ.out.2]; rfl
            have hrz : kN.R 47 wz wo.heap.size (fun _ => True) u10 ((X.take j).map (nodeOf L)) := Kd.R_below HY.out.1 HZ.out.1
            have hbz : Below wo.heap.size wo wz := HY.out.2.trans (HZ.out.1.mono HY.out.2.size)
            obtain ⟨ml, hml⟩ : ∃ ml, Hid ((X.take j).map (nodeOf L) = ml ∧ ml.length ≤ 1000) := ⟨_, rfl, by rw [List.length_map, List.length_take]; omega⟩
            rw [hml.out.1] at hrz
            have HRZ := Lib.hid (And.intro hrz hbz); clear hrz hbz
            clear e1 e2
            go_wp2_with (at_builtin; go_loud (refine Kd.R_append kN (w0 := wo) (W := wz) wo.heap.size rfl _ _ 25 47 (.agg #[.int .u64 0, .int .u64 0, .int .u64 0, .string ⟨#[]⟩, .string ⟨#[]⟩, .int .i64 0, .int .i64 0, .int .u64 0, .int .u64 0, .slice none 0 0, .int .i64 0, .int .i64 0, .bool false]) 136 rfl Try.underlying25 infoN rfl (by decide) (by decide) u10 ml (⟨p, (-1), 0, false⟩ : PN) (csN ⟨p, (-1), 0, false⟩) (fun _ => True) (fun _ => False) rfl rfl rfl (fun _ h => h.elim) (fun _ _ => trivial) HRZ.out.1 HRZ.out.2 HRZ.out.2.size (by have := hml.out.2; omega) ?_))
            intro v9 w9 ho9 hb9 hg9 hat9
            have H9 : Hid (kN.R 47 w9 wo.heap.size (fun _ => True) v9 ((X.take (j + 1)).map (nodeOf L)) ∧ Below wo.heap.size wo w9) := by
              rw [HTk.out, List.map_append, List.map_cons, List.map_nil, hml.out.1, show nodeOf L p = ⟨p, (-1), 0, false⟩ from HN.out]
              exact ⟨ho9, hb9⟩
            clear ho9 hb9 hg9 hat9
            go_wp2_with fail
            go_roundw
            case rel => exact ⟨j + 1, v9, by go_num, rfl, by omega, H9.out⟩
            case measure => simp [intOf]; omega
          have f1 : (p.s.f2 != p.s.f1) = true := by simpa using hz1
          have hlk0 := HMb.out.lookup_ok KBu Try.underlying147 (Try.zeroValue3 wb) p.s.f2
          rw [idM_look] at hlk0
          by_cases hf : fndF 0 L p.s.f2 = -1
          · have HN : Hid (nodeOf L p = ⟨p, -1, 0, true⟩) := by
              show _ = _
              unfold nodeOf par0 orp0
              simp [hz, hz1, hf]
            rw [if_pos hf] at hlk0
            have hlk : (Instr.lookup 147 (.map (some mb)) (.int .u64 p.s.f2) true).run Try.prog wb = .ok (.tuple #[.int .i64 0, .bool false]) wb := hlk0
            clear hlk0 hz hz1 hf
            have s1 : wb.cell? ⟨wr.heap.size + 1, 12, none⟩ = some (.bool false) := by rw [cellB HWB.out.2.1]; rfl
            have s2 : wb.frozen? ⟨wr.heap.size + 1, 12, none⟩ = false := frozenB HWB.out.2.1 12
            go_upto_region 21 with fail
            obtain ⟨wz, hwz⟩ : ∃ wz, Hid (wb.setCell ⟨wr.heap.size + 1, 12, none⟩ (.bool true) = wz) := ⟨_, Lib.hid rfl⟩
            rw [hwz.out]
            have HZ : Hid (Below wr.heap.size wr wz ∧ wz.heap[wr.heap.size + 1]? = some (.cells #[.int .u64 p.s.f0, .int .u64 p.s.f1, .int .u64 p.s.f2, .string p.s.f3, .string p.s.f4, .int .i64 p.s.f5, .int .i64 p.s.f6, .int .u64 p.s.f7, .int .u64 p.s.f8, .slice p.A p.s.f9.length p.c, .int .i64 (-1), .int .i64 0, .bool true] 47 (0, 0))) := by rw [← hwz.out]; exact ⟨HWB.out.1.setCell (p := ⟨wr.heap.size + 1, 12, none⟩) (Nat.le_succ _) _, setB HWB.out.2.1 12 _⟩
            have n0 : wz.cell? ⟨wr.heap.size + 1, 0, none⟩ = some (.int .u64 p.s.f0) := by rw [cellB HZ.out.2]; rfl
            have n1 : wz.cell? ⟨wr.heap.size + 1, 1, none⟩ = some (.int .u64 p.s.f1) := by rw [cellB HZ.out.2]; rfl
            have n2 : wz.cell? ⟨wr.heap.size + 1, 2, none⟩ = some (.int .u64 p.s.f2) := by rw [cellB HZ.out.2]; rfl
            have n3 : wz.cell? ⟨wr.heap.size + 1, 3, none⟩ = some (.string p.s.f3) := by rw [cellB HZ.out.2]; rfl
            have n4 : wz.cell? ⟨wr.heap.size + 1, 4, none⟩ = some (.string p.s.f4) := by rw [cellB HZ.out.2]; rfl
            have n5 : wz.cell? ⟨wr.heap.size + 1, 5, none⟩ = some (.int .i64 p.s.f5) := by rw [cellB HZ.out.2]; rfl
            have n6 : wz.cell? ⟨wr.heap.size + 1, 6, none⟩ = some (.int .i64 p.s.f6) := by rw [cellB HZ.out.2]; rfl
            have n7 : wz.cell? ⟨wr.heap.size + 1, 7, none⟩ = some (.int .u64 p.s.f7) := by rw [cellB HZ.out.2]; rfl
            have n8 : wz.cell? ⟨wr.heap.size + 1, 8, none⟩ = some (.int .u64 p.s.f8) := by rw [cellB HZ.out.2]; rfl
            have n9 : wz.cell? ⟨wr.heap.size + 1, 9, none⟩ = some (.slice p.A p.s.f9.length p.c) := by rw [cellB HZ.out.2]; rfl
            have n10 : wz.cell? ⟨wr.heap.size + 1, 10, none⟩ = some (.int .i64 (-1)) := by rw [cellB HZ.out.2]; rfl
            have n11 : wz.cell? ⟨wr.heap.size + 1, 11, none⟩ = some (.int .i64 0) := by rw [cellB HZ.out.2]; rfl
            have n12 : wz.cell? ⟨wr.heap.size + 1, 12, none⟩ = some (.bool true) := by rw [cellB HZ.out.2]; rfl
            have hrz : kN.R 47 wz wo.heap.size (fun _ => True) u10 ((X.take j).map (nodeOf L)) := Kd.R_below HY.out.1 HZ.out.1
            have hbz : Below wo.heap.size wo wz := HY.out.2.trans (HZ.out.1.mono HY.out.2.size)
            obtain ⟨ml, hml⟩ : ∃ ml, Hid ((X.take j).map (nodeOf L) = ml ∧ ml.length ≤ 1000) := ⟨_, rfl, by rw [List.length_map, List.length_take]; omega⟩
            rw [hml.out.1] at hrz
            have HRZ := Lib.hid (And.intro hrz hbz); clear hrz hbz
            clear e1 e2
            go_wp2_with (at_builtin; go_loud (refine Kd.R_append kN (w0 := wo) (W := wz) wo.heap.size rfl _ _ 25 47 (.agg #[.int .u64 0, .int .u64 0, .int .u64 0, .string ⟨#[]⟩, .string ⟨#[]⟩, .int .i64 0, .int .i64 0, .int .u64 0, .int .u64 0, .slice none 0 0, .int .i64 0, .int .i64 0, .bool false]) 136 rfl Try.underlying25 infoN rfl (by decide) (by decide) u10 ml (⟨p, (-1), 0, true⟩ : PN) (csN ⟨p, (-1), 0, true⟩) (fun _ => True) (fun _ => False) rfl rfl rfl (fun _ h => h.elim) (fun _ _ => trivial) HRZ.out.1 HRZ.out.2 HRZ.out.2.size (by have := hml.out.2; omega) ?_))
            intro v9 w9 ho9 hb9 hg9 hat9
            have H9 : Hid (kN.R 47 w9 wo.heap.size (fun _ => True) v9 ((X.take (j + 1)).map (nodeOf L)) ∧ Below wo.heap.size wo w9) := by
              rw [HTk.out, List.map_append, List.map_cons, List.map_nil, hml.out.1, show nodeOf L p = ⟨p, (-1), 0, true⟩ from HN.out]
              exact ⟨ho9, hb9⟩
            clear ho9 hb9 hg9 hat9
            go_wp2_with fail
            go_roundw
            case rel => exact ⟨j + 1, v9, by go_num, rfl, by omega, H9.out⟩
            case measure => simp [intOf]; omega
          · obtain ⟨q, hq⟩ : ∃ q, Hid (fndF 0 L p.s.f2 = q) := ⟨_, Lib.hid rfl⟩
            have HN : Hid (nodeOf L p = ⟨p, q, 0, false⟩) := by
              show _ = _
              unfold nodeOf par0 orp0
              rw [← hq.out]
              simp [hz, hz1, hf]
            rw [if_neg hf, hq.out] at hlk0
            have hlk : (Instr.lookup 147 (.map (some mb)) (.int .u64 p.s.f2) true).run Try.prog wb = .ok (.tuple #[.int .i64 q, .bool true]) wb := hlk0
            clear hlk0 hz hz1 hf
            have s1 : wb.cell? ⟨wr.heap.size + 1, 10, none⟩ = some (.int .i64 (-1)) := by rw [cellB HWB.out.2.1]; rfl
            have s2 : wb.frozen? ⟨wr.heap.size + 1, 10, none⟩ = false := frozenB HWB.out.2.1 10
            go_upto_region 21 with fail
            obtain ⟨wz, hwz⟩ : ∃ wz, Hid (wb.setCell ⟨wr.heap.size + 1, 10, none⟩ (.int .i64 q) = wz) := ⟨_, Lib.hid rfl⟩
            rw [hwz.out]
            have HZ : Hid (Below wr.heap.size wr wz ∧ wz.heap[wr.heap.size + 1]? = some (.cells #[.int .u64 p.s.f0, .int .u64 p.s.f1, .int .u64 p.s.f2, .string p.s.f3, .string p.s.f4, .int .i64 p.s.f5, .int .i64 p.s.f6, .int .u64 p.s.f7, .int .u64 p.s.f8, .slice p.A p.s.f9.length p.c, .int .i64 q, .int .i64 0, .bool false] 47 (0, 0))) := by rw [← hwz.out]; exact ⟨HWB.out.1.setCell (p := ⟨wr.heap.size + 1, 10, none⟩) (Nat.le_succ _) _, setB HWB.out.2.1 10 _⟩
            have n0 : wz.cell? ⟨wr.heap.size + 1, 0, none⟩ = some (.int .u64 p.s.f0) := by rw [cellB HZ.out.2]; rfl
            have n1 : wz.cell? ⟨wr.heap.size + 1, 1, none⟩ = some (.int .u64 p.s.f1) := by rw [cellB HZ.out.2]; rfl
            have n2 : wz.cell? ⟨wr.heap.size + 1, 2, none⟩ = some (.int .u64 p.s.f2) := by rw [cellB HZ.out.2]; rfl
            have n3 : wz.cell? ⟨wr.heap.size + 1, 3, none⟩ = some (.string p.s.f3) := by rw [cellB HZ.out.2]; rfl
            have n4 : wz.cell? ⟨wr.heap.size + 1, 4, none⟩ = some (.string p.s.f4) := by rw [cellB HZ.out.2]; rfl
            have n5 : wz.cell? ⟨wr.heap.size + 1, 5, none⟩ = some (.int .i64 p.s.f5) := by rw [cellB HZ.out.2]; rfl
            have n6 : wz.cell? ⟨wr.heap.size + 1, 6, none⟩ = some (.int .i64 p.s.f6) := by rw [cellB HZ.out.2]; rfl
            have n7 : wz.cell? ⟨wr.heap.size + 1, 7, none⟩ = some (.int .u64 p.s.f7) := by rw [cellB HZ.out.2]; rfl
            have n8 : wz.cell? ⟨wr.heap.size + 1, 8, none⟩ = some (.int .u64 p.s.f8) := by rw [cellB HZ.out.2]; rfl
            have n9 : wz.cell? ⟨wr.heap.size + 1, 9, none⟩ = some (.slice p.A p.s.f9.length p.c) := by rw [cellB HZ.out.2]; rfl
            have n10 : wz.cell? ⟨wr.heap.size + 1, 10, none⟩ = some (.int .i64 q) := by rw [cellB HZ.out.2]; rfl
            have n11 : wz.cell? ⟨wr.heap.size + 1, 11, none⟩ = some (.int .i64 0) := by rw [cellB HZ.out.2]; rfl
            have n12 : wz.cell? ⟨wr.heap.size + 1, 12, none⟩ = some (.bool false) := by rw [cellB HZ.out.2]; rfl
            have hrz : kN.R 47 wz wo.heap.size (fun _ => True) u10 ((X.take j).map (nodeOf L)) := Kd.R_below HY.out.1 HZ.out.1
            have hbz : Below wo.heap.size wo wz := HY.out.2.trans (HZ.out.1.mono HY.out.2.size)
            obtain ⟨ml, hml⟩ : ∃ ml, Hid ((X.take j).map (nodeOf L) = ml ∧ ml.length ≤ 1000) := ⟨_, rfl, by rw [List.length_map, List.length_take]; omega⟩
            rw [hml.out.1] at hrz
            have HRZ := Lib.hid (And.intro hrz hbz); clear hrz hbz
            clear e1 e2
            go_wp2_with (at_builtin; go_loud (refine Kd.R_append kN (w0 := wo) (W := wz) wo.heap.size rfl _ _ 25 47 (.agg #[.int .u64 0, .int .u64 0, .int .u64 0, .string ⟨#[]⟩, .string ⟨#[]⟩, .int .i64 0, .int .i64 0, .int .u64 0, .int .u64 0, .slice none 0 0, .int .i64 0, .int .i64 0, .bool false]) 136 rfl Try.underlying25 infoN rfl (by decide) (by decide) u10 ml (⟨p, q, 0, false⟩ : PN) (csN ⟨p, q, 0, false⟩) (fun _ => True) (fun _ => False) rfl rfl rfl (fun _ h => h.elim) (fun _ _ => trivial) HRZ.out.1 HRZ.out.2 HRZ.out.2.size (by have := hml.out.2; omega) ?_))
            intro v9 w9 ho9 hb9 hg9 hat9
            have H9 : Hid (kN.R 47 w9 wo.heap.size (fun _ => True) v9 ((X.take (j + 1)).map (nodeOf L)) ∧ Below wo.heap.size wo w9) := by
              rw [HTk.out, List.map_append, List.map_cons, List.map_nil, hml.out.1, show nodeOf L p = ⟨p, q, 0, false⟩ from HN.out]
              exact ⟨ho9, hb9⟩
            clear ho9 hb9 hg9 hat9
            go_wp2_with fail
            go_roundw
            case rel => exact ⟨j + 1, v9, by go_num, rfl, by omega, H9.out⟩
            case measure => simp [intOf]; omega
        · have hji : j = i := by omega
          subst hji
          have HY2 : Hid (kN.R 47 wr wo.heap.size (fun _ => True) u10 (X.map (nodeOf L)) ∧ Below wo.heap.size wo wr) := by
            have h := HY.out
            rw [List.take_of_length_le (by rw [hXn.out]; exact Nat.le_refl _)] at h
            exact h
          clear HY
          go_wp2_with fail
          go_ret2
          refine ⟨X, HWW.out.2.1.trans (HY2.out.2.mono HWW.out.2.1.size), HPM.out, HX.out.2.1, HAX.out, .inl ⟨HOK.out, u10, rfl, ?_⟩⟩
          rw [hL.out]
          exact Kd.R_lower HY2.out.1 HWW.out.2.1.size
end Go.Proofs.Ytamcchdblglfoaa.Ft
set_option linter.unusedVariables false
set_option linter.unusedSimpArgs false
namespace Go.Proofs.Ytamcchdblglfoaa.Ft
open Go.RowKit Go.Proofs.Ytamcchdblglfoaa.B0 Go.Proofs.Ytamcchdblglfoaa.Pf Go.Proofs.YtamcchdblglfoaaW.PrintWords Go.Proofs.YtamcchdblglfoaaW.PrintLast

theorem R_frT {α : Type} {d : Kd α} {e base : Nat} {w w' : World} {v : Value} {xs : List α} {F : List Nat} (h : d.R e w base (fun _ => True) v xs) (hf : Fr F w w') (hF : ∀ k ∈ F, w.heap.size ≤ k ∨ ∃ cs t, w.heap[k]? = some (.cells cs t (0, 0)) ∧ ∀ q, q ∈ e :: d.E → q ≠ t) : d.R e w' base (fun _ => True) v xs := by
  refine Kd.R_mono (Kd.R_step (Kd.R_bound h) (fun k hk hlt => ?_)) (fun _ _ => trivial)
  refine hf.block k hlt (fun hkF => ?_)
  obtain ⟨_, _, _, q, hq, cells, hc⟩ := hk
  rcases hF k hkF with h1 | ⟨cs, t, h1, h2⟩
  · omega
  · rw [hc] at h1
    exact h2 q hq (Obj.cells.inj (Option.some.inj h1)).2.1
/-- the builder in block bb. -/
structure BuR (w : World) (B bb : Nat) (v gv : Value) (keep : Bool) (most : Int) (ns : List PN) (gs : List Bool) : Prop where
  blk : w.heap[bb]? = some (.cells #[v, gv, .bool keep, .int .i64 most] 108 (0, 0))
  hb : B ≤ bb
  rN : kN.R 47 w B (fun _ => True) v ns
  rG : Kd.bool.R 4 w B (fun _ => True) gv gs
theorem BuR.fr {w w' : World} {B bb : Nat} {v gv : Value} {keep : Bool} {most : Int} {ns : List PN} {gs : List Bool} {F : List Nat} (h : BuR w B bb v gv keep most ns gs) (hf : Fr F w w')
    (hF : ∀ k ∈ F, w.heap.size ≤ k ∨ ∃ cs t, w.heap[k]? = some (.cells cs t (0, 0)) ∧ t ≠ 47 ∧ t ≠ 4 ∧ t ≠ 108) : BuR w' B bb v gv keep most ns gs where
  blk := hf.get h.blk (fun hk => by
    rcases hF bb hk with h1 | ⟨cs, t, h1, _, _, h2⟩
    · have := lt_of_get h.blk; omega
    · rw [h.blk] at h1; exact h2 (Obj.cells.inj (Option.some.inj h1)).2.1.symm)
  hb := h.hb
  rN := R_frT h.rN hf (fun k hk => by
    rcases hF k hk with h1 | ⟨cs, t, h1, h2, _, _⟩
    · exact .inl h1
    · exact .inr ⟨cs, t, h1, fun q hq e => h2 (by simp [kN, flat] at hq; rw [← e, hq])⟩)
  rG := R_frT h.rG hf (fun k hk => by
    rcases hF k hk with h1 | ⟨cs, t, h1, _, h2, _⟩
    · exact .inl h1
    · exact .inr ⟨cs, t, h1, fun q hq e => h2 (by simp [Kd.bool, Kd.scalar] at hq; rw [← e, hq])⟩)
theorem BuR.below {w w' : World} {B bb : Nat} {v gv : Value} {keep : Bool} {most : Int} {ns : List PN} {gs : List Bool} (h : BuR w B bb v gv keep most ns gs) (hb : Below w.heap.size w w') : BuR w' B bb v gv keep most ns gs := h.fr (Fr.of_below hb [] (Nat.le_refl _)) (by simp)
theorem BuR.setN {w : World} {B bb g n cap : Nat} {gv : Value} {keep : Bool} {most : Int} {ns : List PN} {gs : List Bool} (h : BuR w B bb (.slice (some ⟨g, 0, none⟩) n cap) gv keep most ns gs) {i : Nat} {x : PN} (hx : ns[i]? = some x) {j : Nat} (hj : j < 13) (u : Value) (x' : PN) (he : csN x' = (csN x).set j u) :
    BuR (w.setCell ⟨g, i * 13 + j, none⟩ u) B bb (.slice (some ⟨g, 0, none⟩) n cap) gv keep most (ns.set i x') gs := by
  obtain ⟨cur, hg, hBg, _⟩ := flat_get h.rN
  refine ⟨?_, h.hb, flat_set h.rN hx hj u x' he, ?_⟩
  · refine (setO w _ u ?_).trans h.blk
    intro e
    have e : bb = g := e
    have := h.blk
    rw [e, hg] at this
    exact absurd (Obj.cells.inj (Option.some.inj this)).2.1 (by decide)
  · exact R_frT h.rG ((Fr.refl [g] w).setCell (p := ⟨g, i * 13 + j, none⟩) (.inl (by simp)) u) (fun k hk => by
      have : k = g := by simpa using hk
      subst this
      exact .inr ⟨cur, _, hg, fun q hq e => by simp [Kd.bool, Kd.scalar] at hq; rw [hq] at e; exact absurd e (by decide)⟩)
theorem BuR.cellN {w : World} {B bb g n cap : Nat} {gv : Value} {keep : Bool} {most : Int} {ns : List PN} {gs : List Bool} (h : BuR w B bb (.slice (some ⟨g, 0, none⟩) n cap) gv keep most ns gs) {i : Nat} {x : PN} (hx : ns[i]? = some x) :
    w.cell? ⟨g, i * 13 + 10, none⟩ = some (.int .i64 x.par) ∧ w.cell? ⟨g, i * 13 + 11, none⟩ = some (.int .i64 x.dep) ∧ w.cell? ⟨g, i * 13 + 12, none⟩ = some (.bool x.orp) ∧ ∀ o, w.frozen? ⟨g, o, none⟩ = false := by
  obtain ⟨cur, hg, _⟩ := flat_get h.rN
  exact ⟨(flat_cell h.rN hx (j := 10) rfl).1, (flat_cell h.rN hx (j := 11) rfl).1, (flat_cell h.rN hx (j := 12) rfl).1, fun o => frozenB hg o⟩
theorem BuR.form {w : World} {B bb : Nat} {v gv : Value} {keep : Bool} {most : Int} {ns : List PN} {gs : List Bool} (h : BuR w B bb v gv keep most ns gs) (hn : 0 < ns.length) : ∃ g cap, v = .slice (some ⟨g, 0, none⟩) ns.length cap ∧ B ≤ g ∧ ∃ cs, w.heap[g]? = some (.cells cs 47 (0, 0)) := by
  obtain ⟨g, cap, e, h1, _, h3⟩ := Kd.R_form h.rN hn
  exact ⟨g, cap, e, h1, h3⟩
def cutN (x : PN) : PN := ⟨x.p, -1, x.dep, true⟩
theorem cell_heap {w w' : World} (h : w'.heap = w.heap) (a : Addr) : w'.cell? a = w.cell? a := by unfold World.cell?; rw [h]
theorem fr_heap {w w' : World} (h : Below w.heap.size w w') (hs : w'.heap = w.heap) (F : List Nat) : Fr F w w' := Fr.of_below h F (Nat.le_refl _)
def T76_0 : Bool × List (List Nat × List Nat) := (true, [([], []), ([0], [0]), ([1], [1]), ([2], [2]), ([], []), ([], []), ([5], [5]), ([6], [6]), ([7], [7]), ([], []), ([3, 4, 0, 1, 2, 3, 4, 8], [3, 4]), ([10, 0, 1, 2, 3, 4, 8], [10]), ([11, 0, 1, 2, 3, 4, 8], [11]), ([8, 9, 0, 1, 2, 3, 4, 5, 6, 7, 8, 9, 10, 11, 12], [8, 9]), ([13, 0, 1, 2, 3, 4, 5, 6, 7, 8, 9, 10, 11, 12], [13]), ([14, 12, 0, 1, 2, 3, 4, 5, 6, 7, 8, 9, 10, 11, 12], [14])])
def B76_0 : List Nat := [0, 1, 3, 7, 0, 0, 32, 96, 224, 0, 511, 1535, 3583, 8191, 16383, 32767]
theorem tab76_0 : rtab .any (opsOf Try.f76 0) = T76_0 := by kernel_rfl
theorem bits76_0 : waitsOk T76_0.2 B76_0 = true := by kernel_rfl
set_option maxHeartbeats 4000000 in
set_option maxRecDepth 100000 in
theorem cut_c {w : World} {B bb g n cap : Nat} {gv : Value} {keep : Bool} {most : Int} {ns : List PN} {gs : List Bool} (h : BuR w B bb (.slice (some ⟨g, 0, none⟩) n cap) gv keep most ns gs) (i : Nat) (x : PN) (hx : ns[i]? = some x) (hn : ns.length = n) (hn2 : n ≤ 1000000) :
    Calls Try.prog 76 #[.pointer (some ⟨bb, 0, none⟩), .int .i64 (i : Int)] w fun e w' => e = .returned (.tuple #[]) ∧ BuR w' B bb (.slice (some ⟨g, 0, none⟩) n cap) gv keep most (ns.set i (cutN x)) gs ∧ Fr [g] w w' := by
  have hi : i < n := by rw [← hn]; exact (List.getElem?_eq_some_iff.1 hx).1
  have hki : (i : Int) < (n : Int) := by omega
  have H := Lib.hid h; clear h
  have HX := Lib.hid hx; clear hx hn
  have EC : Hid (∀ w', Below w.heap.size w w' → w'.cell? ⟨bb, 0, none⟩ = some (.slice (some ⟨g, 0, none⟩) n cap)) := fun w' hb => pw_cell_below hb (by rw [cellB H.out.blk]; rfl)
  go_enter Try.func76, Try.ntmps76
  obtain ⟨t1, _, t3, tf⟩ := H.out.cellN HX.out
  have t2 := tf (i * 13 + 10)
  have H1 : Hid (BuR (w.setCell ⟨g, i * 13 + 10, none⟩ (.int .i64 (-1))) B bb (.slice (some ⟨g, 0, none⟩) n cap) gv keep most (ns.set i ⟨x.p, -1, x.dep, x.orp⟩) gs) := H.out.setN HX.out (by decide) _ ⟨x.p, -1, x.dep, x.orp⟩ rfl
  have hi0 : i < ns.length := (List.getElem?_eq_some_iff.1 HX.out).1
  obtain ⟨_, _, k1, kf⟩ := H1.out.cellN (i := i) (x := ⟨x.p, -1, x.dep, x.orp⟩) (by rw [List.getElem?_set_self hi0])
  have k2 := kf (i * 13 + 12)
  have H2 : Hid (BuR ((w.setCell ⟨g, i * 13 + 10, none⟩ (.int .i64 (-1))).setCell ⟨g, i * 13 + 12, none⟩ (.bool true)) B bb (.slice (some ⟨g, 0, none⟩) n cap) gv keep most (ns.set i (cutN x)) gs) := by
    have h := H1.out.setN (i := i) (x := ⟨x.p, -1, x.dep, x.orp⟩) (by rw [List.getElem?_set_self hi0]) (j := 12) (by decide) (.bool true) (cutN x) rfl
    rw [List.set_set] at h; exact Lib.hid h
  clear t3 tf kf hi0
  refine start_ (n := 16) (S := (fun w' => Below w.heap.size w w')) (ds := [12, 15]) #[false, false, false, false, false, false, false, false, false, false, false, false, false, false, false, false] (by kernel_rfl) (by rfl) (by rfl) (pw_below_drewN (Below.refl _ _) 1) (fun hHeld => ?_); refine with_tabW tab76_0 bits76_0 (fun HT_ HW_ => ?_)
  refine pure_ (i := 0) (N := some 4) (v := ?_) (a' := ?_) #[true, false, false, false, false, false, false, false, false, false, false, false, false, false, false, false] rfl rfl (any_of HT_.out (by kernel_rfl)) (fun _ _ _ h => h) (Or.inl ⟨by rfl, ?_⟩) ?_ ?_
  rotate_left
  · intro w'
    go_simp
    with_reducible rfl
  rotate_left
  · simp only [Act.put, List.setIfInBounds_toArray, List.set_cons_zero, List.set_cons_succ]
    rfl
  refine pure_ (i := 1) (N := some 5) (v := ?_) (a' := ?_) #[true, true, false, false, false, false, false, false, false, false, false, false, false, false, false, false] rfl rfl (any_of HT_.out (by kernel_rfl)) (fun _ _ _ h => h) (Or.inl ⟨by rfl, ?_⟩) ?_ ?_
  rotate_left
  · intro w'
    go_simp
    with_reducible rfl
  rotate_left
  · simp only [Act.put, List.setIfInBounds_toArray, List.set_cons_zero, List.set_cons_succ]
    rfl
  refine pure_ (i := 2) (N := some 6) (v := ?_) (a' := ?_) #[true, true, true, false, false, false, false, false, false, false, false, false, false, false, false, false] rfl rfl (any_of HT_.out (by kernel_rfl)) (fun _ _ _ h => h) (Or.inl ⟨by rfl, ?_⟩) ?_ ?_
  rotate_left
  · intro w'
    go_simp
    with_reducible rfl
  rotate_left
  · simp only [Act.put, List.setIfInBounds_toArray, List.set_cons_zero, List.set_cons_succ]
    rfl
  refine take_ (i := 3) (N := some 7) (v := ?_) (a' := ?_) #[true, true, true, true, false, false, false, false, false, false, false, false, false, false, false, false] rfl rfl (take_ofW HT_.out HW_.out (by kernel_rfl)) (fun _ _ _ h => h) (Or.inl ⟨by rfl, ?_⟩) hHeld ?_ ?_
  rotate_left
  · rintro w' hS; have s1 := EC.out w' hS
    go_simp
    with_reducible rfl
  rotate_left
  · simp only [Act.put, List.setIfInBounds_toArray, List.set_cons_zero, List.set_cons_succ]
    rfl
  refine pure_ (i := 4) (N := some 8) (v := ?_) (a' := ?_) #[true, true, true, true, true, false, false, false, false, false, false, false, false, false, false, false] rfl rfl (any_of HT_.out (by kernel_rfl)) (fun _ _ _ h => h) (Or.inl ⟨by rfl, ?_⟩) ?_ ?_
  rotate_left
  · intro w'
    go_simp
    with_reducible rfl
  rotate_left
  · simp only [Act.put, List.setIfInBounds_toArray, List.set_cons_zero, List.set_cons_succ]
    rfl
  refine pure_ (i := 5) (N := some 9) (v := ?_) (a' := ?_) #[true, true, true, true, true, true, false, false, false, false, false, false, false, false, false, false] rfl rfl (any_of HT_.out (by kernel_rfl)) (fun _ _ _ h => h) (Or.inl ⟨by rfl, ?_⟩) ?_ ?_
  rotate_left
  · intro w'
    go_simp
    with_reducible rfl
  rotate_left
  · simp only [Act.put, List.setIfInBounds_toArray, List.set_cons_zero, List.set_cons_succ]
    rfl
  refine pure_ (i := 6) (N := some 10) (v := ?_) (a' := ?_) #[true, true, true, true, true, true, true, false, false, false, false, false, false, false, false, false] rfl rfl (any_of HT_.out (by kernel_rfl)) (fun _ _ _ h => h) (Or.inl ⟨by rfl, ?_⟩) ?_ ?_
  rotate_left
  · intro w'
    go_simp
    with_reducible rfl
  rotate_left
  · simp only [Act.put, List.setIfInBounds_toArray, List.set_cons_zero, List.set_cons_succ]
    rfl
  refine pure_ (i := 7) (N := some 11) (v := ?_) (a' := ?_) #[true, true, true, true, true, true, true, true, false, false, false, false, false, false, false, false] rfl rfl (any_of HT_.out (by kernel_rfl)) (fun _ _ _ h => h) (Or.inl ⟨by rfl, ?_⟩) ?_ ?_
  rotate_left
  · intro w'
    go_simp
    with_reducible rfl
  rotate_left
  · simp only [Act.put, List.setIfInBounds_toArray, List.set_cons_zero, List.set_cons_succ]
    rfl
  refine take_ (i := 8) (N := some 12) (v := ?_) (a' := ?_) #[true, true, true, true, true, true, true, true, true, false, false, false, false, false, false, false] rfl rfl (take_ofW HT_.out HW_.out (by kernel_rfl)) (fun _ _ _ h => h) (Or.inl ⟨by rfl, ?_⟩) hHeld ?_ ?_
  rotate_left
  · rintro w' hS; have s1 := EC.out w' hS
    go_simp
    with_reducible rfl
  rotate_left
  · simp only [Act.put, List.setIfInBounds_toArray, List.set_cons_zero, List.set_cons_succ]
    rfl
  refine pure_ (i := 9) (N := some 13) (v := ?_) (a' := ?_) #[true, true, true, true, true, true, true, true, true, true, false, false, false, false, false, false] rfl rfl (any_of HT_.out (by kernel_rfl)) (fun _ _ _ h => h) (Or.inl ⟨by rfl, ?_⟩) ?_ ?_
  rotate_left
  · intro w'
    go_simp
    with_reducible rfl
  rotate_left
  · simp only [Act.put, List.setIfInBounds_toArray, List.set_cons_zero, List.set_cons_succ]
    rfl
  refine pure_ (i := 10) (N := some 14) (v := ?_) (a' := ?_) #[true, true, true, true, true, true, true, true, true, true, true, false, false, false, false, false] rfl rfl (any_of HT_.out (by kernel_rfl)) (fun _ _ _ h => h) (Or.inl ⟨by rfl, ?_⟩) ?_ ?_
  rotate_left
  · intro w'
    go_simp
    with_reducible rfl
  rotate_left
  · simp only [Act.put, List.setIfInBounds_toArray, List.set_cons_zero, List.set_cons_succ]
    rfl
  refine pure_ (i := 11) (N := some 15) (v := ?_) (a' := ?_) #[true, true, true, true, true, true, true, true, true, true, true, true, false, false, false, false] rfl rfl (any_of HT_.out (by kernel_rfl)) (fun _ _ _ h => h) (Or.inl ⟨by rfl, ?_⟩) ?_ ?_
  rotate_left
  · intro w'
    go_simp
    with_reducible rfl
  rotate_left
  · simp only [Act.put, List.setIfInBounds_toArray, List.set_cons_zero, List.set_cons_succ]
    rfl
  refine last_ (i := 12) (N := none) #[true, true, true, true, true, true, true, true, true, true, true, true, true, false, false, false] rfl rfl (one_of HT_.out (by kernel_rfl)) (by decide) (fun K hK => ?_)
  rw [if_pos (by rfl)]
  go_simp
  refine hK.out _ _ ?_
  clear hK K
  refine pure_ (i := 13) (N := some 16) (v := ?_) (a' := ?_) #[true, true, true, true, true, true, true, true, true, true, true, true, true, true, false, false] rfl rfl (any_of HT_.out (by kernel_rfl)) (fun _ _ _ h => h) (Or.inl ⟨by rfl, ?_⟩) ?_ ?_
  rotate_left
  · intro w'
    go_simp
    with_reducible rfl
  rotate_left
  · simp only [Act.put, List.setIfInBounds_toArray, List.set_cons_zero, List.set_cons_succ]
    rfl
  refine pure_ (i := 14) (N := some 17) (v := ?_) (a' := ?_) #[true, true, true, true, true, true, true, true, true, true, true, true, true, true, true, false] rfl rfl (any_of HT_.out (by kernel_rfl)) (fun _ _ _ h => h) (Or.inl ⟨by rfl, ?_⟩) ?_ ?_
  rotate_left
  · intro w'
    go_simp
    with_reducible rfl
  rotate_left
  · simp only [Act.put, List.setIfInBounds_toArray, List.set_cons_zero, List.set_cons_succ]
    rfl
  refine last_ (i := 15) (N := none) #[true, true, true, true, true, true, true, true, true, true, true, true, true, true, true, true] rfl rfl (one_of HT_.out (by kernel_rfl)) (by decide) (fun K hK => ?_)
  rw [if_pos (by rfl)]
  go_simp
  refine hK.out _ _ ?_
  clear hK K
  refine done_ (done_of HT_.out (by kernel_rfl)) ?_
  clear HT_ HW_ hHeld
  go_wp2_with fail
  go_end0
  exact ⟨rfl, H2.out.below (pw_below_drewN (Below.refl _ _) 1), (((Fr.refl [g] w).setCell (p := ⟨g, i * 13 + 10, none⟩) (.inl (by simp)) _).setCell (p := ⟨g, i * 13 + 12, none⟩) (.inl (by simp)) _).drewN 1⟩
end Go.Proofs.Ytamcchdblglfoaa.Ft
set_option linter.unusedVariables false
set_option linter.unusedSimpArgs false
namespace Go.Proofs.Ytamcchdblglfoaa.Ft
open Go.RowKit Go.Proofs.Ytamcchdblglfoaa.B0 Go.Proofs.Ytamcchdblglfoaa.Pf Go.Proofs.YtamcchdblglfoaaW.PrintWords

def pars (ns : List PN) : List Int := ns.map fun x => x.par
theorem pars_len (ns : List PN) : (pars ns).length = ns.length := by simp [pars]
theorem nx_pars {ns : List PN} {i : Nat} {x : PN} (h : ns[i]? = some x) : nx (pars ns) (i : Int) = x.par := by
  rw [nx_at, List.getD_eq_getElem?_getD, pars, List.getElem?_map, h]; rfl
theorem pars_set (ns : List PN) (i : Nat) (x : PN) : pars (ns.set i x) = (pars ns).set i x.par := by simp [pars, List.map_set]
/-- some rings' least ones are cut. -/
def CutN (ns ns' : List PN) : Prop := ns'.length = ns.length ∧ ∀ (i : Nat) (x : PN), ns[i]? = some x → ns'[i]? = some x ∨ (ns'[i]? = some (cutN x) ∧ RMin (pars ns) (i : Int))
theorem CutN.refl (ns : List PN) : CutN ns ns := ⟨rfl, fun _ _ h => .inl h⟩
theorem CutN.cut {ns ns' : List PN} (h : CutN ns ns') : Cut (pars ns) (pars ns') := by
  refine ⟨by rw [pars_len, pars_len, h.1], fun x => ?_⟩
  by_cases hx : x < 0
  · rw [nx_neg hx, nx_neg hx]; exact .inl rfl
  · obtain ⟨i, rfl⟩ : ∃ i : Nat, x = i := ⟨x.toNat, by omega⟩
    rcases Nat.lt_or_ge i ns.length with hi | hi
    · have hx := List.getElem?_eq_getElem hi
      rcases h.2 i _ hx with e | ⟨e, hm⟩
      · rw [nx_pars e, nx_pars hx]; exact .inl rfl
      · right; rw [nx_pars e]; exact ⟨rfl, hm⟩
    · left
      rw [nx_at, nx_at, List.getD_eq_getElem?_getD, List.getD_eq_getElem?_getD, List.getElem?_eq_none (by rw [pars_len, h.1]; exact hi), List.getElem?_eq_none (by rw [pars_len]; exact hi)]
theorem CutN.set {ns ns' : List PN} (h0 : InR (pars ns)) (h : CutN ns ns') {i : Nat} {y : PN} (hy : ns'[i]? = some y) (hm : RMin (pars ns') (i : Int)) : CutN ns (ns'.set i (cutN y)) := by
  refine ⟨by rw [List.length_set]; exact h.1, fun j x hx => ?_⟩
  have hi := (List.getElem?_eq_some_iff.1 hy).1
  by_cases e : i = j
  · subst e
    right
    rw [List.getElem?_set_self hi]
    refine ⟨?_, h.cut.rmin h0 hm⟩
    rcases h.2 i x hx with e | ⟨e, _⟩
    · rw [e] at hy; cases hy; rfl
    · rw [e] at hy; cases hy; rfl
  · rw [List.getElem?_set_ne e]; exact h.2 j x hx
theorem Ends.cut {l : List Int} {i : Nat} (hi : i < l.length) {x : Int} (h : Ends l x) : Ends (l.set i (-1)) x := by
  induction h with
  | none hx => exact .none hx
  | @step x _ ih =>
    by_cases e : x = i
    · refine .step ?_
      rw [nx_set hi, if_pos e]; exact .none (by omega)
    · refine .step ?_
      rw [nx_set hi, if_neg e]; exact ih
theorem Rch.cut {l : List Int} {i : Nat} (hi : i < l.length) {x y : Int} (h : Rch l x y) (hy : y = i) : Ends (l.set i (-1)) x := by
  have hend : Ends (l.set i (-1)) (i : Int) := by
    refine .step ?_
    rw [nx_set hi, if_pos rfl]; exact .none (by omega)
  induction h with
  | @one x hx =>
    by_cases e : x = i
    · rw [e]; exact hend
    · refine .step ?_
      rw [nx_set hi, if_neg e, hy]; exact hend
  | @step x y hx _ ih =>
    by_cases e : x = i
    · rw [e]; exact hend
    · refine .step ?_
      rw [nx_set hi, if_neg e]; exact ih hy

/-- the outer loop's: i walks are done. -/
structure Rg (ns ns' : List PN) (ms : List Int) (n i : Nat) : Prop where
  cut : CutN ns ns'
  ml : ms.length = n
  mk1 : ∀ (j : Nat) (x : Int), ms[j]? = some x → 0 ≤ x ∧ x ≤ i ∧ (x ≠ 0 → Ends (pars ns') (j : Int))
  seen : ∀ (j : Nat) (x : Int), j < i → ms[j]? = some x → x ≠ 0
/-- the walk's: it has come to k. -/
structure Rw (ns ns' : List PN) (ms : List Int) (n i : Nat) (k : Int) : Prop where
  cut : CutN ns ns'
  ml : ms.length = n
  mk1 : ∀ (j : Nat) (x : Int), ms[j]? = some x → 0 ≤ x ∧ x ≤ i + 1 ∧ (x ≠ 0 → x ≠ i + 1 → Ends (pars ns') (j : Int)) ∧ (x = i + 1 → Rch (pars ns') (j : Int) k)
  seen : ∀ (j : Nat) (x : Int), j < i → ms[j]? = some x → x ≠ 0
  at_ : k = i ∨ ∀ x, ms[i]? = some x → x ≠ 0
  rk : k = -1 ∨ (0 ≤ k ∧ k < n)
theorem Rg.start {ns : List PN} {n : Nat} (h : ns.length = n) : Rg ns ns (List.replicate n 0) n 0 where
  cut := .refl _
  ml := by simp
  mk1 := fun j x hx => by
    have : x = 0 := by
      have h := List.getElem?_eq_some_iff.1 hx
      obtain ⟨h1, h2⟩ := h
      simp at h2; exact h2.symm
    subst this
    exact ⟨by omega, by omega, fun h => absurd rfl h⟩
  seen := fun j x hj => by omega
theorem Rg.walk {ns ns' : List PN} {ms : List Int} {n i : Nat} (h : Rg ns ns' ms n i) (hi : i < n) : Rw ns ns' ms n i (i : Int) where
  cut := h.cut
  ml := h.ml
  mk1 := fun j x hx => by
    obtain ⟨h1, h2, h3⟩ := h.mk1 j x hx
    exact ⟨h1, by omega, fun h4 _ => h3 h4, fun e => by omega⟩
  seen := h.seen
  at_ := .inl rfl
  rk := .inr ⟨by omega, by omega⟩
theorem Rw.step {ns ns' : List PN} {ms : List Int} {n i kn : Nat} (h0 : InR (pars ns)) (hn : ns.length = n) (h : Rw ns ns' ms n i (kn : Int)) (hz : ms[kn]? = some 0) : Rw ns ns' (ms.set kn ((i : Int) + 1)) n i (nx (pars ns') (kn : Int)) where
  cut := h.cut
  ml := by rw [List.length_set]; exact h.ml
  mk1 := fun j x hx => by
    have hk := (List.getElem?_eq_some_iff.1 hz).1
    by_cases e : kn = j
    · subst e
      rw [List.getElem?_set_self hk] at hx
      obtain rfl := Option.some.inj hx
      exact ⟨by omega, by omega, fun _ h => absurd rfl h, fun _ => .one (by omega)⟩
    · rw [List.getElem?_set_ne e] at hx
      obtain ⟨h1, h2, h3, h4⟩ := h.mk1 j x hx
      exact ⟨h1, h2, h3, fun e => (h4 e).last (by omega)⟩
  seen := fun j x hj hx => by
    have hk := (List.getElem?_eq_some_iff.1 hz).1
    by_cases e : kn = j
    · subst e
      rw [List.getElem?_set_self hk] at hx
      obtain rfl := Option.some.inj hx
      omega
    · rw [List.getElem?_set_ne e] at hx
      exact h.seen j x hj hx
  at_ := by
    right
    intro x hx
    have hk := (List.getElem?_eq_some_iff.1 hz).1
    by_cases e : kn = i
    · subst e
      rw [List.getElem?_set_self hk] at hx
      obtain rfl := Option.some.inj hx
      omega
    · rw [List.getElem?_set_ne e] at hx
      rcases h.at_ with e2 | e2
      · exact absurd (by omega) e
      · exact e2 x hx
  rk := by
    have := h.cut.cut.inR h0 (kn : Int)
    rw [pars_len, h.cut.1, hn] at this; exact this
/-- the walk came to an end, or to where an elder one was. -/
theorem Rw.ends {ns ns' : List PN} {ms : List Int} {n i : Nat} {k : Int} (h : Rw ns ns' ms n i k) (hk : k = -1 ∨ ∃ (kn : Nat) (x : Int), k = kn ∧ ms[kn]? = some x ∧ x ≠ 0 ∧ x ≠ (i : Int) + 1) (hi : i < n) : Rg ns ns' ms n (i + 1) where
  cut := h.cut
  ml := h.ml
  mk1 := fun j x hx => by
    have hek : Ends (pars ns') k := by
      rcases hk with rfl | ⟨kn, y, rfl, h1, h2, h3⟩
      · exact .none (by omega)
      · exact (h.mk1 kn y h1).2.2.1 h2 h3
    obtain ⟨h1, h2, h3, h4⟩ := h.mk1 j x hx
    refine ⟨h1, by omega, fun h5 => ?_⟩
    by_cases e : x = (i : Int) + 1
    · exact (h4 e).ends hek
    · exact h3 h5 e
  seen := fun j x hj hx => by
    rcases Nat.lt_or_ge j i with h1 | h1
    · exact h.seen j x h1 hx
    · obtain rfl : j = i := by omega
      rcases h.at_ with e | e
      · rcases hk with rfl | ⟨kn, y, rfl, g1, g2, g3⟩
        · omega
        · have ek : kn = j := by omega
          subst ek
          rw [g1] at hx; cases hx; exact g2
      · exact e x hx
/-- the walk came to itself: a ring; its least one is cut. -/
theorem Rw.ring {ns ns' : List PN} {ms : List Int} {n i kn c : Nat} (h0 : InR (pars ns)) (hn : ns.length = n) (h : Rw ns ns' ms n i (kn : Int)) (hk : ms[kn]? = some ((i : Int) + 1)) (hm : RMin (pars ns') (c : Int)) (hc : (c : Int) = kn ∨ Rch (pars ns') (kn : Int) (c : Int)) {y : PN} (hy : ns'[c]? = some y) (hi : i < n) :
    Rg ns (ns'.set c (cutN y)) ms n (i + 1) where
  cut := h.cut.set h0 hy hm
  ml := h.ml
  mk1 := fun j x hx => by
    have hcl : c < (pars ns').length := by rw [pars_len]; exact (List.getElem?_eq_some_iff.1 hy).1
    obtain ⟨h1, h2, h3, h4⟩ := h.mk1 j x hx
    refine ⟨h1, by omega, fun h5 => ?_⟩
    rw [pars_set]
    by_cases e : x = (i : Int) + 1
    · have hj := h4 e
      have : Rch (pars ns') (j : Int) (c : Int) := by
        rcases hc with e | e
        · rw [e]; exact hj
        · exact hj.trans e
      exact this.cut hcl rfl
    · exact (h3 h5 e).cut hcl
  seen := fun j x hj hx => by
    rcases Nat.lt_or_ge j i with h1 | h1
    · exact h.seen j x h1 hx
    · obtain rfl : j = i := by omega
      rcases h.at_ with e | e
      · obtain rfl : kn = j := by omega
        rw [hk] at hx; cases hx; omega
      · exact e x hx
theorem Rg.done {ns ns' : List PN} {ms : List Int} {n : Nat} (hn : ns.length = n) (h : Rg ns ns' ms n n) : ∀ x : Int, Ends (pars ns') x := fun x => by
  by_cases hx : x < 0
  · exact .none hx
  · obtain ⟨i, rfl⟩ : ∃ i : Nat, x = i := ⟨x.toNat, by omega⟩
    rcases Nat.lt_or_ge i n with hi | hi
    · have hm := List.getElem?_eq_getElem (l := ms) (by rw [h.ml]; exact hi)
      exact (h.mk1 i _ hm).2.2 (h.seen i _ hi hm)
    · refine .step ?_
      rw [nx_at, List.getD_eq_getElem?_getD, List.getElem?_eq_none (by rw [pars_len, h.cut.1, hn]; exact hi)]
      exact .none (by decide)
/-- going round: the least of what has come by. -/
structure Rr (l : List Int) (kn : Nat) (c m : Int) : Prop where
  ring : Rch l (kn : Int) (kn : Int)
  rm : Rch l (kn : Int) m
  rc : c = kn ∨ Rch l (kn : Int) c
  back : ∃ q, it l q m = (kn : Int)
  le : ∀ y, Rch l (kn : Int) y → c ≤ y ∨ Bef l (kn : Int) m y
theorem Rr.start {l : List Int} {kn : Nat} (h : Rch l (kn : Int) (kn : Int)) : Rr l kn (kn : Int) (nx l (kn : Int)) where
  ring := h
  rm := .one h.pos
  rc := .inl rfl
  back := h.it
  le := fun y hy => by
    rcases Bef.of_rch hy with e | e
    · exact .inl (by omega)
    · exact .inr e
theorem Rr.pos {l : List Int} {kn : Nat} {c m : Int} (h : Rr l kn c m) : 0 ≤ m ∧ 0 ≤ c := by
  refine ⟨(Rch.back h.ring h.rm).pos, ?_⟩
  rcases h.rc with e | e
  · omega
  · exact (Rch.back h.ring e).pos
theorem Rr.step {l : List Int} {kn : Nat} {c m : Int} (h : Rr l kn c m) (hne : m ≠ kn) : Rr l kn (min c m) (nx l m) where
  ring := h.ring
  rm := h.rm.last h.pos.1
  rc := by
    rcases Int.le_total c m with e | e
    · rw [Int.min_eq_left e]; exact h.rc
    · rw [Int.min_eq_right e]; exact .inr h.rm
  back := (dist_lt h.back hne).1
  le := fun y hy => by
    rcases h.le y hy with e | e
    · left; omega
    · rcases e.cases' with ⟨_, e | e⟩
      · left; omega
      · exact .inr e
theorem Rr.done {l : List Int} {kn : Nat} {c m : Int} (h : Rr l kn c m) (he : m = kn) : RMin l c := by
  have hcr : Rch l c c := by
    rcases h.rc with e | e
    · rw [e]; exact h.ring
    · exact (Rch.back h.ring e).trans e
  refine ⟨hcr, fun y hy => ?_⟩
  have hy2 : Rch l (kn : Int) y := by
    rcases h.rc with e | e
    · rw [← e]; exact hy
    · exact e.trans hy
  rcases h.le y hy2 with e | e
  · exact e
  · exact absurd he e.cases'.1
/-- how many cells hold 0. -/
def isZ : Value → Bool
  | .int _ n => n == 0
  | _ => false
def zcnt (w : World) (g : Nat) : Nat := match w.heap[g]? with
  | some (.cells c _ _) => c.toList.countP isZ
  | _ => 0
theorem zcnt_set {w : World} {g k : Nat} {cur : Array Value} {t : TypeId} {f : Nat × Nat} {x : Int} (h : w.heap[g]? = some (.cells cur t f)) (hc : cur[k]? = some (.int .i64 0)) (hx : x ≠ 0) : zcnt (w.setCell ⟨g, k, none⟩ (.int .i64 x)) g < zcnt w g := by
  unfold zcnt
  rw [setB h, h]
  simp only [Array.toList_setIfInBounds]
  have hk : k < cur.toList.length := by have := (Array.getElem?_eq_some_iff.1 hc).1; simpa using this
  have he : cur.toList[k] = .int .i64 0 := by have := (Array.getElem?_eq_some_iff.1 hc).2; simpa using this
  rw [List.countP_set hk]
  have h1 : isZ cur.toList[k] = true := by rw [he]; rfl
  have h2 : isZ (.int .i64 x) = false := by simp [isZ, hx]
  rw [h1, h2]
  have h3 : 0 < cur.toList.countP isZ := List.countP_pos_iff.2 ⟨_, List.getElem_mem hk, h1⟩
  simp only [if_true, Bool.false_eq_true, if_false]
  omega
end Go.Proofs.Ytamcchdblglfoaa.Ft
set_option linter.unusedVariables false
set_option linter.unusedSimpArgs false
namespace Go.Proofs.Ytamcchdblglfoaa.Ft
open Go.RowKit Go.Proofs.Ytamcchdblglfoaa.B0 Go.Proofs.Ytamcchdblglfoaa.Pf Go.Proofs.YtamcchdblglfoaaW.PrintWords Go.Proofs.YtamcchdblglfoaaW.PrintLast

theorem infoI : (Try.prog.info? 3).map (fun i => (i.zero, i.size, i.bytes)) = some (some (.int .i64 0), 1, 8) := by kernel_rfl
theorem infoB : (Try.prog.info? 4).map (fun i => (i.zero, i.size, i.bytes)) = some (some (.bool false), 1, 1) := by kernel_rfl
theorem cellI {W : World} {e base g n cap : Nat} {ok : Nat → Prop} {ms : List Int} (h : (Kd.int .i64).R e W base ok (.slice (some ⟨g, 0, none⟩) n cap) ms) {k : Nat} {x : Int} (hx : ms[k]? = some x) : W.cell? ⟨g, k, none⟩ = some (.int .i64 x) ∧ W.frozen? ⟨g, k, none⟩ = false := by
  have hk := (List.getElem?_eq_some_iff.1 hx).1
  have hn : n = ms.length := (Kd.R_reads' h).1
  have h1 := Kd.R_celln (0 : Int) h (k : Int) (by omega) (by omega)
  rw [Int.toNat_natCast] at h1
  unfold rdOf at h1
  rw [Int.toNat_natCast, List.getD_eq_getElem?_getD, hx] at h1
  exact h1
theorem putI {W : World} {e base g n cap : Nat} {ok : Nat → Prop} {ms : List Int} (h : (Kd.int .i64).R e W base ok (.slice (some ⟨g, 0, none⟩) n cap) ms) (k : Nat) (x : Int) : (Kd.int .i64).R e (W.setCell ⟨g, k, none⟩ (.int .i64 x)) base ok (.slice (some ⟨g, 0, none⟩) n cap) (ms.set k x) := by
  have h1 := Kd.R_putn h (k : Int) x
  rw [Int.toNat_natCast] at h1
  exact h1
theorem blkI {W : World} {e base g n cap : Nat} {ok : Nat → Prop} {ms : List Int} (h : (Kd.int .i64).R e W base ok (.slice (some ⟨g, 0, none⟩) n cap) ms) : ∃ cur, W.heap[g]? = some (.cells cur e (0, 0)) := by
  obtain ⟨cells, hc⟩ := Kd.R_typed h g (by simp [Value.ownBlock])
  exact ⟨cells, hc⟩
theorem Rch.rng {l : List Int} (h0 : InR l) {x y : Int} (h : Rch l x y) : y = -1 ∨ (0 ≤ y ∧ y < l.length) := by
  induction h with
  | one _ => exact h0 _
  | step _ _ ih => exact ih
set_option maxHeartbeats 8000000 in
set_option maxRecDepth 100000 in
theorem rings_c {w : World} {B bb : Nat} {v gv : Value} {keep : Bool} {most : Int} {ns : List PN} {gs : List Bool} (n : Nat) (h : BuR w B bb v gv keep most ns gs) (hB : B ≤ w.heap.size) (hn : ns.length = n) (hn2 : n ≤ 1000) (h0 : InR (pars ns)) :
    Calls Try.prog 48 #[.pointer (some ⟨bb, 0, none⟩)] w fun e w' => e = .returned (.tuple #[]) ∧ ∃ ns', BuR w' B bb v gv keep most ns' gs ∧ CutN ns ns' ∧ (∀ x : Int, Ends (pars ns') x) ∧ Below B w w' := by
  have H := Lib.hid h; have HN := Lib.hid hn; have H0 := Lib.hid h0; have HB := Lib.hid hB
  clear h hn h0 hB
  obtain ⟨A, cap, hv, _⟩ := Kd.R_reads H.out.rN
  rw [HN.out] at hv
  subst hv
  have c0 : w.cell? ⟨bb, 0, none⟩ = some (.slice A n cap) := by rw [cellB H.out.blk]; rfl
  go_enter Try.func48, Try.ntmps48
  go_wp2_with ((with_reducible refine gate_dst (N := 12) rfl ?_); go_loud (refine Kd.R_make (Kd.int .i64) (w0 := w) (ok := fun _ => True) (okp := fun _ => True) B 3 rfl (N := 12) rfl 88 _ _ rfl (n : Int) rfl rfl Try.underlying88 (.int .i64 0) 8 infoI rfl (by decide) (by decide) 0 rfl (fun _ hk => hk) trivial (by omega) (by omega) (Below.refl _ _) HB.out ?_))
  intro mv w1 hrm hb1 hg1 nb hnb1 hnb2
  have H1 : Hid (BuR w1 B bb (.slice A n cap) gv keep most ns gs ∧ (Kd.int .i64).R 3 w1 B (fun _ => True) mv (List.replicate n 0) ∧ Below B w w1) := by
    refine ⟨H.out.below ⟨hg1.os, hg1.tape, hg1.output, hg1.size, fun k hk => hg1.block k hk (by simp)⟩, hrm, hb1⟩
  clear hrm hb1 hg1 hnb1 hnb2 c0
  have c1 : w1.cell? ⟨bb, 0, none⟩ = some (.slice A n cap) := by rw [cellB H1.out.1.blk]; rfl
  go_wp2_with fail
  clear c1
  go_loopw [18] (fun iv wr => ∃ i : Nat, iv = .int .i64 i ∧ i ≤ n ∧ Hid (∃ ns' ms, BuR wr B bb (.slice A n cap) gv keep most ns' gs ∧ (Kd.int .i64).R 3 wr B (fun _ => True) mv ms ∧ Rg ns ns' ms n i ∧ Below B w wr)) (fun iv _ => n - (intOf iv).toNat)
  case atStart => exact ⟨0, rfl, Nat.zero_le _, ns, _, H1.out.1, H1.out.2.1, Rg.start HN.out, H1.out.2.2⟩
  case round =>
    obtain ⟨i, rfl, hi, HW⟩ := hrel
    obtain ⟨ns1, ms, hW⟩ := HW.out
    have HW1 := Lib.hid hW; clear hW HW
    by_cases hlt : i < n
    · have hki : (i : Int) < (n : Int) := by omega
      have hl1 : ns1.length = n := HW1.out.2.2.1.cut.1.trans HN.out
      obtain ⟨g, cap', hv, hBg, csg, hgb⟩ := HW1.out.1.form (by omega)
      rw [hl1] at hv
      obtain ⟨rfl, _, rfl⟩ := Value.slice.inj hv
      obtain ⟨mg, mc, hmv, hBm, hmlt, csm, hmb⟩ := Kd.R_form HW1.out.2.1 (by rw [HW1.out.2.2.1.ml]; omega)
      rw [HW1.out.2.2.1.ml] at hmv
      subst hmv
      have HG : Hid (B ≤ g ∧ B ≤ mg) := ⟨hBg, hBm⟩
      clear hv hgb hmb hBg hBm hmlt hl1
      go_wp2_with fail
      obtain ⟨wo, hwo⟩ : ∃ wo, wo = wr := ⟨_, rfl⟩
      subst hwo
      go_loopw [4] (fun kv wr => ∃ k : Int, kv = .int .i64 k ∧ Hid (∃ ms', BuR wr B bb (.slice (some ⟨g, 0, none⟩) n cap) gv keep most ns1 gs ∧ (Kd.int .i64).R 3 wr B (fun _ => True) (.slice (some ⟨mg, 0, none⟩) n mc) ms' ∧ Rw ns ns1 ms' n i k ∧ Below B w wr)) (fun kv wr => zcnt wr mg)
      case atStart => exact ⟨(i : Int), rfl, ms, HW1.out.1, HW1.out.2.1, HW1.out.2.2.1.walk hlt, HW1.out.2.2.2⟩
      case round =>
        obtain ⟨k, rfl, HY⟩ := hrel
        obtain ⟨ms1, hY⟩ := HY.out
        have HY1 := Lib.hid hY; clear hY HY
        rcases HY1.out.2.2.1.rk with rfl | ⟨hk0, hk1⟩
        · have c0 : wr.cell? ⟨bb, 0, none⟩ = some (.slice (some ⟨g, 0, none⟩) n cap) := by rw [cellB HY1.out.1.blk]; rfl
          go_wp2_with fail
          go_roundw
          case rel => exact ⟨i + 1, by go_num, by omega, ns1, ms1, HY1.out.1, HY1.out.2.1, HY1.out.2.2.1.ends (.inl rfl) hlt, HY1.out.2.2.2⟩
          case measure => simp [intOf]; omega
        obtain ⟨kn, rfl⟩ : ∃ kn : Nat, k = kn := ⟨k.toNat, by omega⟩
        have hkn : kn < n := by omega
        obtain ⟨x, hx⟩ : ∃ x, ms1[kn]? = some x := ⟨_, List.getElem?_eq_getElem (by rw [HY1.out.2.2.1.ml]; exact hkn)⟩
        obtain ⟨y, hy⟩ : ∃ y, ns1[kn]? = some y := ⟨_, List.getElem?_eq_getElem (by rw [HY1.out.2.2.1.cut.1, HN.out]; exact hkn)⟩
        have HXY := Lib.hid (And.intro hx hy); clear hx hy
        have fk : ((kn : Int) != -1) = true := by rw [bne_iff_ne]; omega
        have fk2 : ((kn : Int) == -1) = false := by rw [beq_eq_false_iff_ne]; omega
        obtain ⟨m0, m1⟩ := cellI HY1.out.2.1 HXY.out.1
        have c0 : wr.cell? ⟨bb, 0, none⟩ = some (.slice (some ⟨g, 0, none⟩) n cap) := by rw [cellB HY1.out.1.blk]; rfl
        by_cases hx0 : x = 0
        · subst hx0
          obtain ⟨ws, hws⟩ : ∃ ws, wr.setCell ⟨mg, kn, none⟩ (.int .i64 ((i : Int) + 1)) = ws := ⟨_, rfl⟩
          have HS : Hid (BuR ws B bb (.slice (some ⟨g, 0, none⟩) n cap) gv keep most ns1 gs ∧ (Kd.int .i64).R 3 ws B (fun _ => True) (.slice (some ⟨mg, 0, none⟩) n mc) (ms1.set kn ((i : Int) + 1)) ∧ Below B w ws ∧ zcnt ws mg < zcnt wr mg) := by
            obtain ⟨cur, hcur⟩ := blkI HY1.out.2.1
            rw [← hws]
            refine ⟨HY1.out.1.fr ((Fr.refl [mg] wr).setCell (p := ⟨mg, kn, none⟩) (.inl (by simp)) _) (fun q hq => ?_), putI HY1.out.2.1 kn _, HY1.out.2.2.2.setCell (p := ⟨mg, kn, none⟩) HG.out.2 _, ?_⟩
            · have : q = mg := by simpa using hq
              subst this
              exact .inr ⟨cur, _, hcur, by decide, by decide, by decide⟩
            · refine zcnt_set hcur ?_ (by omega)
              have := m0; rw [cellB hcur] at this; exact this
          have d0 : ws.cell? ⟨bb, 0, none⟩ = some (.slice (some ⟨g, 0, none⟩) n cap) := by rw [cellB HS.out.1.blk]; rfl
          obtain ⟨d1, _, _, _⟩ := HS.out.1.cellN HXY.out.2
          rw [← hws] at d0 d1
          have Hws := Lib.hid hws; clear hws
          go_wp2_with fail
          rw [Hws.out]
          go_roundw
          case rel =>
            refine ⟨y.par, rfl, ms1.set kn ((i : Int) + 1), HS.out.1, HS.out.2.1, ?_, HS.out.2.2.1⟩
            have h := HY1.out.2.2.1.step H0.out HN.out HXY.out.1
            rw [nx_pars HXY.out.2] at h
            exact h
          case measure => exact HS.out.2.2.2
        · have fx : (x == 0) = false := by rw [beq_eq_false_iff_ne]; exact hx0
          by_cases hx1 : x = (i : Int) + 1
          · subst hx1
            have fx1 : ((i : Int) + 1 != (i : Int) + 1) = false := by simp
            clear hx0
            obtain ⟨d1, _, _, _⟩ := HY1.out.1.cellN HXY.out.2
            have HR : Hid (Rch (pars ns1) (kn : Int) (kn : Int)) := (HY1.out.2.2.1.mk1 kn _ HXY.out.1).2.2.2 rfl
            have HPN : Hid (nx (pars ns1) (kn : Int) = y.par) := nx_pars HXY.out.2
            go_wp2_with fail
            obtain ⟨wq, hwq⟩ : ∃ wq, wq = wr := ⟨_, rfl⟩
            subst hwq
            have HI : Hid (InR (pars ns1) ∧ (pars ns1).length = n) := ⟨HY1.out.2.2.1.cut.cut.inR H0.out, by rw [pars_len, HY1.out.2.2.1.cut.1, HN.out]⟩
            go_loopw [5, 6] (fun cv mv wx => ∃ c m : Int, cv = .int .i64 c ∧ mv = .int .i64 m ∧ wx = wq ∧ Hid (Rr (pars ns1) kn c m)) (fun cv mv _ => dist (pars ns1) (kn : Int) (intOf mv))
            case atStart => exact ⟨(kn : Int), y.par, rfl, rfl, rfl, by rw [← HPN.out]; exact Lib.hid (Rr.start HR.out)⟩
            case round =>
              obtain ⟨c, m, rfl, rfl, rfl, HC⟩ := hrel
              obtain ⟨mn, rfl⟩ : ∃ mn : Nat, m = mn := ⟨m.toNat, by have := HC.out.pos; omega⟩
              obtain ⟨cn, rfl⟩ : ∃ cn : Nat, c = cn := ⟨c.toNat, by have := HC.out.pos; omega⟩
              have hmn : mn < n := by
                have := HC.out.rm.rng HI.out.1
                rw [HI.out.2] at this; omega
              have hcn : cn < n := by
                rcases HC.out.rc with e | e
                · omega
                · have := e.rng HI.out.1
                  rw [HI.out.2] at this; omega
              by_cases hmk : mn = kn
              · have fm : ((mn : Int) != (kn : Int)) = false := by rw [hmk]; simp
                have HD : Hid (RMin (pars ns1) (cn : Int)) := HC.out.done (by rw [hmk])
                obtain ⟨z, hz⟩ : ∃ z, ns1[cn]? = some z := ⟨_, List.getElem?_eq_getElem (by rw [HY1.out.2.2.1.cut.1, HN.out]; exact hcn)⟩
                have HZ := Lib.hid hz; clear hz hmk
                go_wp2_with fail
                refine (cut_c HY1.out.1 cn z HZ.out (by rw [HY1.out.2.2.1.cut.1]; exact HN.out) (by omega)).mono ?_
                rintro e w5 ⟨rfl, hb5, hf5⟩
                have H5 : Hid (BuR w5 B bb (.slice (some ⟨g, 0, none⟩) n cap) gv keep most (ns1.set cn (cutN z)) gs ∧ (Kd.int .i64).R 3 w5 B (fun _ => True) (.slice (some ⟨mg, 0, none⟩) n mc) ms1 ∧ Below B w w5) := by
                  refine ⟨hb5, R_frT HY1.out.2.1 hf5 (fun q hq => ?_), HY1.out.2.2.2.trans (hf5.belowB (Nat.le_trans HB.out HY1.out.2.2.2.size) (fun q hq => by simp at hq; rw [hq]; exact HG.out.1))⟩
                  have : q = g := by simpa using hq
                  subst this
                  obtain ⟨cells, hcc⟩ := Kd.R_typed HY1.out.1.rN q (by simp [Value.ownBlock])
                  exact .inr ⟨cells, _, hcc, fun t ht e => by simp [Kd.int, Kd.scalar] at ht; rw [ht] at e; exact absurd e (by decide)⟩
                clear hb5 hf5
                go_wp2_with fail
                go_roundw
                case rel => exact ⟨i + 1, by go_num, by omega, _, ms1, H5.out.1, H5.out.2.1, HY1.out.2.2.1.ring H0.out HN.out HXY.out.1 HD.out HC.out.rc HZ.out hlt, H5.out.2.2⟩
                case measure => simp [intOf]; omega
              · have fm : ((mn : Int) != (kn : Int)) = true := by rw [bne_iff_ne]; omega
                obtain ⟨z, hz⟩ : ∃ z, ns1[mn]? = some z := ⟨_, List.getElem?_eq_getElem (by rw [HY1.out.2.2.1.cut.1, HN.out]; exact hmn)⟩
                have HZ := Lib.hid hz; clear hz
                obtain ⟨z1, _, _, _⟩ := HY1.out.1.cellN HZ.out
                have HS2 : Hid (Rr (pars ns1) kn (min (cn : Int) (mn : Int)) z.par ∧ dist (pars ns1) kn z.par < dist (pars ns1) kn (mn : Int)) := by
                  have h1 := HC.out.step (by omega)
                  have h2 := (dist_lt HC.out.back (by omega : (mn : Int) ≠ (kn : Int))).2
                  rw [nx_pars HZ.out] at h1 h2
                  exact ⟨h1, h2⟩
                clear hmk
                go_wp2_with fail
                exact ⟨⟨_, _, rfl, rfl, trivial, HS2.out.1⟩, HS2.out.2⟩
          · have fx1 : (x != (i : Int) + 1) = true := by rw [bne_iff_ne]; exact hx1
            have HX0 := Lib.hid (And.intro hx0 hx1); clear hx0 hx1
            go_wp2_with fail
            go_roundw
            case rel => exact ⟨i + 1, by go_num, by omega, ns1, ms1, HY1.out.1, HY1.out.2.1, HY1.out.2.2.1.ends (.inr ⟨kn, x, rfl, HXY.out.1, HX0.out.1, HX0.out.2⟩) hlt, HY1.out.2.2.2⟩
            case measure => simp [intOf]; omega
    · have hin : i = n := by omega
      subst hin
      go_wp2_with fail
      go_end0
      exact ⟨rfl, ns1, HW1.out.1, HW1.out.2.2.1.cut, HW1.out.2.2.1.done HN.out, HW1.out.2.2.2⟩
end Go.Proofs.Ytamcchdblglfoaa.Ft
