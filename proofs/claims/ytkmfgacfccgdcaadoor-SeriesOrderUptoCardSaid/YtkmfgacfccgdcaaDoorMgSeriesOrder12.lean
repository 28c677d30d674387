/- slices.SortFunc at elements of one cell, said over lists: what the caller pays, what it gets. No program. -/
import Derived.Test.YtkmfgacfccgdcaaDoorMgSeriesOrder1
import Derived.Shelf.SlSortCmp.Whole1
set_option linter.unusedVariables false
set_option linter.unusedSimpArgs false
namespace Go.Proofs.YtkmfgacfccgdcaaDoor.B0
open Go.Shelf Go.RowKit Go.Lib Go.Sort

theorem fr_mapBlock (w : World) (g : Nat) (f : Array Value → Array Value) : Fr [g] w (mapBlock w g f) :=
  ⟨rfl, rfl, rfl, by simp [mapBlock], fun k hk hn => by
    have : g ≠ k := fun e => hn (by simp [e])
    simp [mapBlock, Array.getElem?_modify, this]⟩
theorem fr_grow {F : List Nat} {a w : World} (h : Fr F a w) (os : Array Obj) : Fr F a (grow w os) :=
  ⟨h.os, h.tape, h.output, by have := h.size; simp only [size_grow]; omega, fun k hk hn => by
    have := h.size
    rw [heap_grow_old w os (by omega)]; exact h.block k hk hn⟩
theorem fr_sortWorld {α : Type} [Inhabited α] (enc : α → Value) (w : World) (g off m : Nat) (d : Array α) (os : Array Obj) : Fr [g] w (sortWorld enc w g off m d os) := by
  unfold sortWorld putRow
  exact fr_grow (((Fr.refl [g] w).drewN m).trans (fr_mapBlock _ _ _)) _

section
variable {P : Program} {ρ : Ren} {β : Type}

theorem sort_list (L : SlLaysF.n6 P ρ) (enc : β → Value) (h1 : ∀ x, (enc x).oneCell' = true) (cf : β → β → Int) (X : List β) (hX : X ≠ [])
    (hirr : ∀ x, x ∈ X → ¬ cf x x < 0) (htr : ∀ x y z, x ∈ X → y ∈ X → z ∈ X → cf x y < 0 → cf y z < 0 → cf x z < 0) (hntr : ∀ x y z, x ∈ X → y ∈ X → z ∈ X → ¬ cf x y < 0 → ¬ cf y z < 0 → ¬ cf x z < 0)
    (f g cap : Nat) (cb : Array Value) (w : World) (eg : ∀ args w, (callFunc f args).run P w = .ok (.enter f args) w)
    (hcmp : ∀ W : World, Fr [g] w W → ∀ x y, x ∈ X → y ∈ X → Calls P f (#[enc x, enc y] ++ cb) W fun e w' => e = .returned (.int .i64 (cf x y)) ∧ ∃ q os, w' = grow (W.drewN q) os)
    (hrow : ∀ i x, X[i]? = some x → w.cell? ⟨g, i, none⟩ = some (enc x) ∧ w.frozen? ⟨g, i, none⟩ = false) (hsz : X.length < 1000000000000) :
    Calls P (ρ.f 6) #[.slice (some ⟨g, 0, none⟩) X.length cap, .func (.func f) #[] cb] w fun e w' =>
      e = .returned (.tuple #[]) ∧ ∃ X' : List β, X'.Perm X ∧ X'.Pairwise (fun a b => ¬ cf b a < 0) ∧ (∀ i x, X'[i]? = some x → w'.cell? ⟨g, i, none⟩ = some (enc x) ∧ w'.frozen? ⟨g, i, none⟩ = false) ∧ Fr [g] w w' := by
  obtain ⟨x0, hx0⟩ := List.exists_mem_of_ne_nil X hX
  haveI : Inhabited {x // x ∈ X} := ⟨⟨x0, hx0⟩⟩
  let enc' : {x // x ∈ X} → Value := fun x => enc x.1
  let cf' : {x // x ∈ X} → {x // x ∈ X} → Int := fun x y => cf x.1 y.1
  let d : Array {x // x ∈ X} := X.attach.toArray
  have hd : d.size = X.length := by simp [d]
  have hO : SWO (ltOf cf') := by
    refine ⟨fun x => ?_, fun x y z a b => ?_, fun x y z a b => ?_⟩
    · have := hirr x.1 x.2; simpa [ltOf, cf'] using this
    · have := htr x.1 y.1 z.1 x.2 y.2 z.2; simp only [ltOf, cf', decide_eq_true_eq] at *; exact this a b
    · have := hntr x.1 y.1 z.1 x.2 y.2 z.2; simp only [ltOf, cf', decide_eq_false_iff_not] at *; exact this a b
  have hH : Holds enc' w g 0 d := by
    intro j hj
    rw [hd] at hj
    have e : d[j]! = ⟨X[j], List.getElem_mem hj⟩ := by
      rw [getElem!_pos d j (by rw [hd]; exact hj)]
      simp [d]
    rw [e, Nat.zero_add]
    exact hrow j X[j] (List.getElem?_eq_getElem hj)
  have hblk : g < w.heap.size := by
    have h0 : 0 < X.length := List.length_pos_iff.2 hX
    exact World.block_lt_of_cell? w _ (hrow 0 X[0] (List.getElem?_eq_getElem h0)).1
  have hC : CmpLays1 P f cb enc' cf' g 0 d.size w := fun m os dk hs x y => hcmp _ (fr_sortWorld enc' w g 0 m dk os) x.1 y.1 x.2 y.2
  have hcon := Any.slices_SortFunc L enc' (fun x => h1 x.1) cf' hO f cb g 0 cap d w eg hC hH hblk (by omega)
  rw [hd] at hcon
  refine hcon.mono ?_
  rintro e w' ⟨he, d', n, os, hp, hso, rfl⟩
  obtain ⟨hps, _, hpp⟩ := hp
  have hall : ∀ a : Array {x // x ∈ X}, a.size = X.length → a.extract 0 X.length = a := fun a ha => by rw [← ha]; simp
  rw [hall d' (by rw [hps, hd]), hall d hd] at hpp
  have hs' : d'.size = X.length := by rw [hps, hd]
  have hget : ∀ i x, (d'.toList.map Subtype.val)[i]? = some x → ∃ (h : i < d'.size), x = (d'[i]!).1 := fun i x hx => by
    rw [List.getElem?_map, Option.map_eq_some_iff] at hx
    obtain ⟨y, hy, rfl⟩ := hx
    have hi : i < d'.size := by simpa using (List.getElem?_eq_some_iff.1 hy).1
    refine ⟨hi, ?_⟩
    rw [getElem!_pos d' i hi]
    congr 1
    have := (List.getElem?_eq_some_iff.1 hy).2
    simpa using this.symm
  refine ⟨he, d'.toList.map Subtype.val, ?_, ?_, ?_, fr_sortWorld enc' w g 0 n d' os⟩
  · have := hpp.map Subtype.val
    simpa [d] using this
  · rw [List.pairwise_iff_getElem]
    intro i j hi hj hij
    simp only [List.length_map, Array.length_toList] at hi hj
    have := hso i j (Nat.zero_le _) hij (by omega)
    simp only [ltOf, cf', decide_eq_false_iff_not] at this
    simpa [getElem!_pos d' i hi, getElem!_pos d' j hj] using this
  · intro i x hx
    obtain ⟨hi, rfl⟩ := hget i x hx
    have hh := holds_grow enc' (putRow enc' (Sort.ahead w n) g 0 d') os g 0 d' (by simpa [putRow, mapBlock, Sort.ahead] using hblk) (holds_putRow enc' (Sort.ahead w n) g 0 d d' hH hps) i hi
    rw [Nat.zero_add] at hh
    exact hh
end
end Go.Proofs.YtkmfgacfccgdcaaDoor.B0
