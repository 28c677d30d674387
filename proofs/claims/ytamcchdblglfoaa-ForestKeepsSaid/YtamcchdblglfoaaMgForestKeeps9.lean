/- forest: slices.SortFunc at spans, slices.SortedFunc, as Calls. -/
import Derived.Test.YtamcchdblglfoaaMgForestKeeps7
import Derived.Test.YtamcchdblglfoaaMgForestKeeps8
import Derived.Shelf.SlSortCmp.WholeK
set_option linter.unusedVariables false
set_option linter.unusedSimpArgs false
namespace Go.Proofs.Ytamcchdblglfoaa.Ft
open Go.Shelf Go.RowKit Go.Lib Go.Sort Go.Proofs.Ytamcchdblglfoaa.B0 Go.Proofs.Ytamcchdblglfoaa.Pf Go.Proofs.YtamcchdblglfoaaW.PrintWords

theorem fr_mapBlock (w : World) (g : Nat) (f : Array Value → Array Value) : Fr [g] w (mapBlock w g f) :=
  ⟨rfl, rfl, rfl, by simp [mapBlock], fun k hk hn => by
    have : g ≠ k := fun e => hn (by simp [e])
    simp [mapBlock, Array.getElem?_modify, this]⟩
theorem fr_grow {F : List Nat} {a w : World} (h : Fr F a w) (os : Array Obj) : Fr F a (grow w os) :=
  ⟨h.os, h.tape, h.output, by have := h.size; simp only [size_grow]; omega, fun k hk hn => by
    have := h.size
    rw [heap_grow_old w os (by omega)]; exact h.block k hk hn⟩
theorem fr_sortWorldK {α : Type} [Inhabited α] (enc : α → List Value) (k : Nat) (w : World) (g off m : Nat) (d : Array α) (os : Array Obj) : Fr [g] w (sortWorldK enc k w g off m d os) := by
  unfold sortWorldK putRowK putRow
  exact fr_grow (((Fr.refl [g] w).drewN m).trans (fr_mapBlock _ _ _)) _
theorem grow_of_DB {w w' : World} (h : DB w w') : ∃ q os, w' = grow (w.drewN q) os := by
  refine ⟨w'.drawn - w.drawn, w'.heap.extract w.heap.size w'.heap.size, ?_⟩
  have hh : w'.heap = w.heap ++ w'.heap.extract w.heap.size w'.heap.size := by
    apply Array.ext_getElem?
    intro i
    rw [Array.getElem?_append]
    by_cases hi : i < w.heap.size
    · rw [if_pos hi]; exact h.below.block i hi
    · rw [if_neg hi]
      have := h.below.size
      rw [Array.getElem?_extract]
      by_cases h2 : i < w'.heap.size
      · rw [if_pos (by omega)]; congr 1; omega
      · rw [if_neg (by omega)]; exact Array.getElem?_eq_none (by omega)
  have h1 := h.below.os; have h2 := h.below.tape; have h3 := h.below.output; have h4 := h.dr
  cases w; cases w'
  simp only [grow, World.drewN] at *
  subst h1 h2 h3
  rw [← hh]
  congr 1
  omega
instance : Inhabited PS := ⟨⟨z44, none, 0⟩⟩
def AttP (w : World) (p : PS) : Prop := Kd.C k123 w p.A p.s.f9.length p.s.f9 ∧ p.s.f9.length ≤ p.c
theorem AttP.below {w w' : World} {p : PS} (h : AttP w p) (hb : Below w.heap.size w w') : AttP w' p := ⟨Kd.C_below h.1 hb, h.2⟩
theorem below_of_fr {w0 w w' : World} {g : Nat} (hb : Below w0.heap.size w0 w) (hg : w0.heap.size ≤ g) (hf : Fr [g] w w') : Below w0.heap.size w0 w' :=
  hb.trans (hf.belowB hb.size (fun k hk => by simp at hk; omega))

theorem sort_ps {w0 w : World} (hb : Below w0.heap.size w0 w) (g cap : Nat) (hg : w0.heap.size ≤ g) (X : List PS) (hX : X ≠ []) (hatt : ∀ x ∈ X, AttP w0 x) (cur : Array Value) (hcur : w.heap[g]? = some (.cells cur 44 (0, 0)))
    (hlen : cur.toList.take (X.length * 10) = cells X) (hn : X.length ≤ 1000000) :
    Calls Try.prog 92 #[.slice (some ⟨g, 0, none⟩) X.length cap, .func (.func 23) #[] #[]] w fun e w' => e = .returned (.tuple #[]) ∧ ∃ X' : List PS, X'.Perm X ∧ X'.Pairwise (fun a b => cmpSp a.s b.s ≤ 0) ∧ RowP w' (some ⟨g, 0, none⟩) X' ∧ Below w0.heap.size w0 w' := by
  obtain ⟨x0, hx0⟩ := List.exists_mem_of_ne_nil X hX
  haveI : Inhabited {x // x ∈ X} := ⟨⟨x0, hx0⟩⟩
  let enc' : {x // x ∈ X} → List Value := fun x => csP x.1
  let cf' : {x // x ∈ X} → {x // x ∈ X} → Int := fun x y => cmpSp x.1.s y.1.s
  let d : Array {x // x ∈ X} := X.attach.toArray
  have hd : d.size = X.length := by simp [d]
  have hO : SWO (ltOf cf') := by
    refine ⟨fun x => ?_, fun x y z a b => ?_, fun x y z a b => ?_⟩
    · have := codeSp.self x.1.s; simp [ltOf, cf', this]
    · simp only [ltOf, cf', decide_eq_true_eq] at *; exact codeSp.lt_trans a b
    · simp only [ltOf, cf', decide_eq_false_iff_not] at *
      intro h
      have h1 := codeSp.neg x.1.s y.1.s; have h2 := codeSp.neg y.1.s z.1.s; have h3 := codeSp.neg x.1.s z.1.s
      have := codeSp.le_trans (x := z.1.s) (y := y.1.s) (z := x.1.s) (by omega) (by omega)
      omega
  have hget : ∀ (j : Nat) (h : j < X.length), (d[j]!).1 = X[j] := fun j h => by
    rw [getElem!_pos d j (by rw [hd]; exact h)]; simp [d]
  have hH : HoldsK enc' 10 w g 0 d := by
    intro t ht
    rw [size_flatK] at ht
    rw [get_flatK _ _ _ t ht]
    have hq : t / 10 < X.length := by rw [hd] at ht; omega
    have e1 : enc' d[t / 10]! = csP X[t / 10] := by show csP _ = _; rw [hget _ hq]
    rw [e1, Nat.zero_add]
    refine ⟨?_, frozenB hcur t⟩
    have h2 := congrArg (fun l => l[t]?) hlen
    simp only [List.getElem?_take] at h2
    rw [if_pos (by rw [hd] at ht; omega)] at h2
    have h3 := cells_at X (t / 10) (t % 10) X[t / 10] (List.getElem?_eq_getElem hq) (Nat.mod_lt _ (by omega))
    rw [show t / 10 * 10 + t % 10 = t from by omega] at h3
    rw [cellB hcur]
    have h4 : cur[t]? = cur.toList[t]? := by simp
    rw [h4, h2, h3, getElem!_pos (csP X[t / 10]) (t % 10) (by rw [csP_len]; exact Nat.mod_lt _ (by omega))]
    exact List.getElem?_eq_getElem _
  have hblk : g < w.heap.size := lt_of_get hcur
  have hC : CmpLays Try.prog 23 #[] enc' 10 cf' g 0 d.size w := fun m os dk hs x y => by
    have hB : Below w0.heap.size w0 (sortWorldK enc' 10 w g 0 m dk os) := below_of_fr hb hg (fr_sortWorldK enc' 10 w g 0 m dk os)
    exact (SCmp_c x.1.s y.1.s x.1.A y.1.A x.1.c y.1.c _ (Kd.C_below (hatt x.1 x.2).1 hB) (Kd.C_below (hatt y.1 y.2).1 hB)).mono fun e w' h => ⟨h.1, grow_of_DB h.2⟩
  have eg : ∀ args w, (callFunc 23 args).run Try.prog w = .ok (.enter 23 args) w := enters_of Try.func23 (by kernel_rfl) rfl
  have hcon := AnyQ.slices_SortFunc Try.layQ 10 Try.isAgg44 Try.sizeOf44 enc' (fun x => rfl) (fun x => csP_one x.1) cf' hO 23 #[] g 0 cap d w eg hC hH hblk (by omega)
  rw [hd] at hcon
  refine hcon.mono ?_
  rintro e w' ⟨he, d', n, os, hp, hso, rfl⟩
  obtain ⟨hps, _, hpp⟩ := hp
  have hall : ∀ a : Array {x // x ∈ X}, a.size = X.length → a.extract 0 X.length = a := fun a ha => by rw [← ha]; simp
  rw [hall d' (by rw [hps, hd]), hall d hd] at hpp
  have hs' : d'.size = X.length := by rw [hps, hd]
  refine ⟨he, d'.toList.map Subtype.val, ?_, ?_, ?_, below_of_fr hb hg (fr_sortWorldK enc' 10 w g 0 n d' os)⟩
  · have := hpp.map Subtype.val
    simpa [d] using this
  · rw [List.pairwise_iff_getElem]
    intro i j hi hj hij
    simp only [List.length_map, Array.length_toList] at hi hj
    have := hso i j (Nat.zero_le _) hij (by omega)
    simp only [ltOf, cf', decide_eq_false_iff_not] at this
    have h3 := codeSp.neg (d'[i]!).1.s (d'[j]!).1.s
    have h4 : cmpSp (d'[i]!).1.s (d'[j]!).1.s ≤ 0 := by omega
    simpa [getElem!_pos d' i hi, getElem!_pos d' j hj] using h4
  · intro i p hi
    rw [List.getElem?_map, Option.map_eq_some_iff] at hi
    obtain ⟨y, hy, rfl⟩ := hi
    have hil : i < d'.size := by simpa using (List.getElem?_eq_some_iff.1 hy).1
    have hy2 : d'[i]! = y := by
      rw [getElem!_pos d' i hil]
      have := (List.getElem?_eq_some_iff.1 hy).2
      simpa using this
    refine ⟨_, rfl, fun j u hu => ?_⟩
    have hj : j < 10 := by have := (List.getElem?_eq_some_iff.1 hu).1; rw [csP_len] at this; exact this
    have hh := holdsK_sortWorldK_c enc' 10 w g 0 d d' n os hH hblk hps
    have hc := (HoldsK.cell hh hil hj).1
    rw [hy2, Nat.zero_add] at hc
    rw [add_plain]
    rw [hc]
    obtain ⟨h1, h2⟩ := List.getElem?_eq_some_iff.1 hu
    rw [getElem!_pos (enc' y) j h1]
    exact congrArg some h2
end Go.Proofs.Ytamcchdblglfoaa.Ft
