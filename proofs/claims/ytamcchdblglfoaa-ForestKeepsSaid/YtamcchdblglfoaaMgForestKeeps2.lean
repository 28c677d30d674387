/- How an argument that is read as data lies in memory, kind by kind (the kinds of the print's words). No program. -/
import Derived.Test.YtamcchdblglfoaaMgForestKeeps1
import Derived.Test.YtamcchdblglfoaaWWords
import Derived.ProofKit
import Derived.OpenShut
import Derived.Lib.SmallJoins
set_option linter.unusedVariables false
set_option linter.unusedSimpArgs false
namespace Go.Proofs.Ytamcchdblglfoaa.B0
open Go.RowKit Go.Proofs.YtamcchdblglfoaaW.PrintWords

/-- What reads at type t is of kind d, and W holds of it. -/
def OpK {α : Type} (P : Program) (t : TypeId) (d : Kd α) (W : α → Prop) : Prop :=
  ∀ (H : Type) (enc : TypeId × Value → H) (w : World) (base : Nat) (spare : Nat → Bool) (held : Bool) (fuel : Nat) (cs : List Value) (x : DataW H × List MemPlace),
    DataW.trod enc P w base spare held fuel t cs = some x → ∃ y, d.K w y cs ∧ W y

theorem OpK.int {P : Program} {t : TypeId} {k : IntKind} (ht : P.underlying t = some (.int k)) : OpK P t (Kd.int k) (fun n => (Lit.int k n).wf = true) := by
  intro H enc w base spare held fuel cs x h
  obtain ⟨n, rfl, _, hw⟩ := DataW.trod_int ht h
  exact ⟨n, rfl, hw⟩
theorem OpK.bool {P : Program} {t : TypeId} (ht : P.underlying t = some .bool) : OpK P t Kd.bool (fun _ => True) := by
  intro H enc w base spare held fuel cs x h
  obtain ⟨n, rfl, _⟩ := DataW.trod_bool ht h
  exact ⟨n, rfl, trivial⟩
theorem OpK.string {P : Program} {t : TypeId} (ht : P.underlying t = some .string) : OpK P t Kd.string (fun s => s.size ≤ maxLen) := by
  intro H enc w base spare held fuel cs x h
  obtain ⟨n, rfl, _, hw⟩ := DataW.trod_string ht h
  exact ⟨n, rfl, hw⟩

theorem cellsq {w : World} {base : Nat} {a : Addr} {n : Nat} {cs : List Value} (h : w.cells? base a n = some cs) : cs.length = n ∧ ∀ i u, cs[i]? = some u → w.cell? (a.add i) = some u := by
  unfold World.cells? at h
  split at h
  · refine ⟨by simpa using mapM_some_length h, fun i u hu => ?_⟩
    have hi : i < n := by
      have := (List.getElem?_eq_some_iff.1 hu).1
      have := mapM_some_length h
      simp at this; omega
    have := mapM_some_get h i i (by simp [hi])
    rw [this]; exact hu
  · cases h

theorem add_add (a : Addr) (m n : Nat) : (a.add m).add n = a.add (m + n) := by
  unfold Addr.add
  by_cases h1 : m = 0
  · subst h1; simp
  · by_cases h2 : n = 0
    · subst h2; simp [h1]
    · simp [h1, h2, Nat.add_assoc]

theorem OpK.slice {P : Program} {t e : TypeId} {α : Type} {d : Kd α} {W : α → Prop} (ht : P.underlying t = some (.slice e)) (hc : P.cellsOf e = d.sz) (hd : OpK P e d W) : OpK P t (Kd.slice e d) (fun l => l.length ≤ maxLen ∧ ∀ x ∈ l, W x) := by
  intro H enc w base spare held fuel cs x h
  rcases DataW.trod_slice ht h with ⟨rfl, _⟩ | ⟨a, len, cap, elems, rest, n, _, rfl, _, hb, hl, hm, hlen, hel, _, _⟩
  · exact ⟨[], ⟨none, 0, rfl, Nat.le_refl _, by simp, by simp, fun hh => by simp at hh⟩, by simp [maxLen], by simp⟩
  · have hone : ∀ i, i < len → ∃ y : α, (∃ c, c.length = d.sz ∧ d.K w y c ∧ ∀ j u, c[j]? = some u → w.cell? (a.add (i * d.sz + j)) = some u) ∧ W y := by
      intro i hi
      have h1 := hel i hi
      rw [hc] at h1
      obtain ⟨ex, hex⟩ : ∃ ex, elems[i]? = some ex := ⟨_, List.getElem?_eq_getElem (by omega)⟩
      rw [hex, Option.bind_eq_some_iff] at h1
      obtain ⟨c, h2, h3⟩ := h1
      obtain ⟨y, hy, hw⟩ := hd H enc w base spare held n c ex h3
      obtain ⟨h4, h5⟩ := cellsq h2
      exact ⟨y, ⟨c, h4, hy, fun j u hu => by rw [← add_add]; exact h5 j u hu⟩, hw⟩
    have hall : ∀ m, m ≤ len → ∃ ys : List α, ys.length = m ∧ ∀ i y, ys[i]? = some y → (∃ c, c.length = d.sz ∧ d.K w y c ∧ ∀ j u, c[j]? = some u → w.cell? (a.add (i * d.sz + j)) = some u) ∧ W y := by
      intro m
      induction m with
      | zero => intro _; exact ⟨[], rfl, fun i y hy => by simp at hy⟩
      | succ m ih =>
        intro hm
        obtain ⟨ys, e1, e2⟩ := ih (by omega)
        obtain ⟨y, hy⟩ := hone m (by omega)
        refine ⟨ys ++ [y], by simp [e1], fun i z hz => ?_⟩
        by_cases hi : i < ys.length
        · rw [List.getElem?_append_left hi] at hz; exact e2 i z hz
        · rw [List.getElem?_append_right (by omega)] at hz
          have : i = m := by have := (List.getElem?_eq_some_iff.1 hz).1; simp at this; omega
          subst this
          have : y = z := by rw [e1] at hz; simpa using hz
          subst this
          exact hy
    obtain ⟨ys, e1, e2⟩ := hall len (Nat.le_refl _)
    refine ⟨ys, ⟨some a, cap, by rw [e1], by omega, by rw [e1], ?_, fun _ => ⟨a, rfl, fun j p hj => (e2 j p hj).1⟩⟩, by show ys.length ≤ maxLen; omega, fun x hx => ?_⟩
    · have : len ≤ maxLen := by omega
      rw [e1]; unfold maxLen at this; exact this
    · obtain ⟨i, hi⟩ := List.mem_iff_getElem?.1 hx
      exact (e2 i x hi).2

theorem OpK.mono {P : Program} {t : TypeId} {α : Type} {d : Kd α} {W W' : α → Prop} (h : OpK P t d W) (hw : ∀ x, W x → W' x) : OpK P t d W' := by
  intro H enc w base spare held fuel cs x hx
  obtain ⟨y, h1, h2⟩ := h H enc w base spare held fuel cs x hx
  exact ⟨y, h1, hw y h2⟩

/-- a struct's cells, one field behind the other. -/
theorem OpK.field {P : Program} {H : Type} {enc : TypeId × Value → H} {w : World} {base : Nat} {spare : Nat → Bool} {held : Bool} {n : Nat} {cs : List Value} {xs : List (DataW H × List MemPlace)} {fs : Array Field} {α : Type} {d : Kd α} {W : α → Prop}
    (hl : xs.length = fs.size) (hf : ∀ (i : Nat) (f : Field), fs[i]? = some f → DataW.trod enc P w base spare held n f.type ((cs.drop f.offset).take (P.cellsOf f.type)) = xs[i]?)
    (i : Nat) (f : Field) (h : fs[i]? = some f) (ft off sz : Nat) (ht : f.type = ft) (ho : f.offset = off) (hs : P.cellsOf ft = sz) (hd : OpK P ft d W) : ∃ y, d.K w y ((cs.drop off).take sz) ∧ W y := by
  subst ht ho hs
  have h1 := hf i f h
  obtain ⟨ex, hex⟩ : ∃ ex, xs[i]? = some ex := ⟨_, List.getElem?_eq_getElem (by rw [hl]; exact (Array.getElem?_eq_some_iff.1 h).1)⟩
  rw [hex] at h1
  exact hd H enc w base spare held n _ ex h1
theorem wf_u8 {a : Int} (h : (Lit.int .u8 a).wf = true) : 0 ≤ a ∧ a ≤ 255 := Go.bounds_u8 h
theorem wf_u64 {a : Int} (h : (Lit.int .u64 a).wf = true) : 0 ≤ a ∧ a ≤ 18446744073709551615 := Go.bounds_u64 h
theorem wf_i64 {a : Int} (h : (Lit.int .i64 a).wf = true) : -9223372036854775808 ≤ a ∧ a ≤ 9223372036854775807 := Go.bounds_i64 h
theorem split_at {α : Type} (o s : Nat) (cs : List α) : cs.drop o = (cs.drop o).take s ++ cs.drop (o + s) := by rw [← List.drop_drop, List.take_append_drop]

theorem C_int {k : IntKind} {w : World} {A : Option Addr} {xs : List Int} (h : Kd.C (Kd.int k) w A xs.length xs) (i : Nat) (hi : i < xs.length) : ∃ ad, A = some ad ∧ w.cell? (ad.add i) = some (.int k (xs.getD i 0)) := by
  obtain ⟨ad, e, hc⟩ := h.2.2 (by omega)
  obtain ⟨c, hs, hr, hcell⟩ := hc i _ (List.getElem?_eq_getElem hi)
  have hr' : c = [.int k xs[i]] := hr
  subst hr'
  refine ⟨ad, e, ?_⟩
  have := hcell 0 _ rfl
  simpa [Kd.int, Kd.scalar, hi] using this
end Go.Proofs.Ytamcchdblglfoaa.B0
