/- How an argument that is read as data lies in memory, where what it holds is of bulk at most 1048576 (for a statement up to a size): every string and every row is then that small. -/
import Derived.Test.YtdbmcikoiilanaaDoorRows
import Derived.Test.YtdbmcikoiilanaaDoorMgExpoNames2
set_option linter.unusedVariables false
set_option linter.unusedSimpArgs false
namespace Go.Proofs.YtdbmcikoiilanaaDoor.B0
open Go.RowKit Go.Proofs.YtdbmcikoiilanaaDoorW.PrintWords

/-- What reads at type t and is small is of kind d, and W holds of it. -/
def OpB {α : Type} (P : Program) (t : TypeId) (d : Kd α) (W : α → Prop) : Prop :=
  ∀ (H : Type) (enc : TypeId × Value → H) (w : World) (base : Nat) (spare : Nat → Bool) (held : Bool) (fuel : Nat) (cs : List Value) (x : DataW H × List MemPlace),
    DataW.trod enc P w base spare held fuel t cs = some x → Rows.uptoBulk x.1 ≤ 1048576 → ∃ y, d.K w y cs ∧ W y

theorem OpB.of {P : Program} {t : TypeId} {α : Type} {d : Kd α} {W : α → Prop} (h : OpK P t d W) : OpB P t d W :=
  fun H enc w base spare held fuel cs x hx _ => h H enc w base spare held fuel cs x hx
theorem OpB.string {P : Program} {t : TypeId} (ht : P.underlying t = some .string) : OpB P t Kd.string (fun s => s.size ≤ 1048576) := by
  intro H enc w base spare held fuel cs x h hb
  obtain ⟨n, rfl, rfl, hw⟩ := DataW.trod_string ht h
  refine ⟨n, rfl, ?_⟩
  have : n.data.toList.length = n.size := by rw [Array.length_toList]; rfl
  simp only [Rows.uptoBulk] at hb; omega
theorem bulk_pos {H : Type} (d : DataW H) : 1 ≤ Rows.uptoBulk d := by
  cases d with
  | lit l => cases l <;> simp [Rows.uptoBulk]
  | _ => simp [Rows.uptoBulk]
theorem bulk_mem {H : Type} : ∀ (l : List (DataW H × List MemPlace)) (i : Nat) (x : DataW H × List MemPlace), l[i]? = some x → Rows.uptoBulk x.1 ≤ Rows.uptoBulkAll (l.map (·.1))
  | [], i, x, h => by simp at h
  | y :: l, 0, x, h => by
    obtain rfl := Option.some.inj h
    simp only [List.map_cons, Rows.uptoBulkAll]; omega
  | y :: l, i + 1, x, h => by
    have := bulk_mem l i x (by simpa using h)
    simp only [List.map_cons, Rows.uptoBulkAll]; omega
theorem bulk_len {H : Type} : ∀ (l : List (DataW H × List MemPlace)), l.length ≤ Rows.uptoBulkAll (l.map (·.1))
  | [] => by simp
  | y :: l => by
    have h1 := bulk_len l
    have h2 := bulk_pos y.1
    simp only [List.map_cons, Rows.uptoBulkAll, List.length_cons]; omega
theorem OpB.slice {P : Program} {t e : TypeId} {α : Type} {d : Kd α} {W : α → Prop} (ht : P.underlying t = some (.slice e)) (hc : P.cellsOf e = d.sz) (hd : OpB P e d W) : OpB P t (Kd.slice e d) (fun l => l.length ≤ 1048576 ∧ ∀ x ∈ l, W x) := by
  intro H enc w base spare held fuel cs x h hbk
  rcases DataW.trod_slice ht h with ⟨rfl, _⟩ | ⟨a, len, cap, elems, rest, n, _, rfl, rfl, hb, hl, hm, hlen, hel, _, _⟩
  · exact ⟨[], ⟨none, 0, rfl, Nat.le_refl _, by simp, by simp, fun hh => by simp at hh⟩, by simp, by simp⟩
  · have hbk2 : Rows.uptoBulkAll (elems.map (·.1)) ≤ 1048576 := by simp only [Rows.uptoBulk] at hbk; omega
    have hone : ∀ i, i < len → ∃ y : α, (∃ c, c.length = d.sz ∧ d.K w y c ∧ ∀ j u, c[j]? = some u → w.cell? (a.add (i * d.sz + j)) = some u) ∧ W y := by
      intro i hi
      have h1 := hel i hi
      rw [hc] at h1
      obtain ⟨ex, hex⟩ : ∃ ex, elems[i]? = some ex := ⟨_, List.getElem?_eq_getElem (by omega)⟩
      have hmm := bulk_mem elems i ex hex
      rw [hex, Option.bind_eq_some_iff] at h1
      obtain ⟨c, h2, h3⟩ := h1
      obtain ⟨y, hy, hw⟩ := hd H enc w base spare held n c ex h3 (by omega)
      obtain ⟨h4, h5⟩ := cellsq h2
      exact ⟨y, ⟨c, h4, hy, fun j u hu => by rw [← add_add]; exact h5 j u hu⟩, hw⟩
    have hall : ∀ m, m ≤ len → ∃ ys : List α, ys.length = m ∧ ∀ i y, ys[i]? = some y → (∃ c, c.length = d.sz ∧ d.K w y c ∧ ∀ j u, c[j]? = some u → w.cell? (a.add (i * d.sz + j)) = some u) ∧ W y := by
      intro m
      induction m with
      | zero => intro _; exact ⟨[], rfl, fun i y hy => by simp at hy⟩
      | succ m ih =>
        intro hm
        obtain ⟨ys, e1, e2⟩ := ih (by omega)
        obtain ⟨y, hy⟩ := hone m (by omega)
        refine ⟨ys ++ [y], by simp [e1], fun i z hz => ?_⟩
        by_cases hi : i < ys.length
        · rw [List.getElem?_append_left hi] at hz; exact e2 i z hz
        · rw [List.getElem?_append_right (by omega)] at hz
          have : i = m := by have := (List.getElem?_eq_some_iff.1 hz).1; simp at this; omega
          subst this
          have : y = z := by rw [e1] at hz; simpa using hz
          subst this
          exact hy
    obtain ⟨ys, e1, e2⟩ := hall len (Nat.le_refl _)
    have hll := bulk_len elems
    refine ⟨ys, ⟨some a, cap, by rw [e1], by omega, by rw [e1], ?_, fun _ => ⟨a, rfl, fun j p hj => by obtain ⟨h, _⟩ := e2 j p hj; exact h⟩⟩, ⟨by omega, fun x hx => ?_⟩⟩
    · have : len ≤ maxLen := by omega
      rw [e1]; unfold maxLen at this; exact this
    · obtain ⟨i, hi⟩ := List.mem_iff_getElem?.1 hx
      obtain ⟨_, h⟩ := e2 i x hi
      exact h
/-- a struct's fields. -/
theorem OpB.field {P : Program} {H : Type} {enc : TypeId × Value → H} {w : World} {base : Nat} {spare : Nat → Bool} {held : Bool} {n : Nat} {cs : List Value} {xs : List (DataW H × List MemPlace)} {fs : Array Field} {α : Type} {d : Kd α} {W : α → Prop}
    (hl : xs.length = fs.size) (hb : Rows.uptoBulkAll (xs.map (·.1)) ≤ 1048576) (hf : ∀ (i : Nat) (f : Field), fs[i]? = some f → DataW.trod enc P w base spare held n f.type ((cs.drop f.offset).take (P.cellsOf f.type)) = xs[i]?)
    (i : Nat) (f : Field) (h : fs[i]? = some f) (ft off sz : Nat) (ht : f.type = ft) (ho : f.offset = off) (hs : P.cellsOf ft = sz) (hd : OpB P ft d W) : ∃ y, d.K w y ((cs.drop off).take sz) ∧ W y := by
  subst ht ho hs
  have h1 := hf i f h
  obtain ⟨ex, hex⟩ : ∃ ex, xs[i]? = some ex := ⟨_, List.getElem?_eq_getElem (by rw [hl]; exact (Array.getElem?_eq_some_iff.1 h).1)⟩
  have hm := bulk_mem xs i ex hex
  rw [hex] at h1
  exact hd H enc w base spare held n _ ex h1 (by omega)
/-- an array's element. -/
theorem OpB.elem {P : Program} {H : Type} {enc : TypeId × Value → H} {w : World} {base : Nat} {spare : Nat → Bool} {held : Bool} {m n : Nat} {e : TypeId} {cs : List Value} {xs : List (DataW H × List MemPlace)} {α : Type} {d : Kd α} {W : α → Prop}
    (hl : xs.length = n) (hb : Rows.uptoBulkAll (xs.map (·.1)) ≤ 1048576) (hf : ∀ (i : Nat), i < n → DataW.trod enc P w base spare held m e ((cs.drop (i * P.cellsOf e)).take (P.cellsOf e)) = xs[i]?)
    (i off sz : Nat) (hi : i < n) (hs : P.cellsOf e = sz) (ho : i * sz = off) (hd : OpB P e d W) : ∃ y, d.K w y ((cs.drop off).take sz) ∧ W y := by
  subst ho hs
  have h1 := hf i hi
  obtain ⟨ex, hex⟩ : ∃ ex, xs[i]? = some ex := ⟨_, List.getElem?_eq_getElem (by rw [hl]; exact hi)⟩
  have hm := bulk_mem xs i ex hex
  rw [hex] at h1
  exact hd H enc w base spare held m _ ex h1 (by omega)
theorem OpB.bulk_of {H : Type} {ds : List (DataW H)} (h : Rows.uptoSmall H ds = true) : Rows.uptoBulkAll ds ≤ 1048576 := of_decide_eq_true h
end Go.Proofs.YtdbmcikoiilanaaDoor.B0
