/- How an argument that is read as data lies in memory, and how much it holds at least (for a statement up to a size). -/
import Derived.Test.YtkmfgacfccgdcaaDoorRows
import Derived.Test.YtkmfgacfccgdcaaDoorMgSeriesOrder2
set_option linter.unusedVariables false
set_option linter.unusedSimpArgs false
namespace Go.Proofs.YtkmfgacfccgdcaaDoor.B0
open Go.RowKit Go.Proofs.YtkmfgacfccgdcaaDoorW.PrintWords

/-- What reads at type t is of kind d, W holds of it, and it is of size m at the most. -/
def OpM {α : Type} (P : Program) (t : TypeId) (d : Kd α) (W : α → Prop) (m : α → Nat) : Prop :=
  ∀ (H : Type) (enc : TypeId × Value → H) (w : World) (base : Nat) (spare : Nat → Bool) (held : Bool) (fuel : Nat) (cs : List Value) (x : DataW H × List MemPlace),
    DataW.trod enc P w base spare held fuel t cs = some x → ∃ y, d.K w y cs ∧ W y ∧ m y ≤ Rows.uptoBulk x.1

theorem OpM.of {P : Program} {t : TypeId} {α : Type} {d : Kd α} {W : α → Prop} (h : OpK P t d W) : OpM P t d W (fun _ => 0) := by
  intro H enc w base spare held fuel cs x hx
  obtain ⟨y, h1, h2⟩ := h H enc w base spare held fuel cs x hx
  exact ⟨y, h1, h2, Nat.zero_le _⟩
theorem OpM.string {P : Program} {t : TypeId} (ht : P.underlying t = some .string) : OpM P t Kd.string (fun s => s.size ≤ maxLen) ByteArray.size := by
  intro H enc w base spare held fuel cs x h
  obtain ⟨n, rfl, rfl, hw⟩ := DataW.trod_string ht h
  refine ⟨n, rfl, hw, ?_⟩
  have : n.data.toList.length = n.size := by rw [Array.length_toList]; rfl
  simp only [Rows.uptoBulk]; omega
theorem OpM.string1 {P : Program} {t : TypeId} (ht : P.underlying t = some .string) : OpM P t Kd.string (fun s => s.size ≤ maxLen) (fun s => s.size + 1) := by
  intro H enc w base spare held fuel cs x h
  obtain ⟨n, rfl, rfl, hw⟩ := DataW.trod_string ht h
  refine ⟨n, rfl, hw, ?_⟩
  have : n.data.toList.length = n.size := by rw [Array.length_toList]; rfl
  simp only [Rows.uptoBulk]; omega
theorem bulk_get {H : Type} : ∀ (l : List (DataW H × List MemPlace)) (ms : List Nat), ms.length = l.length → (∀ (i m : Nat) (x : DataW H × List MemPlace), ms[i]? = some m → l[i]? = some x → m ≤ Rows.uptoBulk x.1) → ms.sum ≤ Rows.uptoBulkAll (l.map (·.1))
  | [], [], _, _ => by simp
  | [], _ :: _, h, _ => by simp at h
  | _ :: _, [], h, _ => by simp at h
  | x :: l, m :: ms, h, hh => by
    have h1 := hh 0 m x (by simp) (by simp)
    have h2 := bulk_get l ms (by simpa using h) (fun i a b e1 e2 => hh (i + 1) a b (by simpa using e1) (by simpa using e2))
    simp only [List.sum_cons, List.map_cons, Rows.uptoBulkAll]
    omega
theorem OpM.slice {P : Program} {t e : TypeId} {α : Type} {d : Kd α} {W : α → Prop} {me : α → Nat} (ht : P.underlying t = some (.slice e)) (hc : P.cellsOf e = d.sz) (hd : OpM P e d W me) : OpM P t (Kd.slice e d) (fun l => l.length ≤ maxLen ∧ ∀ x ∈ l, W x) (fun l => (l.map me).sum) := by
  intro H enc w base spare held fuel cs x h
  rcases DataW.trod_slice ht h with ⟨rfl, _⟩ | ⟨a, len, cap, elems, rest, n, _, rfl, rfl, hb, hl, hm, hlen, hel, _, _⟩
  · exact ⟨[], ⟨none, 0, rfl, Nat.le_refl _, by simp, by simp, fun hh => by simp at hh⟩, by simp [maxLen], by simp⟩
  · have hone : ∀ i, i < len → ∃ (y : α) (ex : DataW H × List MemPlace), elems[i]? = some ex ∧ me y ≤ Rows.uptoBulk ex.1 ∧ (∃ c, c.length = d.sz ∧ d.K w y c ∧ ∀ j u, c[j]? = some u → w.cell? (a.add (i * d.sz + j)) = some u) ∧ W y := by
      intro i hi
      have h1 := hel i hi
      rw [hc] at h1
      obtain ⟨ex, hex⟩ : ∃ ex, elems[i]? = some ex := ⟨_, List.getElem?_eq_getElem (by omega)⟩
      rw [hex, Option.bind_eq_some_iff] at h1
      obtain ⟨c, h2, h3⟩ := h1
      obtain ⟨y, hy, hw, hme⟩ := hd H enc w base spare held n c ex h3
      obtain ⟨h4, h5⟩ := cellsq h2
      exact ⟨y, ex, hex, hme, ⟨c, h4, hy, fun j u hu => by rw [← add_add]; exact h5 j u hu⟩, hw⟩
    have hall : ∀ m, m ≤ len → ∃ ys : List α, ys.length = m ∧ ∀ i y, ys[i]? = some y → ∃ ex, elems[i]? = some ex ∧ me y ≤ Rows.uptoBulk ex.1 ∧ (∃ c, c.length = d.sz ∧ d.K w y c ∧ ∀ j u, c[j]? = some u → w.cell? (a.add (i * d.sz + j)) = some u) ∧ W y := by
      intro m
      induction m with
      | zero => intro _; exact ⟨[], rfl, fun i y hy => by simp at hy⟩
      | succ m ih =>
        intro hm
        obtain ⟨ys, e1, e2⟩ := ih (by omega)
        obtain ⟨y, ex, hy⟩ := hone m (by omega)
        refine ⟨ys ++ [y], by simp [e1], fun i z hz => ?_⟩
        by_cases hi : i < ys.length
        · rw [List.getElem?_append_left hi] at hz; exact e2 i z hz
        · rw [List.getElem?_append_right (by omega)] at hz
          have : i = m := by have := (List.getElem?_eq_some_iff.1 hz).1; simp at this; omega
          subst this
          have : y = z := by rw [e1] at hz; simpa using hz
          subst this
          exact ⟨ex, hy⟩
    obtain ⟨ys, e1, e2⟩ := hall len (Nat.le_refl _)
    refine ⟨ys, ⟨some a, cap, by rw [e1], by omega, by rw [e1], ?_, fun _ => ⟨a, rfl, fun j p hj => by obtain ⟨_, _, _, h, _⟩ := e2 j p hj; exact h⟩⟩, ⟨by show ys.length ≤ maxLen; omega, fun x hx => ?_⟩, ?_⟩
    · have : len ≤ maxLen := by omega
      rw [e1]; unfold maxLen at this; exact this
    · obtain ⟨i, hi⟩ := List.mem_iff_getElem?.1 hx
      obtain ⟨_, _, _, _, h⟩ := e2 i x hi
      exact h
    · have := bulk_get elems (ys.map me) (by simp; omega) (fun i m x hm hx => by
        rw [List.getElem?_map, Option.map_eq_some_iff] at hm
        obtain ⟨y, hy, rfl⟩ := hm
        obtain ⟨ex, h1, h2, _⟩ := e2 i y hy
        rw [hx] at h1; cases h1; exact h2)
      simp only [Rows.uptoBulk]
      omega
/-- a struct's fields, measured. -/
theorem OpM.field {P : Program} {H : Type} {enc : TypeId × Value → H} {w : World} {base : Nat} {spare : Nat → Bool} {held : Bool} {n : Nat} {cs : List Value} {xs : List (DataW H × List MemPlace)} {fs : Array Field} {α : Type} {d : Kd α} {W : α → Prop} {m : α → Nat}
    (hl : xs.length = fs.size) (hf : ∀ (i : Nat) (f : Field), fs[i]? = some f → DataW.trod enc P w base spare held n f.type ((cs.drop f.offset).take (P.cellsOf f.type)) = xs[i]?)
    (i : Nat) (f : Field) (h : fs[i]? = some f) (ft off sz : Nat) (ht : f.type = ft) (ho : f.offset = off) (hs : P.cellsOf ft = sz) (hd : OpM P ft d W m) : ∃ y, d.K w y ((cs.drop off).take sz) ∧ W y ∧ ∃ ex, xs[i]? = some ex ∧ m y ≤ Rows.uptoBulk ex.1 := by
  subst ht ho hs
  have h1 := hf i f h
  obtain ⟨ex, hex⟩ : ∃ ex, xs[i]? = some ex := ⟨_, List.getElem?_eq_getElem (by rw [hl]; exact (Array.getElem?_eq_some_iff.1 h).1)⟩
  rw [hex] at h1
  obtain ⟨y, h2, h3, h4⟩ := hd H enc w base spare held n _ ex h1
  exact ⟨y, h2, h3, ex, hex, h4⟩
theorem bulk_of {H : Type} {ds : List (DataW H)} (h : Rows.uptoSmall H ds = true) : Rows.uptoBulkAll ds ≤ 1048576 := of_decide_eq_true h
end Go.Proofs.YtkmfgacfccgdcaaDoor.B0
