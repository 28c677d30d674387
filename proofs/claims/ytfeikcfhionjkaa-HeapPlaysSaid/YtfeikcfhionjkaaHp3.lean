/- heap's items in memory ('IRep': the queue's block, the row of pointers, the items), and the contracts of Len, Less, Swap over it. -/
import Derived.Test.YtfeikcfhionjkaaHp2
set_option linter.unusedVariables false
set_option linter.unusedSimpArgs false
namespace Go.Proofs.Ytfeikcfhionjkaa.Hp
open Go.RowKit Go.Proofs.Ytfeikcfhionjkaa.B0

structure E where
  b : Nat
  id : Int
  t : Int

def itemO (e : E) (i : Nat) : Obj := .cells #[.int .u64 e.id, .int .u64 e.t, .int .i64 i] 65 (0, 0)
def svOf : Option (Nat × Nat) → Nat → Value
  | none, _ => .slice none 0 0
  | some (g, c), n => .slice (some ⟨g, 0, none⟩) n c
def rb : Option (Nat × Nat) → List Nat
  | none => []
  | some (g, _) => [g]
def Row (w : World) (L : List E) : Option (Nat × Nat) → Prop
  | none => L = []
  | some (g, c) => ∃ cs, w.heap[g]? = some (.cells cs 63 (0, 0)) ∧ cs.size = c ∧ L.length ≤ c ∧ c ≤ maxLen ∧ ∀ (i : Nat) (e : E), L[i]? = some e → cs[i]? = some (Value.pointer (some ⟨e.b, 0, none⟩))

structure IRep (w : World) (q mb : Nat) (r : Option (Nat × Nat)) (L : List E) : Prop where
  hq : w.heap[q]? = some (.cells #[svOf r L.length, .map (some mb)] 62 (0, 0))
  hr : Row w L r
  hi : ∀ i e, L[i]? = some e → w.heap[e.b]? = some (itemO e i)
  nd : (q :: mb :: (rb r ++ L.map E.b)).Nodup

/-- the blocks that a swap may touch. -/
def foot (r : Option (Nat × Nat)) (L : List E) : List Nat := rb r ++ L.map E.b

theorem IRep.fr {w w' : World} {q mb : Nat} {r : Option (Nat × Nat)} {L : List E} {F : List Nat} (h : IRep w q mb r L) (hf : Fr F w w') (hq : q ∉ F) (hF : ∀ k, k ∈ foot r L → k ∉ F) : IRep w' q mb r L := by
  refine ⟨hf.get h.hq hq, ?_, fun i e he => hf.get (h.hi i e he) (hF _ ?_), h.nd⟩
  · have hr := h.hr
    cases r with
    | none => exact hr
    | some p =>
      obtain ⟨g, c⟩ := p
      obtain ⟨cs, h1, h2⟩ := hr
      exact ⟨cs, hf.get h1 (hF _ (by simp [foot, rb])), h2⟩
  · simp only [foot, List.mem_append, List.mem_map]
    exact .inr ⟨e, List.mem_of_getElem? he, rfl⟩
theorem IRep.below {w w' : World} {q mb : Nat} {r : Option (Nat × Nat)} {L : List E} (h : IRep w q mb r L) (hb : Below w.heap.size w w') : IRep w' q mb r L :=
  h.fr (Fr.of_below hb [] (Nat.le_refl _)) (by simp) (by simp)

theorem IRep.cap {w : World} {q mb : Nat} {r : Option (Nat × Nat)} {L : List E} (h : IRep w q mb r L) (hl : 0 < L.length) : ∃ g c, r = some (g, c) := by
  cases r with
  | none => have := h.hr; simp only [Row] at this; subst this; simp at hl
  | some p => exact ⟨p.1, p.2, rfl⟩

theorem getElem?_swap {α : Type} {L : List α} {i k : Nat} {x y : α} (hx : L[i]? = some x) (hy : L[k]? = some y) (hik : i ≠ k) (j : Nat) :
    ((L.set i y).set k x)[j]? = if j = k then some x else if j = i then some y else L[j]? := by
  have hi := (List.getElem?_eq_some_iff.1 hx).1
  have hk := (List.getElem?_eq_some_iff.1 hy).1
  simp only [List.getElem?_set, List.length_set]
  by_cases h1 : j = k
  · subst h1; simp [hk]
  · rw [if_neg (by omega), if_neg h1]
    by_cases h2 : j = i
    · subst h2; simp [hi]
    · rw [if_neg (by omega), if_neg h2]

theorem perm_swap {α : Type} {L : List α} {i k : Nat} {x y : α} (hx : L[i]? = some x) (hy : L[k]? = some y) (hik : i ≠ k) : ((L.set i y).set k x).Perm L := by
  obtain ⟨hi, ex⟩ := List.getElem?_eq_some_iff.1 hx
  obtain ⟨hk, ey⟩ := List.getElem?_eq_some_iff.1 hy
  subst ex ey
  exact List.set_set_perm hi hk

theorem block_ne {w : World} {q mb : Nat} {r : Option (Nat × Nat)} {L : List E} (h : IRep w q mb r L) {i k : Nat} {x y : E} (hx : L[i]? = some x) (hy : L[k]? = some y) (hik : i ≠ k) : x.b ≠ y.b := by
  intro hb
  have h1 := h.hi i x hx
  have h2 := h.hi k y hy
  rw [hb, h2] at h1
  simp [itemO] at h1
  omega

theorem nodup_parts {w : World} {q mb : Nat} {g c : Nat} {L : List E} (h : IRep w q mb (some (g, c)) L) : q ≠ g ∧ mb ≠ g ∧ q ≠ mb ∧ (∀ e, e ∈ L → e.b ≠ g ∧ e.b ≠ q ∧ e.b ≠ mb) := by
  have hn := h.nd
  simp only [rb, List.cons_append, List.nil_append, List.nodup_cons, List.mem_cons, List.mem_map, not_or, not_exists, not_and] at hn
  obtain ⟨⟨h1, h2, h3⟩, ⟨h4, h5⟩, h6, h7⟩ := hn
  exact ⟨h2, h4, h1, fun e he => ⟨fun hh => h6 e he hh, fun hh => h3 e he hh, fun hh => h5 e he hh⟩⟩

theorem swap_world {w : World} {q mb g c i k : Nat} {L : List E} {x y : E} (h : IRep w q mb (some (g, c)) L) (hx : L[i]? = some x) (hy : L[k]? = some y) (hik : i ≠ k) :
    IRep ((((w.setCell ⟨g, i, none⟩ (.pointer (some ⟨y.b, 0, none⟩))).setCell ⟨g, k, none⟩ (.pointer (some ⟨x.b, 0, none⟩))).setCell ⟨y.b, 2, none⟩ (.int .i64 i)).setCell ⟨x.b, 2, none⟩ (.int .i64 k)) q mb (some (g, c)) ((L.set i y).set k x) := by
  have hne := block_ne h hx hy hik
  obtain ⟨hqg, hmg, hqm, hE⟩ := nodup_parts h
  obtain ⟨hxg, hxq, hxm⟩ := hE x (List.mem_of_getElem? hx)
  obtain ⟨hyg, hyq, hym⟩ := hE y (List.mem_of_getElem? hy)
  have hi := (List.getElem?_eq_some_iff.1 hx).1
  have hk := (List.getElem?_eq_some_iff.1 hy).1
  obtain ⟨cs, hg, hcs, hlc, hcm, hptr⟩ := h.hr
  refine ⟨?_, ?_, ?_, ?_⟩
  · rw [setO _ _ _ (by simpa using hxq.symm), setO _ _ _ (by simpa using hyq.symm), setO _ _ _ (by simpa using hqg), setO _ _ _ (by simpa using hqg)]
    simpa [svOf] using h.hq
  · refine ⟨(cs.setIfInBounds i (.pointer (some ⟨y.b, 0, none⟩))).setIfInBounds k (.pointer (some ⟨x.b, 0, none⟩)), ?_, by simpa using hcs, by simpa using hlc, hcm, ?_⟩
    · rw [setO _ _ _ (by simpa using hxg.symm), setO _ _ _ (by simpa using hyg.symm)]
      exact setB (setB hg _ _) _ _
    · intro j e he
      rw [getElem?_swap hx hy hik] at he
      by_cases h1 : j = k
      · subst h1
        simp at he; subst he
        rw [Array.getElem?_setIfInBounds, if_pos rfl, if_pos (by simp; omega)]
      · rw [if_neg h1] at he
        rw [Array.getElem?_setIfInBounds, if_neg (by omega)]
        by_cases h2 : j = i
        · subst h2
          simp at he; subst he
          rw [Array.getElem?_setIfInBounds, if_pos rfl, if_pos (by omega)]
        · rw [if_neg h2] at he
          rw [Array.getElem?_setIfInBounds, if_neg (by omega)]
          exact hptr j e he
  · intro j e he
    rw [getElem?_swap hx hy hik] at he
    by_cases h1 : j = k
    · subst h1
      simp at he; subst he
      have := h.hi i x hx
      rw [show itemO x i = .cells #[.int .u64 x.id, .int .u64 x.t, .int .i64 i] 65 (0, 0) from rfl] at this
      have h3 : ((w.setCell ⟨g, i, none⟩ (.pointer (some ⟨y.b, 0, none⟩))).setCell ⟨g, j, none⟩ (.pointer (some ⟨x.b, 0, none⟩))).setCell ⟨y.b, 2, none⟩ (.int .i64 i) |>.heap[x.b]? = some (.cells #[.int .u64 x.id, .int .u64 x.t, .int .i64 i] 65 (0, 0)) := by
        rw [setO _ _ _ (by simpa using hne), setO _ _ _ (by simpa using hxg), setO _ _ _ (by simpa using hxg)]; exact this
      rw [setB h3]; rfl
    · rw [if_neg h1] at he
      by_cases h2 : j = i
      · subst h2
        simp at he; subst he
        have := h.hi k y hy
        rw [setO _ _ _ (by simpa using hne.symm)]
        have h3 : ((w.setCell ⟨g, j, none⟩ (.pointer (some ⟨y.b, 0, none⟩))).setCell ⟨g, k, none⟩ (.pointer (some ⟨x.b, 0, none⟩))).heap[y.b]? = some (.cells #[.int .u64 y.id, .int .u64 y.t, .int .i64 k] 65 (0, 0)) := by
          rw [setO _ _ _ (by simpa using hyg), setO _ _ _ (by simpa using hyg)]; exact this
        rw [setB h3]; rfl
      · rw [if_neg h2] at he
        obtain ⟨heg, _, _⟩ := hE e (List.mem_of_getElem? he)
        rw [setO _ _ _ (by simpa using block_ne h he hx h2), setO _ _ _ (by simpa using block_ne h he hy h1), setO _ _ _ (by simpa using heg), setO _ _ _ (by simpa using heg)]
        exact h.hi j e he
  · refine (List.Perm.nodup_iff ?_).1 h.nd
    exact (((perm_swap hx hy hik).map E.b).symm.append_left _).cons _ |>.cons _

/-- is the one ahead of the other? -/
def ltE (x y : E) : Bool := decide (ordI x.t x.id y.t y.id < 0)

theorem Len_c {w : World} {q mb : Nat} {r : Option (Nat × Nat)} {L : List E} (h : IRep w q mb r L) :
    Calls Try.prog 71 #[svOf r L.length] w fun e w' => e = .returned (.int .i64 L.length) ∧ w = w' := by
  have hr := h.hr
  cases r with
  | none => simp only [Row] at hr; subst hr; exact len_any w none 0 0
  | some p => exact len_any w _ L.length p.2

theorem Less_c {w : World} {q mb : Nat} {r : Option (Nat × Nat)} {L : List E} (h : IRep w q mb r L) (a b : Int) (i k : Nat) (ea : a = i) (eb : b = k) (x y : E) (hx : L[i]? = some x) (hy : L[k]? = some y) :
    Calls Try.prog 72 #[svOf r L.length, .int .i64 a, .int .i64 b] w fun e w' => e = .returned (.bool (ltE x y)) ∧ Below w.heap.size w w' := by
  subst ea eb
  have hi := (List.getElem?_eq_some_iff.1 hx).1
  have hk := (List.getElem?_eq_some_iff.1 hy).1
  obtain ⟨g, c, rfl⟩ := h.cap (by omega)
  obtain ⟨cs, hg, hcs, hlc, hcm, hptr⟩ := h.hr
  exact less_any w g L.length c i k x.b y.b x.id x.t y.id y.t _ _ _ hi hk ((cellB hg i).trans (hptr i x hx)) ((cellB hg k).trans (hptr k y hy)) (h.hi i x hx) (h.hi k y hy)

theorem Swap_c {w : World} {q mb : Nat} {r : Option (Nat × Nat)} {L : List E} (h : IRep w q mb r L) (a b : Int) (i k : Nat) (ea : a = i) (eb : b = k) (x y : E) (hx : L[i]? = some x) (hy : L[k]? = some y) (hik : i ≠ k) :
    Calls Try.prog 73 #[svOf r L.length, .int .i64 a, .int .i64 b] w fun e w' => e = .returned (.tuple #[]) ∧ IRep w' q mb r ((L.set i y).set k x) ∧ Fr (foot r L) w w' := by
  subst ea eb
  have hi := (List.getElem?_eq_some_iff.1 hx).1
  have hk := (List.getElem?_eq_some_iff.1 hy).1
  obtain ⟨g, c, rfl⟩ := h.cap (by omega)
  obtain ⟨cs, hg, hcs, hlc, hcm, hptr⟩ := h.hr
  obtain ⟨hqg, hmg, hqm, hE⟩ := nodup_parts h
  obtain ⟨hxg, hxq, hxm⟩ := hE x (List.mem_of_getElem? hx)
  obtain ⟨hyg, hyq, hym⟩ := hE y (List.mem_of_getElem? hy)
  refine (swap_any w g L.length c i k x.b y.b cs _ _ _ _ _ _ _ _ hi hk hik (by omega) hg (hptr i x hx) (hptr k y hy) (h.hi i x hx) (h.hi k y hy) (block_ne h hx hy hik) hxg hyg).mono ?_
  rintro e w' ⟨he, q', rfl⟩
  refine ⟨he, ?_, ?_⟩
  · exact (swap_world h hx hy hik).fr ((Fr.refl [] _).drewN _) (by simp) (by simp)
  · have m1 : g ∈ foot (some (g, c)) L := by simp [foot, rb]
    have m2 : x.b ∈ foot (some (g, c)) L := by simp only [foot, List.mem_append, List.mem_map]; exact .inr ⟨x, List.mem_of_getElem? hx, rfl⟩
    have m3 : y.b ∈ foot (some (g, c)) L := by simp only [foot, List.mem_append, List.mem_map]; exact .inr ⟨y, List.mem_of_getElem? hy, rfl⟩
    exact ((((((Fr.refl _ w).setCell (.inl m1) _).setCell (.inl m1) _).setCell (.inl m3) _).setCell (.inl m2) _).drewN _)
end Go.Proofs.Ytfeikcfhionjkaa.Hp
