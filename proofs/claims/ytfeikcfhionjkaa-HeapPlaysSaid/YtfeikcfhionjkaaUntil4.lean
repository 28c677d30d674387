/- Queue.Until: the sort is paid. -/
import Derived.Test.YtfeikcfhionjkaaUntil3
import Derived.Test.YtfeikcfhionjkaaSrt
import Derived.Test.YtfeikcfhionjkaaLayS
import Derived.Shelf.SlSortCmp.NoneTotal
set_option linter.unusedVariables false
set_option linter.unusedSimpArgs false
namespace Go.Proofs.Ytfeikcfhionjkaa.Hp
open Go.RowKit Go.Proofs.Ytfeikcfhionjkaa.B0

def cfE (x y : E) : Int := ordI x.t x.id y.t y.id
theorem cfE_lt (x y : E) : cfE x y < 0 ↔ ltP (keyE x) (keyE y) := by
  have h := ltE_iff x y
  unfold ltE at h
  rw [decide_eq_true_eq] at h
  exact h

theorem sortE {w : World} {L : List E} {v : Value} (hO : w.ownsRow 0 63 1 v L.length (ptrs L)) (hI : ∀ e, e ∈ L → ∃ p T, w.heap[e.b]? = some (.cells #[.int .u64 e.id, .int .u64 e.t, p] T (0, 0)) ∧ v.ownBlock ≠ some e.b) (hN : (L.map E.id).Nodup) (hlen : L.length < 1000000000000) : SortC w v L := by
  by_cases hL : L = []
  · subst hL
    rcases hO.2 with ⟨rfl, _⟩ | ⟨g, cap, cur, rfl, _⟩
    · refine (AnyF.slices_SortFunc_none (P := Try.prog) (ρ := Try.layS_ren) { Try.layS with } none 0 (.func (.func 31) #[] #[]) w).mono ?_
      rintro e w' ⟨rfl, rfl⟩
      exact ⟨rfl, [], [], List.Perm.refl _, by simp, by simp, by simp, Fr.refl _ _⟩
    · refine (AnyF.slices_SortFunc_none (P := Try.prog) (ρ := Try.layS_ren) { Try.layS with } (some ⟨g, 0, none⟩) cap (.func (.func 31) #[] #[]) w).mono ?_
      rintro e w' ⟨rfl, rfl⟩
      exact ⟨rfl, [], [], List.Perm.refl _, by simp, by simp, by simp, Fr.refl _ _⟩
  · obtain ⟨g, cap, rfl, _, _⟩ := hO.form (List.length_pos_iff.2 hL)
    have eg : ∀ args w, (callFunc 31 args).run Try.prog w = .ok (.enter 31 args) w := enters_of Try.func31 (by kernel_rfl) rfl
    refine (sort_list Try.layS (fun e : E => Value.pointer (some ⟨e.b, 0, none⟩)) (fun _ => rfl) cfE L hL ?_ ?_ ?_ 31 g cap w eg ?_ ?_ hlen).mono ?_
    · intro x _; rw [cfE_lt]; exact fun h => ltP_irrefl h h
    · intro x y z _ _ _; rw [cfE_lt, cfE_lt, cfE_lt]; exact ltP_trans
    · intro x y z _ _ _; rw [cfE_lt, cfE_lt, cfE_lt]; unfold ltP; omega
    · intro W hW x y hx hy
      obtain ⟨p, T, h1, h2⟩ := hI x hx
      obtain ⟨p', T', h3, h4⟩ := hI y hy
      have b1 : W.heap[x.b]? = _ := hW.get h1 (by rw [List.mem_singleton]; rintro rfl; exact h2 rfl)
      have b2 : W.heap[y.b]? = _ := hW.get h3 (by rw [List.mem_singleton]; rintro rfl; exact h4 rfl)
      exact order_g W x.b y.b x.id x.t y.id y.t p p' T T' b1 b2
    · intro i x hx
      refine ⟨?_, hO.frozenAt i⟩
      rw [hO.cellAt i (by have := (List.getElem?_eq_some_iff.1 hx).1; omega)]
      unfold ptrs
      rw [List.getElem?_map, hx]; rfl
    · rintro e w' ⟨rfl, X', hp, hs, hc, hF⟩
      refine ⟨rfl, X', [g], hp, ?_, ?_, fun b hb => by rw [List.mem_singleton] at hb; subst hb; rfl, hF⟩
      · rw [List.pairwise_map]
        have hnd : (X'.map E.id).Nodup := (hp.map E.id).nodup_iff.2 hN
        rw [List.Nodup, List.pairwise_map] at hnd
        refine (hs.and hnd).imp ?_
        rintro a b ⟨h1, h2⟩
        rw [cfE_lt] at h1
        have h2' : (keyE a).1 ≠ (keyE b).1 := h2
        exact ltP_total (fun e => h2' e.symm) h1
      · intro g' c' i x hv hx
        simp only [Value.slice.injEq, Option.some.injEq, Addr.mk.injEq, and_true, true_and] at hv
        obtain ⟨rfl, _⟩ := hv
        exact (hc i x hx).1

/-- Queue.Until: all up to a time, in the queue's order, in a new slice. -/
theorem Until_q {w : World} {q : Nat} {S : List (Int × Int)} {fp : List Nat} (h : QA w q S fp) (t : Int) (hlen : S.length < 1000000000000) :
    Calls Try.prog 23 #[.pointer (some ⟨q, 0, none⟩), .int .u64 t] w fun e w' => ∃ v, e = .returned v ∧ w'.ownsRow w.heap.size 27 1 v (S.filter fun p => decide (p.2 ≤ t)).length ((S.filter fun p => decide (p.2 ≤ t)).map fun p => Value.int .u64 p.1) ∧ Fr [] w w' :=
  Until_q0 (fun w L v a b c d => sortE a b c d) h t hlen
end Go.Proofs.Ytfeikcfhionjkaa.Hp
