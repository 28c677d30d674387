/- A range over a function whose values are known beforehand, a round each: the law. No program. -/
import Derived.Test.YtamcchdblglfoaaMgForestKeeps1
import Derived.RangeFuncFrom
import Derived.RangeFuncGives
import Derived.RangeFuncBound
set_option linter.unusedVariables false
set_option linter.unusedSimpArgs false
namespace Go.Proofs.Ytamcchdblglfoaa.B0
open Go.RowKit

variable {P : Program} {α : Type}
/-- the function gives xs, one a round. -/
def SeqR (n : Nat) (P : Program) (g : Nat) (lb : Array Value) (encs : α → Array Value) (xs : List α) (Kp : World → World → Prop) (w : World) : Prop :=
  ∀ (l : Nat) (J : Nat → World → Prop) (W : World), Below w.heap.size w W →
    (∀ t x W1, xs[t]? = some x → J t W1 → YieldAt Fence.wide (n - 1) P l (encs x) W1 fun e W' => e = .returned (.bool true) ∧ J (t + 1) W' ∧ Kp W1 W') →
    J 0 W →
    CallsIn Fence.wide n P g (#[.func (.yield l) #[] #[]] ++ lb) W fun e W' => (∃ v, e = .returned v) ∧ J xs.length W'
theorem rf_law {gop : Operand} {ps : Array Tmp} {assign body : Code} {Q : Exit → Act → World → Prop} {a : Act} {w : World} {n : Nat} (hn : 1 ≤ n) {gf : Nat} {lb : Array Value} (hg : a.eval gop = .func (.func gf) #[] lb) (eg : ∀ args w, (callFunc gf args).run P w = .ok (.enter gf args) w)
    {encs : α → Array Value} {xs : List α} {Kp : World → World → Prop} (hseq : SeqR (n - 1) P gf lb encs xs Kp w) (hps : ∀ x, (encs x).size = ps.size)
    (hKt : ∀ {A B C : World}, Kp A B → Kp B C → Kp A C) (hKb : ∀ (W : World) (l : Nat) (o : Obj), w.heap.size ≤ l → Kp W (W.putObj l o))
    (I : Nat → World → Prop) (hI : ∀ t W W' row, I t W → W.grownBy W' row → (∀ r, row = some r → w.heap.size ≤ r ∧ ∃ o : Obj, W.heap[r]? = some o ∧ o.isCells = false) → I t W') (h0 : I 0 w) (a₁ : α → Act)
    (hassign : ∀ (l : Nat) (x : α) (W : World) (K : Act → World → Prop), K (a₁ x) W →
      assign.wpIn (Fence.wide.inRound l) (n - 1 - 1) P (Exit.then K (fun _ _ _ => False)) { tmps := (ps.zip (encs x)).foldl (fun t (p, v) => t.setIfInBounds p v) a.tmps, defers := [] } W)
    (hbody : ∀ (l t : Nat) (x : α) (W : World), xs[t]? = some x → I t W → body.wpIn (Fence.wide.inRound l) (n - 1 - 1) P (fun e _ W' => e = .normal ∧ KeepsOthers W W' ∧ Kp W W' ∧ I (t + 1) W') (a₁ x) W)
    (hdone : ∀ (D : Nat) (W : World), w.heap.size ≤ D → I xs.length W → W.heap[D]? = some (.deferred (some [])) → Q .normal { a with defers := { target := .collected D, args := #[] } :: a.defers } W) :
    (Code.rangeFunc gop ps assign body).wpIn Fence.wide n P Q a w := by
  refine wpIn_rangeFunc ?_
  intro fn hfn
  obtain ⟨rec, hrec⟩ : ∃ rec : LoopState → Option Code → Loop, rec = fun st pe => { state := st, pending := pe, fn, tmps := a.tmps, params := ps, assign, body, defers := w.heap.size } := ⟨_, rfl⟩
  obtain ⟨W1, hW1⟩ : ∃ W1, (w.alloc (.deferred (some []))).alloc (.loop (rec .ready none)) = W1 := ⟨_, rfl⟩
  have hL1 : W1.heap[w.heap.size + 1]? = some (.loop (rec .ready none)) := by
    rw [← hW1]; have := World.alloc_heap_new (w.alloc (.deferred (some []))) (.loop (rec .ready none)); rwa [World.size_alloc] at this
  have hK1 : W1.heap[w.heap.size]? = some (.deferred (some [])) := by
    rw [← hW1]; exact (Below.heap_alloc _ _ _ (by simp)).trans (World.alloc_heap_new w _)
  have hb1 : Below w.heap.size w W1 := by rw [← hW1]; exact ((Below.refl _ w).alloc (Nat.le_refl _) _).alloc (by simp) _
  have hI1 : I 0 W1 := by
    rw [← hW1]
    exact hI _ _ _ none (hI _ _ _ none h0 (World.grownBy_alloc _ _ _) (fun r e => by cases e)) (World.grownBy_alloc _ _ _) (fun r e => by cases e)
  have hdef : Fence.wide.round = none := rfl
  rw [hdef]
  refine ⟨w.heap.size + 1, [{ target := .collected w.heap.size, args := #[] }], W1, { target := .fn (.func gf) lb, args := #[.func (.yield (w.heap.size + 1)) #[] #[]] }, W1, gf,
    #[.func (.yield (w.heap.size + 1)) #[] #[]] ++ lb, W1, ?_, ?_, ?_, ?_, fun _ => hn, ?_⟩
  · rw [← hW1, hrec]; exact run_enterLoop_outer _ _ _ _ _
  · unfold rangeCall resolve
    simp only [hg]
    simp [go_sem]
  · intro f' hf'; trivial
  · simp [invoke, go_sem, eg]
  · refine (hseq (w.heap.size + 1) (fun t W => W.heap[w.heap.size + 1]? = some (.loop (rec .ready none)) ∧ W.heap[w.heap.size]? = some (.deferred (some [])) ∧ I t W) W1 hb1 (fun t x W hx hJ => ?_) ⟨hL1, hK1, hI1⟩).mono ?_
    · obtain ⟨hL, hK, hIW⟩ := hJ
      refine ⟨fn, (ps.zip (encs x)).foldl (fun t (p, v) => t.setIfInBounds p v) a.tmps, assign, body, ?_, roundIn_of_wpIn hfn ?_⟩
      · have h1 := run_yield (P := P) (args := encs x) hL (by rw [hrec]; exact hps x)
        rw [hrec] at h1
        exact h1
      · refine hassign _ x W _ ?_
        obtain ⟨W3, hW3⟩ : ∃ W3, W.putObj (w.heap.size + 1) (.loop { rec .ready none with state := .busy }) = W3 := ⟨_, rfl⟩
        have hl : w.heap.size + 1 < W.heap.size := (Array.getElem?_eq_some_iff.1 hL).1
        have hbr := run_beginRound (P := P) hL (by rw [hrec])
        rw [hW3] at hbr
        refine ⟨W3, hbr, ?_⟩
        have hL3 : W3.heap[w.heap.size + 1]? = some (.loop { rec .ready none with state := .busy }) := by rw [← hW3]; exact World.putObj_heap_same hl
        have hK3 : W3.heap[w.heap.size]? = some (.deferred (some [])) := by rw [← hW3]; exact (World.putObj_heap_other (by omega)).trans hK
        have hI3 : I t W3 := by
          rw [← hW3]
          exact hI _ _ _ (some (w.heap.size + 1)) hIW (grownBy_putObj' _ _ _) (fun r e => by cases e; exact ⟨by omega, _, hL, rfl⟩)
        have hk3 : Kp W W3 := by rw [← hW3]; exact hKb _ _ _ (by omega)
        refine wpIn_mono (hbody _ t x W3 hx hI3) ?_
        rintro e a' W4 ⟨rfl, hko, hkp, hI4⟩
        have hL4 := hko.same _ _ hL3 rfl
        have hK4 := hko.same _ _ hK3 rfl
        have hl4 : w.heap.size + 1 < W4.heap.size := (Array.getElem?_eq_some_iff.1 hL4).1
        refine ⟨_, _, run_endRound none hL4, rfl, ⟨?_, (World.putObj_heap_other (by omega)).trans hK4, ?_⟩, ?_⟩
        · have h1 := World.putObj_heap_same (w := W4) (o := .loop { { rec .ready none with state := .busy } with state := if (none : Option Code).isNone then .ready else .done, pending := none }) hl4
          rw [hrec] at h1 ⊢
          exact h1
        · exact hI _ _ _ (some (w.heap.size + 1)) hI4 (grownBy_putObj' _ _ _) (fun r e => by cases e; exact ⟨by omega, _, hL4, rfl⟩)
        · exact hKt (hKt hk3 hkp) (hKb _ _ _ (by omega))
    · rintro e W2 ⟨⟨v0, rfl⟩, hL, hK, hI2⟩
      have hend := run_endLoop (P := P) hL (by rw [hrec]; simp)
      refine ⟨_, _, hend, ?_⟩
      have hp : (rec .ready none).pending = none := by rw [hrec]
      rw [hp]
      refine hdone _ _ (Nat.le_refl _) ?_ ((World.putObj_heap_other (by omega)).trans hK)
      exact hI _ _ _ (some (w.heap.size + 1)) hI2 (grownBy_putObj' _ _ _) (fun r e => by cases e; exact ⟨by omega, _, hL, rfl⟩)
end Go.Proofs.Ytamcchdblglfoaa.B0
