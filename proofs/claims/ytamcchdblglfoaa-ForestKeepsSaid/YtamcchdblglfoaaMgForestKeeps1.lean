/- Words on worlds: what a block holds, what a call leaves alone ('Fr F w w'': only blocks of F, and new ones, may differ). No program. -/
import Derived.WalkKit
import Derived.Lib.Hide
import Derived.Deep.Draws
namespace Go.Proofs.Ytamcchdblglfoaa.B0
open Go.RowKit

/-- Only the blocks of F, and new ones, may differ. -/
structure Fr (F : List Nat) (w w' : World) : Prop where
  os : w'.os = w.os
  tape : w'.tape = w.tape
  output : w'.output = w.output
  size : w.heap.size ≤ w'.heap.size
  block : ∀ k, k < w.heap.size → k ∉ F → w'.heap[k]? = w.heap[k]?

theorem Fr.refl (F : List Nat) (w : World) : Fr F w w := ⟨rfl, rfl, rfl, Nat.le_refl _, fun _ _ _ => rfl⟩
theorem Fr.trans {F : List Nat} {a b c : World} (h : Fr F a b) (k : Fr F b c) : Fr F a c :=
  ⟨k.os.trans h.os, k.tape.trans h.tape, k.output.trans h.output, Nat.le_trans h.size k.size, fun i hi hn => (k.block i (Nat.lt_of_lt_of_le hi h.size) hn).trans (h.block i hi hn)⟩
theorem Fr.mono {F G : List Nat} {a b : World} (h : Fr F a b) (hs : ∀ k, k ∈ F → k ∈ G) : Fr G a b :=
  ⟨h.os, h.tape, h.output, h.size, fun k hk hn => h.block k hk (fun hf => hn (hs k hf))⟩
/-- F may name blocks that were made since. -/
theorem Fr.shrink {F G : List Nat} {a b : World} (h : Fr F a b) (hs : ∀ k, k ∈ F → k ∈ G ∨ a.heap.size ≤ k) : Fr G a b :=
  ⟨h.os, h.tape, h.output, h.size, fun k hk hn => h.block k hk (fun hf => by rcases hs k hf with x | x; exact hn x; omega)⟩
/-- the second step may touch blocks that the first one made. -/
theorem Fr.trans' {F G : List Nat} {a b c : World} (h : Fr F a b) (k : Fr G b c) (hs : ∀ k, k ∈ G → k ∈ F ∨ a.heap.size ≤ k) : Fr F a c :=
  ⟨k.os.trans h.os, k.tape.trans h.tape, k.output.trans h.output, Nat.le_trans h.size k.size, fun i hi hn =>
    (k.block i (Nat.lt_of_lt_of_le hi h.size) (fun hf => by rcases hs i hf with x | x; exact hn x; omega)).trans (h.block i hi hn)⟩
theorem Fr.drew {F : List Nat} {a b : World} (h : Fr F a b) : Fr F a b.drew := ⟨h.os, h.tape, h.output, h.size, h.block⟩
theorem Fr.drewN {F : List Nat} {a b : World} (h : Fr F a b) (n : Nat) : Fr F a (b.drewN n) := ⟨h.os, h.tape, h.output, h.size, h.block⟩
theorem Fr.alloc {F : List Nat} {a b : World} (h : Fr F a b) (o : Obj) : Fr F a (b.alloc o) :=
  h.trans ⟨rfl, rfl, rfl, by simp, fun k hk _ => Below.heap_alloc _ _ _ (by omega)⟩
theorem Fr.setCell {F : List Nat} {a b : World} (h : Fr F a b) {p : Addr} (hp : p.block ∈ F ∨ a.heap.size ≤ p.block) (u : Value) : Fr F a (b.setCell p u) :=
  ⟨h.os, h.tape, h.output, by have := h.size; simpa [World.setCell] using this, fun k hk hn => by
    rw [Below.heap_setCell _ _ _ _ (by rintro rfl; rcases hp with x | x; exact hn x; omega)]; exact h.block k hk hn⟩
theorem Fr.of_below {a b : World} {B : Nat} (h : Below B a b) (F : List Nat) (hB : a.heap.size ≤ B) : Fr F a b := ⟨h.os, h.tape, h.output, h.size, fun k hk _ => h.block k (by omega)⟩
theorem Fr.below {a b : World} (h : Fr [] a b) : Below a.heap.size a b := ⟨h.os, h.tape, h.output, h.size, fun k hk => h.block k hk (by simp)⟩
theorem Fr.belowB {F : List Nat} {a b : World} (h : Fr F a b) {B : Nat} (hB : B ≤ a.heap.size) (hF : ∀ k, k ∈ F → B ≤ k) : Below B a b :=
  ⟨h.os, h.tape, h.output, h.size, fun k hk => h.block k (by omega) (fun hf => by have := hF k hf; omega)⟩
theorem Fr.grown {F : List Nat} {a b c : World} {row : Option Nat} (h : Fr F a b) (hg : b.grownBy c row) (hr : ∀ k, row = some k → k ∈ F ∨ a.heap.size ≤ k) : Fr F a c :=
  ⟨hg.os.trans h.os, hg.tape.trans h.tape, hg.output.trans h.output, Nat.le_trans h.size hg.size, fun k hk hn => by
    have := h.size
    rw [hg.block k (by omega) (fun e => by rcases hr k e.symm with x | x; exact hn x; omega)]; exact h.block k hk hn⟩
theorem Fr.get {F : List Nat} {a b : World} (h : Fr F a b) {k : Nat} {o : Obj} (ho : a.heap[k]? = some o) (hn : k ∉ F) : b.heap[k]? = some o :=
  (h.block k (Array.getElem?_eq_some_iff.1 ho).1 hn).trans ho

theorem lt_of_get {w : World} {k : Nat} {o : Obj} (h : w.heap[k]? = some o) : k < w.heap.size := (Array.getElem?_eq_some_iff.1 h).1

theorem cellB {w : World} {b : Nat} {cs : Array Value} {T : TypeId} {f : Nat × Nat} (h : w.heap[b]? = some (.cells cs T f)) (o : Nat) : w.cell? ⟨b, o, none⟩ = cs[o]? := by
  simp [World.cell?, h]
theorem frozenB {w : World} {b : Nat} {cs : Array Value} {T : TypeId} (h : w.heap[b]? = some (.cells cs T (0, 0))) (o : Nat) : w.frozen? ⟨b, o, none⟩ = false := by
  simp [World.frozen?, h]
theorem setB {w : World} {b : Nat} {cs : Array Value} {T : TypeId} {f : Nat × Nat} (h : w.heap[b]? = some (.cells cs T f)) (o : Nat) (v : Value) :
    (w.setCell ⟨b, o, none⟩ v).heap[b]? = some (.cells (cs.setIfInBounds o v) T f) := by
  simp [World.setCell, Array.getElem?_modify, h]
theorem setO (w : World) (p : Addr) (v : Value) {k : Nat} (hk : k ≠ p.block) : (w.setCell p v).heap[k]? = w.heap[k]? := Below.heap_setCell _ _ _ _ hk
theorem allocN (w : World) (o : Obj) : (w.alloc o).heap[w.heap.size]? = some o := (MapKept.heap_alloc w o).1
theorem allocO (w : World) (o : Obj) {k : Nat} (hk : k < w.heap.size) : (w.alloc o).heap[k]? = w.heap[k]? := Below.heap_alloc _ _ _ hk
theorem size_alloc (w : World) (o : Obj) : (w.alloc o).heap.size = w.heap.size + 1 := by simp
theorem size_setCell (w : World) (p : Addr) (v : Value) : (w.setCell p v).heap.size = w.heap.size := by simp [World.setCell]
end Go.Proofs.Ytamcchdblglfoaa.B0
