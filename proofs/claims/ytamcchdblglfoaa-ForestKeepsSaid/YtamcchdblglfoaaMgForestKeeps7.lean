/- forest: slices.Values, slices.AppendSeq, slices.Collect at spans: lines of the worked proofs GgKeysAtTheDump, GgCollectAtTheDump turned to this program. -/
import Derived.Test.YtamcchdblglfoaaMgForestKeeps6
import Derived.RangeFuncGives
import Derived.RangeFuncBound
import Derived.Shelf.SlIter.Collect
import Derived.Sort.MapsRangeIn
import Derived.Maps.AppendAt
import Derived.Shelf.Abstract
import Derived.WalkKit
import Derived.OwnWalkIn
import Derived.TacticsInMore
import Derived.RegionIn
import Derived.LoopNIn
import Derived.LoopIn
set_option linter.unusedVariables false
set_option linter.unusedSimpArgs false
namespace Go.Proofs.Ytamcchdblglfoaa.Ft
open Go.RowKit Go.Maps Go.Sort Go.Shelf Go.Proofs.Ytamcchdblglfoaa.B0 Go.Proofs.Ytamcchdblglfoaa.Pf Go.Proofs.YtamcchdblglfoaaW.PrintWords

/-- a span as it lies in memory: its content, where its attributes lie. -/
structure PS where
  s : Sp
  A : Option Addr
  c : Nat
def csP (x : PS) : List Value := [.int .u64 x.s.f0, .int .u64 x.s.f1, .int .u64 x.s.f2, .string x.s.f3, .string x.s.f4, .int .i64 x.s.f5, .int .i64 x.s.f6, .int .u64 x.s.f7, .int .u64 x.s.f8, .slice x.A x.s.f9.length x.c]
abbrev encP (x : PS) : Value := .agg #[.int .u64 x.s.f0, .int .u64 x.s.f1, .int .u64 x.s.f2, .string x.s.f3, .string x.s.f4, .int .i64 x.s.f5, .int .i64 x.s.f6, .int .u64 x.s.f7, .int .u64 x.s.f8, .slice x.A x.s.f9.length x.c]
def cells (ps : List PS) : List Value := ps.flatMap csP
theorem csP_len (x : PS) : (csP x).length = 10 := rfl
theorem csP_one (x : PS) : ∀ u ∈ csP x, u.oneCell' = true := by
  intro u hu
  simp only [csP, List.mem_cons, List.not_mem_nil, or_false] at hu
  rcases hu with rfl | rfl | rfl | rfl | rfl | rfl | rfl | rfl | rfl | rfl <;> rfl
theorem cells_len (ps : List PS) : (cells ps).length = ps.length * 10 := by
  induction ps with
  | nil => rfl
  | cons x ps ih => simp only [cells, List.flatMap_cons, List.length_append, List.length_cons] at *; rw [csP_len]; omega
theorem cells_append (ps qs : List PS) : cells (ps ++ qs) = cells ps ++ cells qs := by simp [cells]
theorem cells_one (x : PS) : cells [x] = csP x := by simp [cells]
theorem cells_at : ∀ (ps : List PS) (i j : Nat) (p : PS), ps[i]? = some p → j < 10 → (cells ps)[i * 10 + j]? = (csP p)[j]?
  | [], i, j, p, h, _ => by simp at h
  | x :: ps, 0, j, p, h, hj => by
    simp at h; subst h
    rw [show cells (x :: ps) = csP x ++ cells ps from by simp [cells], List.getElem?_append_left (by rw [csP_len]; omega)]
    simp
  | x :: ps, i + 1, j, p, h, hj => by
    simp at h
    rw [show cells (x :: ps) = csP x ++ cells ps from by simp [cells], List.getElem?_append_right (by rw [csP_len]; omega), csP_len, show (i + 1) * 10 + j - 10 = i * 10 + j from by omega]
    exact cells_at ps i j p h hj
theorem cell_lit (W : World) (l : List Value) (t : TypeId) (n : Nat) (hn : W.heap.size = n) (cs : Array Value) (hcs : cs = l.toArray) : ∀ (j : Nat) (u : Value), l[j]? = some u → (W.alloc (.cells cs t)).cell? ((⟨n, 0, none⟩ : Addr).add j) = some u := fun j u h => by
  subst hn hcs
  rw [add_plain, cellB (allocN _ _)]; simpa using h
/-- what a function value that gives spans does, to a row's end; what lay ahead of the call lies. -/
def SeqGivesB {α : Type} (F : Fence) (n : Nat) (P : Program) (g : Nat) (lb : Array Value) (enc : α → Value) (S : List α → Prop) (N : Nat) (w : World) : Prop :=
  ∀ (l : Nat) (J : List α → World → Prop) (W : World), Below w.heap.size w W → AbidesFrom W.heap.size J → (∀ pre W1, J pre W1 → Below w.heap.size w W1) →
    (∀ pre x W1, J pre W1 → pre.length < N → YieldAt F (n - 1) P l #[enc x] W1 fun e W' => e = .returned (.bool true) ∧ J (pre ++ [x]) W' ∧ KeepsWalks W1 W') →
    J [] W →
    CallsIn F n P g (#[.func (.yield l) #[] #[]] ++ lb) W fun e W' => (∃ v, e = .returned v) ∧ ∃ xs, S xs ∧ J xs W'
def apAssign : Code := (Code.region 2 #[{ dst := some 5, op := Op.alloc 44, type := 0, pos := "iter.go:51", after := #[], guard := none }, { dst := none, op := Op.store 44 (Operand.tmp 5) (Operand.tmp 7), type := 0, pos := "iter.go:51", after := #[{ on := 0, ground := Ground.data }, { on := 0, ground := Ground.phase }], guard := none }] false)
def apBody : Code := (Code.block 1 (Code.region 3 #[{ dst := some 8, op := Op.load 26 (Operand.tmp 2), type := 26, pos := "iter.go:52", after := #[], guard := none }, { dst := some 9, op := Op.load 44 (Operand.tmp 5), type := 44, pos := "iter.go:52", after := #[], guard := none }, { dst := some 10, op := Op.buildSlice 26 1 #[(0, Operand.tmp 9)], type := 26, pos := "iter.go:52", after := #[{ on := 1, ground := Ground.data }], guard := none }, { dst := some 11, op := Op.call { callee := Callee.builtin Builtin.append, args := #[Operand.tmp 8, Operand.tmp 10], argTypes := #[26, 26] }, type := 26, pos := "iter.go:52", after := #[{ on := 0, ground := Ground.data }, { on := 2, ground := Ground.data }], guard := none }, { dst := none, op := Op.store 26 (Operand.tmp 2) (Operand.tmp 11), type := 0, pos := "iter.go:52", after := #[{ on := 3, ground := Ground.data }, { on := 3, ground := Ground.chain }, { on := 0, ground := Ground.phase }, { on := 1, ground := Ground.phase }, { on := 2, ground := Ground.phase }, { on := 3, ground := Ground.phase }], guard := none }] false))
def apRec (fn : FuncId) (sv : Value) (Bs D : Nat) (st : LoopState) (pend : Option Code) : Loop :=
  { state := st, pending := pend, fn, tmps := #[.slice none 0 0, sv, .pointer (some ⟨Bs, 0, none⟩), undef, .slice none 0 0, undef, sv, undef, undef, undef, undef, undef, undef], params := #[7], assign := apAssign, body := apBody, defers := D }

structure ApAt (w0 : World) (fn : FuncId) (sv : Value) (Bs l D : Nat) (ss : List PS) (W : World) : Prop where
  box : ∃ v, W.heap[Bs]? = some (.cells #[v] 26 (0, 0)) ∧ W.ownsRow w0.heap.size 44 10 v ss.length (cells ss) ∧ (v = .slice none 0 0 ↔ ss = [])
  L : W.heap[l]? = some (.loop (apRec fn sv Bs D .ready none))
  K : W.heap[D]? = some (.deferred (some []))
  below : Below w0.heap.size w0 W


theorem ap_abides (w0 : World) (fn : FuncId) (sv : Value) (Bs l D B : Nat) (hB : w0.heap.size ≤ B) : AbidesFrom B (ApAt w0 fn sv Bs l D) := fun s W W' row h hg hrow => by
  have hrow' : ∀ r, row = some r → ∃ o : Obj, W.heap[r]? = some o ∧ o.isWalk = true := fun r e => (hrow r e).2
  obtain ⟨v, hv, hr, hn⟩ := h.box
  exact ⟨⟨v, (grownBy_keeps hg hrow' hv rfl).trans hv, ownsRow_abides_a hr hg hrow', hn⟩, (grownBy_keeps hg hrow' h.L rfl).trans h.L, (grownBy_keeps hg hrow' h.K rfl).trans h.K,
    h.below.grown hg h.below.size (fun k e => Nat.le_trans hB (hrow k e).1)⟩



theorem infoSp : (Try.prog.info? 44).map (fun i => (i.zero, i.size, i.bytes)) = some (some (.agg #[.int .u64 0, .int .u64 0, .int .u64 0, .string ⟨#[]⟩, .string ⟨#[]⟩, .int .i64 0, .int .i64 0, .int .u64 0, .int .u64 0, .slice none 0 0]), 10, 112) := by kernel_rfl

set_option maxRecDepth 100000 in
set_option maxHeartbeats 2000000 in
theorem apYield (F : Fence) (m : Nat) (w0 : World) (fn : FuncId) (hfn : F.fn fn) (sv : Value) (Bs l D : Nat) (hBl : Bs ≠ l) (hDl : D ≠ l) (hDB : D ≠ Bs) (h0B : w0.heap.size ≤ Bs) (h0l : w0.heap.size ≤ l)
    (N : Nat) (hN : N ≤ maxLen) (hNb : N * 112 ≤ 140737488355328) (ss : List PS) (x : PS) (W : World) (h : ApAt w0 fn sv Bs l D ss W) (hlen : ss.length < N) :
    YieldAt F m Try.prog l #[encP x] W fun e W' => e = .returned (.bool true) ∧ ApAt w0 fn sv Bs l D (ss ++ [x]) W' ∧ KeepsWalks W W' := by
  obtain ⟨i0, hi, hz0, hz1, hz2⟩ := info_parts infoSp
  obtain ⟨v, hv, hrow, _⟩ := h.box
  refine ⟨fn, #[.slice none 0 0, sv, .pointer (some ⟨Bs, 0, none⟩), undef, .slice none 0 0, undef, sv, encP x, undef, undef, undef, undef, undef], apAssign, apBody, by simpa [apRec] using run_yield (P := Try.prog) (args := #[encP x]) h.L rfl, roundIn_of_wpIn hfn ?_⟩
  have hl0 : l < W.heap.size := (Array.getElem?_eq_some_iff.1 h.L).1
  have hBl0 : Bs < W.heap.size := (Array.getElem?_eq_some_iff.1 hv).1
  have hDl0 : D < W.heap.size := (Array.getElem?_eq_some_iff.1 h.K).1
  obtain ⟨bx, hbx⟩ : ∃ bx, W.heap.size = bx := ⟨_, rfl⟩
  obtain ⟨W1, hW1⟩ : ∃ W1, W.alloc (.cells #[.int .u64 x.s.f0, .int .u64 x.s.f1, .int .u64 x.s.f2, .string x.s.f3, .string x.s.f4, .int .i64 x.s.f5, .int .i64 x.s.f6, .int .u64 x.s.f7, .int .u64 x.s.f8, .slice x.A x.s.f9.length x.c] 44) = W1 := ⟨_, rfl⟩
  have hx1 : W1.heap[bx]? = some (.cells #[.int .u64 x.s.f0, .int .u64 x.s.f1, .int .u64 x.s.f2, .string x.s.f3, .string x.s.f4, .int .i64 x.s.f5, .int .i64 x.s.f6, .int .u64 x.s.f7, .int .u64 x.s.f8, .slice x.A x.s.f9.length x.c] 44 (0, 0)) := by rw [← hW1, ← hbx]; exact allocN _ _
  have hs1 : W1.heap.size = bx + 1 := by rw [← hW1, ← hbx]; simp
  have hL1 : W1.heap[l]? = some (.loop (apRec fn sv Bs D .ready none)) := by rw [← hW1]; exact (Below.heap_alloc _ _ l hl0).trans h.L
  have hv1 : W1.heap[Bs]? = some (.cells #[v] 26 (0, 0)) := by rw [← hW1]; exact (Below.heap_alloc _ _ Bs hBl0).trans hv
  have hK1 : W1.heap[D]? = some (.deferred (some [])) := by rw [← hW1]; exact (Below.heap_alloc _ _ D hDl0).trans h.K
  have hrow1 : W1.ownsRow w0.heap.size 44 10 v ss.length (cells ss) := by rw [← hW1]; exact hrow.alloc _
  have hb1 : Below w0.heap.size w0 W1 := by rw [← hW1]; exact h.below.alloc h.below.size _
  have hk1 : KeepsWalks W W1 := by rw [← hW1]; exact KeepsWalks.alloc _ _
  have hl : l < W1.heap.size := (Array.getElem?_eq_some_iff.1 hL1).1
  have hbl : bx ≠ l := by omega
  have hbr := run_beginRound (P := Try.prog) hL1 rfl
  obtain ⟨W2, hW2⟩ : ∃ W2, W1.putObj l (.loop { apRec fn sv Bs D .ready none with state := .busy }) = W2 := ⟨_, rfl⟩
  rw [hW2] at hbr
  have hg2 : W1.grownBy W2 (some l) := by rw [← hW2]; exact grownBy_putObj_a _ _ _
  have hk2 : KeepsWalks W W2 := hk1.trans (by rw [← hW2]; exact KeepsWalks.putObj _ hL1 rfl)
  have hv2 : W2.heap[Bs]? = some (.cells #[v] 26 (0, 0)) := by rw [← hW2]; exact (World.putObj_heap_other hBl).trans hv1
  have hx2 : W2.heap[bx]? = some (.cells #[.int .u64 x.s.f0, .int .u64 x.s.f1, .int .u64 x.s.f2, .string x.s.f3, .string x.s.f4, .int .i64 x.s.f5, .int .i64 x.s.f6, .int .u64 x.s.f7, .int .u64 x.s.f8, .slice x.A x.s.f9.length x.c] 44 (0, 0)) := by rw [← hW2]; exact (World.putObj_heap_other hbl).trans hx1
  have hK2 : W2.heap[D]? = some (.deferred (some [])) := by rw [← hW2]; exact (World.putObj_heap_other hDl).trans hK1
  have hL2 : W2.heap[l]? = some (.loop { apRec fn sv Bs D .ready none with state := .busy }) := by rw [← hW2]; exact World.putObj_heap_same hl
  have hrow2 : W2.ownsRow w0.heap.size 44 10 v ss.length (cells ss) := hrow1.kept hg2 (ownsRow_ne_a hrow1 hL1 (fun cur e => by cases e))
  have hb2 : Below w0.heap.size w0 W2 := hb1.grown hg2 hb1.size (fun k e => by cases e; exact h0l)
  have d0 : W2.cell? ⟨bx, 0, none⟩ = some (.int .u64 x.s.f0) := by rw [cellB hx2]; rfl
  have d1 : W2.cell? ⟨bx, 1, none⟩ = some (.int .u64 x.s.f1) := by rw [cellB hx2]; rfl
  have d2 : W2.cell? ⟨bx, 2, none⟩ = some (.int .u64 x.s.f2) := by rw [cellB hx2]; rfl
  have d3 : W2.cell? ⟨bx, 3, none⟩ = some (.string x.s.f3) := by rw [cellB hx2]; rfl
  have d4 : W2.cell? ⟨bx, 4, none⟩ = some (.string x.s.f4) := by rw [cellB hx2]; rfl
  have d5 : W2.cell? ⟨bx, 5, none⟩ = some (.int .i64 x.s.f5) := by rw [cellB hx2]; rfl
  have d6 : W2.cell? ⟨bx, 6, none⟩ = some (.int .i64 x.s.f6) := by rw [cellB hx2]; rfl
  have d7 : W2.cell? ⟨bx, 7, none⟩ = some (.int .u64 x.s.f7) := by rw [cellB hx2]; rfl
  have d8 : W2.cell? ⟨bx, 8, none⟩ = some (.int .u64 x.s.f8) := by rw [cellB hx2]; rfl
  have d9 : W2.cell? ⟨bx, 9, none⟩ = some (.slice x.A x.s.f9.length x.c) := by rw [cellB hx2]; rfl
  obtain ⟨hc2, hf2⟩ := cell_of_box_a hv2
  have hBlt : Bs < W2.heap.size := (Array.getElem?_eq_some_iff.1 hv2).1
  have hl2 : l < W2.heap.size := (Array.getElem?_eq_some_iff.1 hL2).1
  have hDlt : D < W2.heap.size := (Array.getElem?_eq_some_iff.1 hK2).1
  have ne_of : ∀ {j : Nat} {o : Obj}, W2.heap[j]? = some o → (∀ cur, o ≠ .cells cur 44 (0, 0)) → some j ≠ v.ownBlock := fun hj hno => by
    rcases ownsRow_ne_a hrow2 hj hno with e | e
    · rw [e]; simp
    · exact fun e' => e e'.symm
  clear hW2 hx2 hx1 hs1 hbl
  unfold apAssign
  gi_wp2_with gi_round_op_a
  unfold apBody
  gi_wp2_with (first
    | (gi_at_builtin; go_loud (refine wpListIn_append_own _ rfl _ _ 26 rfl w0.heap.size 44 i0 (.agg #[.int .u64 0, .int .u64 0, .int .u64 0, .string ⟨#[]⟩, .string ⟨#[]⟩, .int .i64 0, .int .i64 0, .int .u64 0, .int .u64 0, .slice none 0 0]) 10 112 Try.underlying26 hi hz0 hz1 hz2 rfl (by decide) _ _ _ rfl (hrow2.alloc _) ⟨W2.heap.size, 0, none⟩ 1 1 (csP x) rfl rfl (cell_lit _ (csP x) _ _ rfl _ rfl) (csP_one x) (by omega) (by omega) (by have := hb2.size; simp; omega) ?_); intro v' w3 hown' hg3 hnil3
       have hv3 : w3.heap[Bs]? = some (.cells #[v] 26 (0, 0)) := (hg3.block Bs (by simp; omega) (ne_of hv2 (fun cur e => by cases e))).trans ((Below.heap_alloc _ _ Bs hBlt).trans hv2)
       obtain ⟨hc3, hf3⟩ := cell_of_box_a hv3
       obtain ⟨g', cap', cur', rfl, hbase', hgb', hr1, hr2, hr3, hr4⟩ : ∃ g' cap' cur', v' = .slice (some ⟨g', 0, none⟩) (ss.length + 1) cap' ∧ w0.heap.size ≤ g' ∧ w3.heap[g']? = some (.cells cur' 44 (0, 0)) ∧ ss.length + 1 ≤ cap' ∧ cap' ≤ maxLen ∧ cur'.size = cap' * 10 ∧ cur'.toList.take ((ss.length + 1) * 10) = cells ss ++ csP x := by
         rcases hown'.2 with ⟨_, h0⟩ | h'
         · exact absurd h0 (by omega)
         · exact h'
       go_frame)
    | gi_round_op_a)
  have hg3' : (W2.alloc (.cells (csP x).toArray 44)).grownBy w3 v.ownBlock := hg3
  have hL3 : w3.heap[l]? = some (.loop { apRec fn sv Bs D .ready none with state := .busy }) := (hg3'.block l (by simp; omega) (ne_of hL2 (fun cur e => by cases e))).trans ((Below.heap_alloc _ _ l hl2).trans hL2)
  have hK3 : w3.heap[D]? = some (.deferred (some [])) := (hg3'.block D (by simp; omega) (ne_of hK2 (fun cur e => by cases e))).trans ((Below.heap_alloc _ _ D hDlt).trans hK2)
  obtain ⟨w4, hw4⟩ : ∃ w4, w3.setCell ⟨Bs, 0, none⟩ (.slice (some ⟨g', 0, none⟩) (ss.length + 1) cap') = w4 := ⟨_, rfl⟩
  rw [hw4]
  have hg4 : w3.grownBy w4 (some Bs) := by rw [← hw4]; exact grownBy_setCell0_a _ _ _
  have hv4 : w4.heap[Bs]? = some (.cells #[.slice (some ⟨g', 0, none⟩) (ss.length + 1) cap'] 26 (0, 0)) := by rw [← hw4]; exact heap_setCell_box_a _ hv3
  have hL4 : w4.heap[l]? = some (.loop { apRec fn sv Bs D .ready none with state := .busy }) := (hg4.block l (Array.getElem?_eq_some_iff.1 hL3).1 (fun e => hBl (by cases e; rfl))).trans hL3
  have hK4 : w4.heap[D]? = some (.deferred (some [])) := (hg4.block D (Array.getElem?_eq_some_iff.1 hK3).1 (fun e => hDB (by cases e; rfl))).trans hK3
  have hrow4 := hown'.kept hg4 (ownsRow_ne_a hown' hv3 (fun cur e => by cases e))
  have hl4 : l < w4.heap.size := (Array.getElem?_eq_some_iff.1 hL4).1
  have hb3 : Below w0.heap.size w0 w3 := (hb2.alloc hb2.size _).grown hg3' (by have := hb2.size; simp; omega) (fun k e => (hrow2.lt k e).1)
  have hb4 : Below w0.heap.size w0 w4 := hb3.grown hg4 hb3.size (fun k e => by cases e; exact h0B)
  have hk4 : KeepsWalks W w4 := ((hk2.trans (KeepsWalks.alloc _ _)).trans (KeepsWalks.of_grownBy hg3' (ownsRow_not_walk_a (hrow2.alloc _)))).trans (by rw [← hw4]; exact KeepsWalks.setCell _ _ _)
  clear hw4
  refine ⟨_, _, run_endRound none hL4, rfl, ⟨⟨_, (World.putObj_heap_other hBl).trans hv4, ?_, by simp⟩, World.putObj_heap_same hl4, (World.putObj_heap_other hDl).trans hK4, hb4.grown (grownBy_putObj_a _ _ _) hb4.size (fun k e => by cases e; exact h0l)⟩, hk4.trans (KeepsWalks.putObj _ hL4 rfl)⟩
  have := hrow4.kept (grownBy_putObj_a w4 l (.loop { { apRec fn sv Bs D .ready none with state := .busy } with state := if (none : Option Code).isNone then .ready else .done, pending := none })) (ownsRow_ne_a hrow4 hL4 (fun cur e => by cases e))
  rw [cells_append, cells_one]
  simpa using this


set_option maxRecDepth 100000 in
set_option maxHeartbeats 2000000 in
theorem appendSeq_in (F : Fence) (n : Nat) (h11 : F.fn 102) (hro : F.round = none) (hn : 2 ≤ n) (g : Nat) (lb : Array Value) (hFg : F.fn g) (eg : ∀ args w, (callFunc g args).run Try.prog w = .ok (.enter g args) w)
    (S : List PS → Prop) (N : Nat) (hN : N ≤ maxLen) (hNb : N * 112 ≤ 140737488355328) (w : World) (hseq : SeqGivesB F (n - 1) Try.prog g lb encP S N w) :
    CallsIn F n Try.prog 102 #[.slice none 0 0, .func (.func g) #[] lb] w fun e w' => ∃ (v : Value) (ss : List PS), e = .returned v ∧ S ss ∧ w'.ownsRow w.heap.size 44 10 v ss.length (cells ss) ∧ (v = .slice none 0 0 ↔ ss = []) ∧ Below w.heap.size w w' := by
  have h1 : 1 ≤ n := by omega
  refine callsIn_of_wp_marks Try.func102 rfl h11 ?_ hro
  simp only [Try.ntmps102, List.size_toArray, List.length_cons, List.length_nil, Nat.reduceAdd, Nat.reduceSub, Array.replicate_succ, Array.replicate_zero, List.push_toArray, List.append_toArray, List.nil_append, List.cons_append]
  gi_wp2
  refine wpIn_rangeFunc ?_
  intro fn hfn
  rw [hro]
  obtain ⟨W0, hW0⟩ : ∃ W0, w.alloc (.cells #[.slice none 0 0] 26) = W0 := ⟨_, rfl⟩
  have hs0 : W0.heap.size = w.heap.size + 1 := by rw [← hW0]; simp
  have hv0 : W0.heap[w.heap.size]? = some (.cells #[.slice none 0 0] 26 (0, 0)) := by rw [← hW0]; exact World.alloc_heap_new w _
  have hb0 : Below w.heap.size w W0 := by rw [← hW0]; exact (Below.refl _ w).alloc (Nat.le_refl _) _
  rw [hW0]
  obtain ⟨W1, hW1⟩ : ∃ W1, (W0.alloc (.deferred (some []))).alloc (.loop (apRec fn (.func (.func g) #[] lb) w.heap.size W0.heap.size .ready none)) = W1 := ⟨_, rfl⟩
  have hold : ∀ k, k < W0.heap.size → W1.heap[k]? = W0.heap[k]? := fun k hk => by
    rw [← hW1]; exact (Below.heap_alloc _ _ k (by simp; omega)).trans (Below.heap_alloc _ _ k hk)
  have hb1 : Below w.heap.size w W1 := by rw [← hW1]; exact (hb0.alloc hb0.size _).alloc (by have := hb0.size; simp; omega) _
  have hs1 : W1.heap.size = W0.heap.size + 2 := by rw [← hW1]; simp
  have hM : ApAt w fn (.func (.func g) #[] lb) w.heap.size (W0.heap.size + 1) W0.heap.size [] W1 :=
    ⟨⟨_, (hold w.heap.size (by omega)).trans hv0, ⟨rfl, .inl ⟨rfl, rfl⟩⟩, by simp⟩,
     by rw [← hW1]; have := World.alloc_heap_new (W0.alloc (.deferred (some []))) (.loop (apRec fn (.func (.func g) #[] lb) w.heap.size W0.heap.size .ready none)); rwa [World.size_alloc] at this,
     by rw [← hW1]; exact (Below.heap_alloc _ _ _ (by simp)).trans (World.alloc_heap_new W0 _), hb1⟩
  refine ⟨W0.heap.size + 1, [{ target := .collected W0.heap.size, args := #[] }], W1, { target := .fn (.func g) lb, args := #[.func (.yield (W0.heap.size + 1)) #[] #[]] }, W1, g,
    #[.func (.yield (W0.heap.size + 1)) #[] #[]] ++ lb, W1, ?_, ?_, ?_, ?_, fun _ => h1, ?_⟩
  · rw [← hW1]; exact run_enterLoop_outer _ _ _ _ _
  · simp [resolve, go_sem]
  · intro f' hf'; simp [Target.leads] at hf'; subst hf'; exact hFg
  · simp [invoke, go_sem, eg]
  · refine (hseq (W0.heap.size + 1) (ApAt w fn (.func (.func g) #[] lb) w.heap.size (W0.heap.size + 1) W0.heap.size) W1 hb1 (ap_abides _ _ _ _ _ _ _ hb1.size)
      (fun pre W hJ => hJ.below) (fun pre x W hJ hl => apYield F (n - 1 - 1) w fn hfn _ w.heap.size (W0.heap.size + 1) W0.heap.size (by omega) (by omega) (by omega) (Nat.le_refl _) (by omega) N hN hNb pre x W hJ hl) hM).mono ?_
    rintro e W2 ⟨⟨v0, rfl⟩, ss, hS, h2⟩
    obtain ⟨v, hv, hrow, hnil⟩ := h2.box
    have hend := run_endLoop (P := Try.prog) h2.L (by simp [apRec])
    obtain ⟨W3, hW3⟩ : ∃ W3, W2.putObj (W0.heap.size + 1) (.loop { apRec fn (.func (.func g) #[] lb) w.heap.size W0.heap.size .ready none with state := .exhausted }) = W3 := ⟨_, rfl⟩
    rw [hW3] at hend
    have hg3 : W2.grownBy W3 (some (W0.heap.size + 1)) := by rw [← hW3]; exact grownBy_putObj_a _ _ _
    have hv3 : W3.heap[w.heap.size]? = some (.cells #[v] 26 (0, 0)) := by rw [← hW3]; exact (World.putObj_heap_other (by omega)).trans hv
    have hK3 : W3.heap[W0.heap.size]? = some (.deferred (some [])) := by rw [← hW3]; exact (World.putObj_heap_other (by omega)).trans h2.K
    have hrow3 := hrow.kept hg3 (ownsRow_ne_a hrow h2.L (fun cur e => by cases e))
    have hb3 : Below w.heap.size w W3 := h2.below.grown hg3 h2.below.size (fun k e => by cases e; omega)
    obtain ⟨hc3, hf3⟩ := cell_of_box_a hv3
    clear hW3
    refine ⟨none, W3, hend, ?_⟩
    gi_wp2
    rw [← hs0]
    refine ⟨by simp, .inl ⟨_, _, rfl, run_takeDeferred hK3, ?_⟩⟩
    exact ⟨_, results_tmp rfl _ _ _, v, ss, rfl, hS, hrow3.kept (grownBy_putObj_a _ _ _) (ownsRow_ne_a hrow3 hK3 (fun cur e => by cases e)), hnil, hb3.grown (grownBy_putObj_a _ _ _) hb3.size (fun k e => by cases e; omega)⟩


set_option maxHeartbeats 1000000 in
theorem collect_in (F : Fence) (n : Nat) (h8 : F.fn 91) (h11 : F.fn 102) (hro : F.round = none) (hn : 3 ≤ n) (g : Nat) (lb : Array Value) (hFg : F.fn g) (eg : ∀ args w, (callFunc g args).run Try.prog w = .ok (.enter g args) w)
    (S : List PS → Prop) (N : Nat) (hN : N ≤ maxLen) (hNb : N * 112 ≤ 140737488355328) (w : World) (hseq : SeqGivesB F (n - 1 - 1) Try.prog g lb encP S N w) :
    CallsIn F n Try.prog 91 #[.func (.func g) #[] lb] w fun e w' => ∃ (v : Value) (ss : List PS), e = .returned v ∧ S ss ∧ w'.ownsRow w.heap.size 44 10 v ss.length (cells ss) ∧ (v = .slice none 0 0 ↔ ss = []) ∧ Below w.heap.size w w' := by
  have h1 : 1 ≤ n := by omega
  refine callsIn_of_wp Try.func91 rfl h8 ?_ hro
  simp only [Try.ntmps91, List.size_toArray, List.length_cons, List.length_nil, Nat.reduceAdd, Nat.reduceSub, Array.replicate_succ, Array.replicate_zero, List.push_toArray, List.append_toArray, List.nil_append, List.cons_append]
  gi_wp2_with (gi_at_call 102; refine (appendSeq_in F (n - 1) h11 hro (by omega) g lb hFg eg S N hN hNb _ hseq).mono ?_; rintro e w' ⟨v, ss, rfl, hS, hrow, hnil, hb⟩)
  go_ret
  exact ⟨v, ss, rfl, hS, hrow, hnil, hb⟩

/-- a row of spans that is read. -/
def RowP (w : World) (A : Option Addr) (ps : List PS) : Prop := ∀ (i : Nat) (p : PS), ps[i]? = some p → ∃ ad, A = some ad ∧ ∀ (j : Nat) (u : Value), (csP p)[j]? = some u → w.cell? (ad.add (i * 10 + j)) = some u
theorem RowP.below {w w' : World} {A : Option Addr} {ps : List PS} (h : RowP w A ps) (hb : Below w.heap.size w w') : RowP w' A ps := fun i p hi => by
  obtain ⟨ad, e, hc⟩ := h i p hi
  exact ⟨ad, e, fun j u hu => pw_cell_below hb (hc j u hu)⟩
set_option maxRecDepth 100000 in
set_option maxHeartbeats 2000000 in
theorem vals_gives (F : Fence) (n : Nat) (h10 : F.fn 93) (hro : F.round = none) (hn : 1 ≤ n) (Bm : Nat) (A : Option Addr) (c : Nat) (ps : List PS) (w : World)
    (hm : w.cell? ⟨Bm, 0, none⟩ = some (.slice A ps.length c)) (hrow : RowP w A ps) (hN : ps.length ≤ 1000000) :
    SeqGivesB F n Try.prog 93 #[.pointer (some ⟨Bm, 0, none⟩)] encP (fun xs => xs = ps) ps.length w := fun l J W hW hJ hB hY h0 => by
  obtain ⟨N, hNn⟩ : ∃ N, Hid (ps.length = N) := ⟨_, Lib.hid rfl⟩
  rw [hNn.out] at hm hN hY
  have HR := Lib.hid hrow; clear hrow
  have hmW : W.cell? ⟨Bm, 0, none⟩ = some (.slice A N c) := pw_cell_below hW hm
  have HB := Lib.hid hB; clear hB
  clear hm
  refine callsIn_of_wp Try.func93 rfl h10 ?_ hro
  simp only [Try.ntmps93, List.size_toArray, List.length_cons, List.length_nil, Nat.reduceAdd, Nat.reduceSub, Array.replicate_succ, Array.replicate_zero, List.push_toArray, List.append_toArray, List.nil_append, List.cons_append]
  gi_wp2
  gi_loopw [7] (fun iv wr => ∃ i : Nat, iv = .int .i64 i ∧ i ≤ N ∧ J (ps.take i) wr) (fun iv _ => N - (intOf iv).toNat)
  case atStart => exact ⟨0, rfl, Nat.zero_le _, by rw [List.take_zero]; exact h0⟩
  case round =>
    obtain ⟨i, rfl, hi, hJs⟩ := hrel
    by_cases hlt : i < N
    · have hki : (i : Int) < (N : Int) := by omega
      obtain ⟨p, hp⟩ : ∃ p, ps[i]? = some p := ⟨_, List.getElem?_eq_getElem (by rw [hNn.out]; exact hlt)⟩
      obtain ⟨ad, rfl, hc⟩ := (HR.out.below (HB.out _ _ hJs)) i p hp
      obtain ⟨qa, hqa⟩ : ∃ qa, Hid (ad.add (i * 10) = qa) := ⟨_, Lib.hid rfl⟩
      have hqo := hqa.out
      have d0 : wr.cell? qa = some (.int .u64 p.s.f0) := by rw [← hqa.out]; exact hc 0 _ rfl
      have d1 : wr.cell? ⟨qa.block, qa.off + 1, none⟩ = some (.int .u64 p.s.f1) := by have := hc 1 _ rfl; rw [add_field ad _ _ (by omega), hqa.out] at this; exact this
      have d2 : wr.cell? ⟨qa.block, qa.off + 2, none⟩ = some (.int .u64 p.s.f2) := by have := hc 2 _ rfl; rw [add_field ad _ _ (by omega), hqa.out] at this; exact this
      have d3 : wr.cell? ⟨qa.block, qa.off + 3, none⟩ = some (.string p.s.f3) := by have := hc 3 _ rfl; rw [add_field ad _ _ (by omega), hqa.out] at this; exact this
      have d4 : wr.cell? ⟨qa.block, qa.off + 4, none⟩ = some (.string p.s.f4) := by have := hc 4 _ rfl; rw [add_field ad _ _ (by omega), hqa.out] at this; exact this
      have d5 : wr.cell? ⟨qa.block, qa.off + 5, none⟩ = some (.int .i64 p.s.f5) := by have := hc 5 _ rfl; rw [add_field ad _ _ (by omega), hqa.out] at this; exact this
      have d6 : wr.cell? ⟨qa.block, qa.off + 6, none⟩ = some (.int .i64 p.s.f6) := by have := hc 6 _ rfl; rw [add_field ad _ _ (by omega), hqa.out] at this; exact this
      have d7 : wr.cell? ⟨qa.block, qa.off + 7, none⟩ = some (.int .u64 p.s.f7) := by have := hc 7 _ rfl; rw [add_field ad _ _ (by omega), hqa.out] at this; exact this
      have d8 : wr.cell? ⟨qa.block, qa.off + 8, none⟩ = some (.int .u64 p.s.f8) := by have := hc 8 _ rfl; rw [add_field ad _ _ (by omega), hqa.out] at this; exact this
      have d9 : wr.cell? ⟨qa.block, qa.off + 9, none⟩ = some (.slice p.A p.s.f9.length p.c) := by have := hc 9 _ rfl; rw [add_field ad _ _ (by omega), hqa.out] at this; exact this
      have HP := Lib.hid hp; clear hp hc
      have hJ2 : J (ps.take i) (wr.alloc (.cells #[.int .u64 p.s.f0, .int .u64 p.s.f1, .int .u64 p.s.f2, .string p.s.f3, .string p.s.f4, .int .i64 p.s.f5, .int .i64 p.s.f6, .int .u64 p.s.f7, .int .u64 p.s.f8, .slice p.A p.s.f9.length p.c] 44)) := hJ _ wr _ none hJs (World.grownBy_alloc _ _ none) (fun r e => by cases e)
      obtain ⟨fn, tmps, assign, body, hy, hR⟩ := hY (ps.take i) p _ hJ2 (by rw [List.length_take]; omega)
      have HT : Hid (ps.take i ++ [p] = ps.take (i + 1)) := by
        have := HP.out
        rw [List.take_add_one, this]; exact Lib.hid rfl
      clear hJ2 hJs
      gi_wp2
      refine hR.mono ?_
      rintro e W3 ⟨rfl, hJ3, hk3⟩
      rw [HT.out] at hJ3
      gi_wp2
      go_roundw
      case rel => exact ⟨i + 1, by go_num, by omega, hJ3⟩
      case measure => simp [intOf]; omega
    · obtain rfl : i = N := by omega
      have HJ : Hid (J ps wr) := by rw [List.take_of_length_le (by rw [hNn.out]; exact Nat.le_refl _)] at hJs; exact Lib.hid hJs
      clear hJs
      gi_wp2
      go_end0
      exact ⟨⟨_, rfl⟩, ps, rfl, HJ.out⟩
set_option maxHeartbeats 1000000 in
theorem vals_in (F : Fence) (n : Nat) (h7 : F.fn 75) (hro : F.round = none) (A : Option Addr) (m c : Nat) (w : World) :
    CallsIn F n Try.prog 75 #[.slice A m c] w fun e w' => e = .returned (.func (.func 93) #[] #[.pointer (some ⟨w.heap.size, 0, none⟩)]) ∧ w' = w.alloc (.cells #[.slice A m c] 26) := by
  refine callsIn_of_wp Try.func75 rfl h7 ?_ hro
  simp only [Try.ntmps75, List.size_toArray, List.length_cons, List.length_nil, Nat.reduceAdd, Nat.reduceSub, Array.replicate_succ, Array.replicate_zero, List.push_toArray, List.append_toArray, List.nil_append, List.cons_append]
  gi_wp2
  go_ret
  exact ⟨rfl, rfl⟩
end Go.Proofs.Ytamcchdblglfoaa.Ft
