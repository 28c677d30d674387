/- script: step (of a line), as a Call. -/
import Derived.Test.YtbcdlbdljejlcaaDoorSc5
set_option linter.unusedVariables false
set_option linter.unusedSimpArgs false
namespace Go.Proofs.YtbcdlbdljejlcaaDoor.Sc
open Go.RowKit Go.Proofs.YtbcdlbdljejlcaaDoor.B0 Go.Proofs.YtbcdlbdljejlcaaDoor.Ps Go.Proofs.YtbcdlbdljejlcaaDoorW.PrintWords Go.Proofs.YtbcdlbdljejlcaaDoor.Bld

theorem cells_split (w : World) (ws : List (List UInt8)) (t : TypeId) (j : Nat) (x : List UInt8) (h : ws[j]? = some x) : (w.alloc (.cells (ws.map strV).toArray t)).cell? ⟨w.heap.size, j, none⟩ = some (strV x) := by
  rw [World.cell?_alloc_at _ _ _ _ rfl, List.getElem?_toArray, List.getElem?_map, h]; rfl
def stepV (y : Stp) (v : Value) : Value := .agg #[.int .i64 y.f0, .int .i64 y.f1, .int .i64 y.f2, v]
/-- the named result lies in block b. -/
def RV (w : World) (b : Nat) (v0 v1 v2 v3 : Value) : Prop := w.heap[b]? = some (.cells #[v0, v1, v2, v3] 32 (0, 0))
theorem RV.below {w w' : World} {b : Nat} {v0 v1 v2 v3 : Value} (h : RV w b v0 v1 v2 v3) (hb : Below w.heap.size w w') : RV w' b v0 v1 v2 v3 := (hb.block b (lt_of_get h)).trans h
theorem RV.cells {w : World} {b : Nat} {v0 v1 v2 v3 : Value} (h : RV w b v0 v1 v2 v3) : w.cell? ⟨b, 0, none⟩ = some v0 ∧ w.cell? ⟨b, 1, none⟩ = some v1 ∧ w.cell? ⟨b, 2, none⟩ = some v2 ∧ w.cell? ⟨b, 3, none⟩ = some v3 :=
  ⟨by rw [Lib.cell_of_heap h]; rfl, by rw [Lib.cell_of_heap h]; rfl, by rw [Lib.cell_of_heap h]; rfl, by rw [Lib.cell_of_heap h]; rfl⟩
theorem RV.free {w : World} {b : Nat} {v0 v1 v2 v3 : Value} (h : RV w b v0 v1 v2 v3) : w.frozen? ⟨b, 0, none⟩ = false ∧ w.frozen? ⟨b, 1, none⟩ = false ∧ w.frozen? ⟨b, 2, none⟩ = false ∧ w.frozen? ⟨b, 3, none⟩ = false :=
  ⟨Lib.frozen_of_heap h 0, Lib.frozen_of_heap h 1, Lib.frozen_of_heap h 2, Lib.frozen_of_heap h 3⟩
theorem RV.put {w : World} {b : Nat} {v0 v1 v2 v3 : Value} (h : RV w b v0 v1 v2 v3) (x0 x1 x2 x3 : Value) : RV ((((w.setCell ⟨b, 0, none⟩ x0).setCell ⟨b, 1, none⟩ x1).setCell ⟨b, 2, none⟩ x2).setCell ⟨b, 3, none⟩ x3) b x0 x1 x2 x3 :=
  blk_put (cs := #[x0, x1, x2, v3]) (blk_put (cs := #[x0, x1, v2, v3]) (blk_put (cs := #[x0, v1, v2, v3]) (blk_put (cs := #[v0, v1, v2, v3]) h 0 _ rfl) 1 _ rfl) 2 _ rfl) 3 _ rfl
theorem OB.set {w : World} {k : Nat} {v : Value} {xs : List Int} (h : OB w k v xs) (b j : Nat) (hb : b < k) (x : Value) : OB (w.setCell ⟨b, j, none⟩ x) k v xs := by
  refine ⟨h.1, ?_⟩
  rcases h.2 with h0 | ⟨g, cap, cur, e1, e2, e3, e4⟩
  · exact .inl h0
  · exact .inr ⟨g, cap, cur, e1, e2, (Below.heap_setCell w ⟨b, j, none⟩ x g (by show g ≠ b; omega)).trans e3, e4⟩
theorem ret_step {R : Ending → World → Prop} {a : Act} {w : World} {b : Nat} {v0 v1 v2 v3 : Value} (hp : a.tmps.getD 2 undef = .pointer (some ⟨b, 0, none⟩)) (hd : a.defers = []) (h : RV w b v0 v1 v2 v3)
    (hR : R (.returned (.tuple #[.agg #[v0, v1, v2, v3], a.tmps.getD 3 undef])) w) : bodyPost Tryd.prog Tryd.f16 R .ret a w := by
  refine bodyPost_ret (v := .tuple #[.agg #[v0, v1, v2, v3], a.tmps.getD 3 undef]) ?_ hd hR
  rw [results_cell_tmp rfl, hp]
  have := run_loadVar_row w b 32 32 #[v0, v1, v2, v3] (0, 0) _ h Tryd.underlying32 rfl (by kernel_rfl)
  simp [asAddr, Result.andThen, this]
/-- the words in block b. -/
def WS (w : World) (b : Nat) (ws : List (List UInt8)) : Prop := ∀ j x, ws[j]? = some x → w.cell? ⟨b, j, none⟩ = some (strV x)
theorem WS.below {w w' : World} {b : Nat} {ws : List (List UInt8)} (h : WS w b ws) (hb : Below w.heap.size w w') : WS w' b ws := fun j x hx => by
  have := h j x hx
  rw [World.cell?_of_block (hb.block _ (World.block_lt_of_cell? w _ this))]; exact this
theorem split_facts {w w1 : World} {ws : List (List UInt8)} (h : w1 = (w.alloc (.cells #[.int .i64 0, .int .i64 0, .int .i64 0, .slice none 0 0] 32)).alloc (.cells (ws.map strV).toArray 9)) :
    RV w1 w.heap.size (.int .i64 0) (.int .i64 0) (.int .i64 0) (.slice none 0 0) ∧ WS w1 (w.heap.size + 1) ws ∧ Below w.heap.size w w1 := by
  have h0 : RV (w.alloc (.cells #[.int .i64 0, .int .i64 0, .int .i64 0, .slice none 0 0] 32)) w.heap.size (.int .i64 0) (.int .i64 0) (.int .i64 0) (.slice none 0 0) := by
    unfold RV; exact Array.getElem?_push_size ..
  have hs : (w.alloc (.cells #[.int .i64 0, .int .i64 0, .int .i64 0, .slice none 0 0] 32)).heap.size = w.heap.size + 1 := Array.size_push ..
  subst h
  refine ⟨h0.below ((Below.refl _ _).alloc (Nat.le_refl _) _), ?_, ((Below.refl _ _).alloc (Nat.le_refl _) _).alloc (by rw [hs]; omega) _⟩
  intro j x hx
  have := cells_split (w.alloc (.cells #[.int .i64 0, .int .i64 0, .int .i64 0, .slice none 0 0] 32)) ws 9 j x hx
  rw [hs] at this
  exact this

set_option maxHeartbeats 4000000 in
set_option maxRecDepth 100000 in
theorem step_A (s : ByteArray) (hs : s.size ≤ 5000000) (w : World) (h : LP w) (a b : List UInt8) (hw : wordsL s.data.toList = [sDeliver, a, b]) (ha : a.length ≤ s.size) (hb : b.length ≤ s.size) :
    Calls Tryd.prog 16 #[.string s] w fun e w' => ∃ (y : Stp) (v : Value), e = .returned (.tuple #[stepV y v, .bool (stepL s.data.toList).isSome]) ∧ (∀ x, stepL s.data.toList = some x → y = x) ∧ OB w' w.heap.size v y.f3 ∧ Below w.heap.size w w' := by
  have HL := Lib.hid h; clear h
  have HW := Lib.hid hw; clear hw
  have hsz : (w.alloc (.cells #[.int .i64 0, .int .i64 0, .int .i64 0, .slice none 0 0] 32)).heap.size = w.heap.size + 1 := Array.size_push ..
  have HZ := Lib.hid hsz; clear hsz
  go_enter Tryd.func16, Tryd.ntmps16
  go_wp2_with fail
  refine (Split_c s _ hs (HL.out.below ((Below.refl _ _).alloc (Nat.le_refl _) _))).mono ?_
  rintro e w1 ⟨rfl, hw1⟩
  rw [HW.out] at hw1 ⊢
  rw [HZ.out]
  have HF := Lib.hid (split_facts hw1); clear hw1
  obtain ⟨sa, hsa⟩ : ∃ sa : ByteArray, Hid (sa = ⟨a.toArray⟩) := ⟨_, Lib.hid rfl⟩
  obtain ⟨sb, hsb⟩ : ∃ sb : ByteArray, Hid (sb = ⟨b.toArray⟩) := ⟨_, Lib.hid rfl⟩
  have k0 : w1.cell? ⟨w.heap.size + 1, 0, none⟩ = some (.string ⟨#[100, 101, 108, 105, 118, 101, 114]⟩) := HF.out.2.1 0 _ rfl
  have k1 : w1.cell? ⟨w.heap.size + 1, 1, none⟩ = some (.string sa) := by rw [hsa.out]; exact HF.out.2.1 1 _ rfl
  have k2 : w1.cell? ⟨w.heap.size + 1, 2, none⟩ = some (.string sb) := by rw [hsb.out]; exact HF.out.2.1 2 _ rfl
  have hsas : sa.size = a.length := by rw [hsa.out]; rfl
  have hsbs : sb.size = b.length := by rw [hsb.out]; rfl
  have HSA : Hid (sa.data.toList = a ∧ sa.size ≤ 5000000) := ⟨by rw [hsa.out], by omega⟩
  have HSB : Hid (sb.data.toList = b ∧ sb.size ≤ 5000000) := ⟨by rw [hsb.out], by omega⟩
  clear hsa hsb hsas hsbs ha hb
  have HLw : Hid (LP w1) := HL.out.below HF.out.2.2
  go_wp2_with fail
  refine (small_c sa _ HSA.out.2 HLw.out).mono ?_
  rintro e w2 ⟨rfl, hb2⟩
  rw [HSA.out.1]
  obtain ⟨⟨n, ok⟩, hn⟩ : ∃ p : Int × Bool, Hid (smallL a = p) := ⟨_, Lib.hid rfl⟩
  rw [hn.out]
  have k22 : w2.cell? ⟨w.heap.size + 1, 2, none⟩ = some (.string sb) := by
    rw [World.cell?_of_block (hb2.block _ (World.block_lt_of_cell? w1 _ k2))]; exact k2
  have HF2 : Hid (RV w2 w.heap.size (.int .i64 0) (.int .i64 0) (.int .i64 0) (.slice none 0 0) ∧ Below w.heap.size w w2) := ⟨HF.out.1.below hb2, HF.out.2.2.trans (hb2.mono HF.out.2.2.size)⟩
  clear k0 k1 k2 hb2 HF
  go_wp2_with fail
  refine (bytes_c sb HSB.out.2 _).mono ?_
  rintro e w3 ⟨v, xs, rfl, hxs, hO, hb3⟩
  rw [HSB.out.1] at hxs ⊢
  obtain ⟨is, his⟩ : ∃ is, Hid ((unhex b).isSome = is) := ⟨_, Lib.hid rfl⟩
  rw [his.out]
  have HX := Lib.hid hxs
  have HF3 : Hid (RV w3 w.heap.size (.int .i64 0) (.int .i64 0) (.int .i64 0) (.slice none 0 0) ∧ Below w.heap.size w w3 ∧ OB w3 (w.heap.size + 1) v xs) := ⟨HF2.out.1.below hb3, HF2.out.2.trans (hb3.mono HF2.out.2.size), hO.lower (lt_of_get HF2.out.1)⟩
  obtain ⟨A, cv, rfl, hvl, hvr⟩ := HF3.out.2.2.cap
  clear hxs hO hb3 HF2 k22 hvl hvr
  obtain ⟨c0, c1, c2, c3⟩ := HF3.out.1.cells
  obtain ⟨f0, f1, f2, f3⟩ := HF3.out.1.free
  have HSt : Hid (stepL s.data.toList = if ok = true then (unhex b).map (fun xs => ⟨0, n, 0, xs⟩) else none) := by
    show _ = _
    unfold stepL
    rw [HW.out, if_pos ⟨rfl, rfl⟩]
    show (smallO a).bind (fun n => (unhex b).bind _) = _
    unfold smallO
    rw [hn.out]
    cases ok
    · rfl
    · simp only [if_true, Option.bind_some]
      cases unhex b <;> rfl
  have HEnd : ∀ x0 x1 x2 x3, Hid (OB ((((w3.setCell ⟨w.heap.size, 0, none⟩ x0).setCell ⟨w.heap.size, 1, none⟩ x1).setCell ⟨w.heap.size, 2, none⟩ x2).setCell ⟨w.heap.size, 3, none⟩ x3) w.heap.size (.slice A xs.length cv) xs ∧
      Below w.heap.size w ((((w3.setCell ⟨w.heap.size, 0, none⟩ x0).setCell ⟨w.heap.size, 1, none⟩ x1).setCell ⟨w.heap.size, 2, none⟩ x2).setCell ⟨w.heap.size, 3, none⟩ x3)) := fun x0 x1 x2 x3 =>
    ⟨((((HF3.out.2.2.set _ 0 (Nat.lt_succ_self _) x0).set _ 1 (Nat.lt_succ_self _) x1).set _ 2 (Nat.lt_succ_self _) x2).set _ 3 (Nat.lt_succ_self _) x3).lower (Nat.le_succ _),
      (((HF3.out.2.1.setCell (p := ⟨w.heap.size, 0, none⟩) (Nat.le_refl _) x0).setCell (p := ⟨w.heap.size, 1, none⟩) (Nat.le_refl _) x1).setCell (p := ⟨w.heap.size, 2, none⟩) (Nat.le_refl _) x2).setCell (p := ⟨w.heap.size, 3, none⟩) (Nat.le_refl _) x3⟩
  cases ok
  · go_wp2_with fail
    (try simp only [Exit.inBlock, Exit.then])
    refine ret_step rfl rfl (HF3.out.1.put _ _ _ _) ?_
    refine ⟨⟨0, n, 0, xs⟩, .slice A xs.length cv, ?_, ?_, (HEnd _ _ _ _).out⟩
    · rw [HSt.out]; rfl
    · rw [HSt.out]; intro x hx; cases hx
  · go_wp2_with fail
    (try simp only [Exit.inBlock, Exit.then])
    refine ret_step rfl rfl (HF3.out.1.put _ _ _ _) ?_
    refine ⟨⟨0, n, 0, xs⟩, .slice A xs.length cv, ?_, ?_, (HEnd _ _ _ _).out⟩
    · rw [HSt.out, if_pos trivial, Option.isSome_map, his.out]; rfl
    · rw [HSt.out, if_pos trivial]
      intro x hx
      obtain ⟨ys, hy, rfl⟩ := Option.map_eq_some_iff.1 hx
      rw [HX.out ys hy]

set_option maxHeartbeats 4000000 in
set_option maxRecDepth 100000 in
theorem step_B (s : ByteArray) (hs : s.size ≤ 5000000) (w : World) (h : LP w) (a : List UInt8) (hw : wordsL s.data.toList = [sClose, a]) (ha : a.length ≤ s.size) :
    Calls Tryd.prog 16 #[.string s] w fun e w' => ∃ (y : Stp) (v : Value), e = .returned (.tuple #[stepV y v, .bool (stepL s.data.toList).isSome]) ∧ (∀ x, stepL s.data.toList = some x → y = x) ∧ OB w' w.heap.size v y.f3 ∧ Below w.heap.size w w' := by
  have HL := Lib.hid h; clear h
  have HW := Lib.hid hw; clear hw
  have hsz : (w.alloc (.cells #[.int .i64 0, .int .i64 0, .int .i64 0, .slice none 0 0] 32)).heap.size = w.heap.size + 1 := Array.size_push ..
  have HZ := Lib.hid hsz; clear hsz
  go_enter Tryd.func16, Tryd.ntmps16
  go_wp2_with fail
  refine (Split_c s _ hs (HL.out.below ((Below.refl _ _).alloc (Nat.le_refl _) _))).mono ?_
  rintro e w1 ⟨rfl, hw1⟩
  rw [HW.out] at hw1 ⊢
  rw [HZ.out]
  have HF := Lib.hid (split_facts hw1); clear hw1
  obtain ⟨sa, hsa⟩ : ∃ sa : ByteArray, Hid (sa = ⟨a.toArray⟩) := ⟨_, Lib.hid rfl⟩
  have k0 : w1.cell? ⟨w.heap.size + 1, 0, none⟩ = some (.string ⟨#[99, 108, 111, 115, 101]⟩) := HF.out.2.1 0 _ rfl
  have k1 : w1.cell? ⟨w.heap.size + 1, 1, none⟩ = some (.string sa) := by rw [hsa.out]; exact HF.out.2.1 1 _ rfl
  have hsas : sa.size = a.length := by rw [hsa.out]; rfl
  have HSA : Hid (sa.data.toList = a ∧ sa.size ≤ 5000000) := ⟨by rw [hsa.out], by omega⟩
  clear hsa hsas ha
  have HLw : Hid (LP w1) := HL.out.below HF.out.2.2
  go_wp2_with fail
  refine (small_c sa _ HSA.out.2 HLw.out).mono ?_
  rintro e w2 ⟨rfl, hb2⟩
  rw [HSA.out.1]
  obtain ⟨⟨n, ok⟩, hn⟩ : ∃ p : Int × Bool, Hid (smallL a = p) := ⟨_, Lib.hid rfl⟩
  rw [hn.out]
  have HF3 : Hid (RV w2 w.heap.size (.int .i64 0) (.int .i64 0) (.int .i64 0) (.slice none 0 0) ∧ Below w.heap.size w w2) := ⟨HF.out.1.below hb2, HF.out.2.2.trans (hb2.mono HF.out.2.2.size)⟩
  clear k0 k1 hb2 HF
  obtain ⟨c0, c1, c2, c3⟩ := HF3.out.1.cells
  obtain ⟨f0, f1, f2, f3⟩ := HF3.out.1.free
  have HSt : Hid (stepL s.data.toList = if ok = true then some ⟨2, 0, n, []⟩ else none) := by
    show _ = _
    unfold stepL
    rw [HW.out, if_neg (fun h => absurd h.2 (by simp)), if_pos ⟨rfl, rfl⟩]
    show (smallO a).bind _ = _
    unfold smallO
    rw [hn.out]
    cases ok <;> rfl
  have HEnd : ∀ x0 x1 x2 x3, Hid (Below w.heap.size w ((((w2.setCell ⟨w.heap.size, 0, none⟩ x0).setCell ⟨w.heap.size, 1, none⟩ x1).setCell ⟨w.heap.size, 2, none⟩ x2).setCell ⟨w.heap.size, 3, none⟩ x3)) := fun x0 x1 x2 x3 =>
    (((HF3.out.2.setCell (p := ⟨w.heap.size, 0, none⟩) (Nat.le_refl _) x0).setCell (p := ⟨w.heap.size, 1, none⟩) (Nat.le_refl _) x1).setCell (p := ⟨w.heap.size, 2, none⟩) (Nat.le_refl _) x2).setCell (p := ⟨w.heap.size, 3, none⟩) (Nat.le_refl _) x3
  cases ok
  · go_wp2_with fail
    (try simp only [Exit.inBlock, Exit.then])
    refine ret_step rfl rfl (HF3.out.1.put _ _ _ _) ?_
    refine ⟨⟨2, 0, n, []⟩, .slice none 0 0, ?_, ?_, OB.nil _ _, (HEnd _ _ _ _).out⟩
    · rw [HSt.out]; rfl
    · rw [HSt.out]; intro x hx; cases hx
  · go_wp2_with fail
    (try simp only [Exit.inBlock, Exit.then])
    refine ret_step rfl rfl (HF3.out.1.put _ _ _ _) ?_
    refine ⟨⟨2, 0, n, []⟩, .slice none 0 0, ?_, ?_, OB.nil _ _, (HEnd _ _ _ _).out⟩
    · rw [HSt.out, if_pos trivial]; rfl
    · rw [HSt.out, if_pos trivial]; intro x hx; exact Option.some.inj hx
end Go.Proofs.YtbcdlbdljejlcaaDoor.Sc
