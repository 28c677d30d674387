/- slices.Insert at exemplar.One: no room. -/
import Derived.Test.YtbedoahkpdpmeaaEx1
import Derived.Lib.AppendZeros
import Derived.Deep.CutBlock
set_option linter.unusedVariables false
set_option linter.unusedSimpArgs false
namespace Go.Proofs.Ytbedoahkpdpmeaa.Ex
open Go.RowKit Go.Proofs.Ytbedoahkpdpmeaa.B0

set_option maxRecDepth 100000 in
set_option maxHeartbeats 4000000 in
theorem Insert_grow (w : World) (g n c i vb : Nat) (cur : Array Value) (pre suf rest x4 : List Value) (hi : i < n) (hn : n < 1000) (hc : c = n)
    (hg : w.heap[g]? = some (.cells cur 31 (0, 0))) (hcur : cur.toList = pre ++ suf ++ rest) (hpre : pre.length = i * 4) (hsuf : suf.length = (n - i) * 4)
    (hv : w.heap[vb]? = some (.cells x4.toArray 31 (0, 0))) (hx : x4.length = 4) (h1 : ∀ u ∈ suf, u.oneCell' = true) (h1x : ∀ u ∈ x4, u.oneCell' = true) :
    Calls Try.prog 19 #[.slice (some ⟨g, 0, none⟩) n c, .int .i64 i, .slice (some ⟨vb, 0, none⟩) 1 1] w fun e w' => ∃ (G : Nat) (rest2 : List Value), e = .returned (.slice (some ⟨w.heap.size, 0, none⟩) (n + 1) G) ∧ n + 1 ≤ G ∧ G ≤ maxLen ∧ rest2.length = (G - (n + 1)) * 4 ∧
      w'.heap[w.heap.size]? = some (.cells (pre ++ x4 ++ suf ++ rest2).toArray 31 (0, 0)) ∧ Fr [] w w' := by
  obtain ⟨i0, hi0, hz0, hzs, hzb⟩ := info_parts info_One
  subst hc
  have hn1 : (c : Int) < (c : Int) + 1 := by omega
  have hin : ¬ ((i : Int) = (c : Int)) := by omega
  have hin2 : ((i : Int) == (c : Int)) = false := by simp; omega
  have hin0 : (i : Int) ≤ (c : Int) := by omega
  have hw1 : IntKind.i64.wrap ((c : Int) + 1) = (c : Int) + 1 := by rw [IntKind.wrap_i64]; omega
  have hw2 : IntKind.i64.wrap ((i : Int) + 1) = (i : Int) + 1 := by rw [IntKind.wrap_i64]; omega
  have hw3 : IntKind.i64.wrap ((c : Int) + 1 - (i : Int)) = (c : Int) + 1 - (i : Int) := by rw [IntKind.wrap_i64]; omega
  have hci : ¬ (c = i) := by omega
  have hkk : (c : Int) + 1 - (i : Int) = ((c + 1 - i : Nat) : Int) := by omega
  have hik : i + (c + 1 - i) = c + 1 := by omega
  have mixed : Try.prog.follows Departure.mixedOrders = true := by kernel_rfl
  have hb1 : (0 : Int) ≤ (i : Int) + 1 := by omega
  have hgl := lt_of_get hg
  have hvl := lt_of_get hv
  obtain ⟨G, hG⟩ : ∃ G, Hid (G = grownCap w (c + 1) c 31) := ⟨_, rfl⟩
  have hGn : c + 1 ≤ G := by rw [hG.out]; exact grownCap_ge w _ _ _
  have hGm : G ≤ maxLen := by rw [hG.out]; exact grownCap_le_maxLen w _ _ _ (by unfold maxLen; omega)
  obtain ⟨Z, hZ⟩ : ∃ Z : Array Value, Hid (Z = Builtin.zeroCells (Value.agg #[.int .u64 0, .int .u64 0, .int .u64 0, .bool false]).cells (c + 1 - i)) := ⟨_, rfl⟩
  obtain ⟨Y, hY⟩ : ∃ Y : Array Value, Hid (Y = Builtin.zeroCells (Value.agg #[.int .u64 0, .int .u64 0, .int .u64 0, .bool false]).cells (G - (c + 1))) := ⟨_, rfl⟩
  have hZl : Z.size = (c + 1 - i) * 4 := by rw [hZ.out]; simp [Builtin.zeroCells, Value.cells]
  have hYl : Y.size = (G - (c + 1)) * 4 := by rw [hY.out]; simp [Builtin.zeroCells, Value.cells]
  have hold : (Builtin.firstCells i0.size i (.slice (some ⟨g, 0, none⟩) i c)).run Try.prog w.drew = .ok pre.toArray w.drew := by
    rw [hzs]
    exact run_firstCells_some (w := w.drew) 4 i ⟨g, 0, none⟩ i c pre hpre (fun j v hj => by
      rw [add_lit]
      show w.cell? _ = _
      rw [cellB hg, ← Array.getElem?_toList, hcur, List.append_assoc, Nat.zero_add, List.getElem?_append_left (List.getElem?_eq_some_iff.1 hj).1]
      exact hj)
  have hrz : ∀ ty, (Builtin.append_ #[34, 3] ty #[.slice (some ⟨g, 0, none⟩) i c, .int .i64 ((c : Int) + 1 - (i : Int))]).run Try.prog w = .ok (.slice (some ⟨w.heap.size, 0, none⟩) (c + 1) G) (w.drew.alloc (.cells (pre.toArray ++ Z ++ Y) 31)) := fun ty => by
    have h := Lib.run_append_grow_zeros w 34 3 ty 31 i0 _ .i64 .i64 Try.underlying34 Try.underlying3 hi0 hz0 (some ⟨g, 0, none⟩) i c pre hold (c + 1 - i) (by omega) (by omega) (by omega) (by omega) (by rw [hzb]; omega) (by rw [hzb, hik]; exact growslice_fits (by omega) (by omega))
    rw [hik] at h
    rw [hkk, hZ.out, hY.out, hG.out]
    exact h
  have HG := Lib.hid hg
  have HV := Lib.hid hv
  have HC := Lib.hid hcur
  have H1 := Lib.hid h1; have H2 := Lib.hid h1x
  have HL := Lib.hid (And.intro hpre (And.intro hsuf (And.intro hx (And.intro hZl hYl))))
  clear hg hv hcur h1 h1x hpre hsuf hx hZl hYl hold hik hkk hi0 hz0 hzs hzb
  obtain ⟨ROW, hROW⟩ : ∃ ROW : List Value, Hid (ROW = pre ++ Z.toList ++ Y.toList) := ⟨_, rfl⟩
  have hRe : pre.toArray ++ Z ++ Y = ROW.toArray := by rw [hROW.out]; apply Array.ext'; simp
  rw [hRe] at hrz
  clear hRe
  have hRl : ROW.length = G * 4 := by obtain ⟨hpre, hsuf, hx, hZl, hYl⟩ := HL.out; rw [hROW.out]; simp only [List.length_append, Array.length_toList]; omega
  have hRt : ROW.take (i * 4) = pre := by obtain ⟨hpre, _⟩ := HL.out; rw [hROW.out, List.append_assoc, List.take_left' hpre]
  have HR := Lib.hid (And.intro hRl hRt)
  clear hRl hRt
  have hcpA : ∀ (W : World), W.heap[w.heap.size]? = some (.cells ROW.toArray 31 (0, 0)) → W.heap[vb]? = some (.cells x4.toArray 31 (0, 0)) → ∀ ty dc, (Builtin.copy_ #[34, 34] ty #[.slice (some ⟨w.heap.size, i * 4, none⟩) (c + 1 - i) dc, .slice (some ⟨vb, 0, none⟩) 1 1]).run Try.prog W = .ok (goInt (Nat.min 1 (c + 1 - i))) (W.setRow w.heap.size (pre ++ x4 ++ ROW.drop ((i + 1) * 4)).toArray) := fun W hW hWv ty dc => by
    obtain ⟨hpre, hsuf, hx, hZl, hYl⟩ := HL.out
    have h := run_copy_rowK (P := Try.prog) W 34 34 ty 31 4 w.heap.size (i * 4) (c + 1 - i) dc ⟨vb, 0, none⟩ 1 1 ROW.toArray 31 x4 Try.underlying34 i34 hW
      (by rw [hx]; show 4 = min 1 (c + 1 - i) * 4; rw [Nat.min_eq_left (by omega)])
      (by intro j v hj; rw [add_lit, cellB hWv]; simpa using hj)
      (by rw [hx]; simp only [List.size_toArray, HR.out.1]; omega) H2.out
    rw [List.toList_toArray, HR.out.2, hx, show i * 4 + 4 = (i + 1) * 4 from by omega] at h
    exact h
  obtain ⟨ROW2, hROW2⟩ : ∃ ROW2 : List Value, Hid (ROW2 = pre ++ x4 ++ ROW.drop ((i + 1) * 4)) := ⟨_, rfl⟩
  have hR2l : ROW2.length = G * 4 := by obtain ⟨hpre, hsuf, hx, hZl, hYl⟩ := HL.out; have := HR.out.1; rw [hROW2.out]; simp only [List.length_append, List.length_drop]; omega
  have hR2t : ROW2.take ((i + 1) * 4) = pre ++ x4 := by obtain ⟨hpre, hsuf, hx, _⟩ := HL.out; rw [hROW2.out, List.take_left' (by rw [List.length_append]; omega)]
  have HR2 := Lib.hid (And.intro hR2l hR2t)
  clear hR2l hR2t
  rw [← hROW2.out] at hcpA
  have hcpB : ∀ (W : World), W.heap[w.heap.size]? = some (.cells ROW2.toArray 31 (0, 0)) → W.heap[g]? = some (.cells cur 31 (0, 0)) → ∀ ty dc sc, (Builtin.copy_ #[34, 34] ty #[.slice (some ⟨w.heap.size, (i + 1) * 4, none⟩) (c - i) dc, .slice (some ⟨g, i * 4, none⟩) (c - i) sc]).run Try.prog W = .ok (goInt (Nat.min (c - i) (c - i))) (W.setRow w.heap.size (pre ++ x4 ++ suf ++ ROW2.drop ((c + 1) * 4)).toArray) := fun W hW hWg ty dc sc => by
    obtain ⟨hpre, hsuf, hx, hZl, hYl⟩ := HL.out
    have h := run_copy_rowK (P := Try.prog) W 34 34 ty 31 4 w.heap.size ((i + 1) * 4) (c - i) dc ⟨g, i * 4, none⟩ (c - i) sc ROW2.toArray 31 suf Try.underlying34 i34 hW
      (by rw [hsuf]; show (c - i) * 4 = min (c - i) (c - i) * 4; rw [Nat.min_self])
      (by
        intro j v hj
        rw [add_lit, cellB hWg, ← Array.getElem?_toList, HC.out, List.append_assoc, List.getElem?_append_right (by omega), hpre, Nat.add_sub_cancel_left, List.getElem?_append_left (List.getElem?_eq_some_iff.1 hj).1]
        exact hj)
      (by simp only [List.size_toArray, HR2.out.1]; omega) H1.out
    rw [List.toList_toArray, HR2.out.2, show (i + 1) * 4 + suf.length = (c + 1) * 4 from by omega] at h
    exact h
  obtain ⟨W1, hW1⟩ : ∃ W1, Hid (W1 = (w.alloc (.cells ROW.toArray 31)).drew) := ⟨_, rfl⟩
  have e1 : W1.heap[w.heap.size]? = some (.cells ROW.toArray 31 (0, 0)) := by rw [hW1.out]; exact allocN w _
  have e2 : W1.heap[vb]? = some (.cells x4.toArray 31 (0, 0)) := by rw [hW1.out]; exact (allocO w _ hvl).trans HV.out
  have e3 : W1.heap[g]? = some (.cells cur 31 (0, 0)) := by rw [hW1.out]; exact (allocO w _ hgl).trans HG.out
  have eF : Fr [] w W1 := by rw [hW1.out]; exact ((Fr.refl [] w).alloc _).drew
  have hA := hcpA W1 e1 e2
  have hB := hcpB (W1.setRow w.heap.size ROW2.toArray).drew (setRow_heap W1 _ _ _ _ _ e1) ((setRow_other W1 _ _ _ (by omega)).trans e3)
  have hW2 := hW1.out
  have E1 := Lib.hid e1; have EF := Lib.hid eF
  clear hcpA hcpB e1 e2 e3 eF
  go_enter Try.func19, Try.ntmps19
  go_upto_region 10 with (at_builtin; refine Lib.wpList_append_run _ rfl _ _ _ _ rfl _ _ rfl rfl _ _ (hrz _) ?_)
  rw [← hW2]
  have hGi : ¬ (G = i) := by omega
  have hGi1 : ¬ (G = i + 1) := by omega
  have hGI : (i : Int) + 1 ≤ (c : Int) + 1 := by omega
  have hGc : (c : Int) + 1 ≤ (G : Int) := by omega
  have hic0 : (0 : Int) ≤ (i : Int) := by omega
  have hi1 : (i : Int) ≤ (c : Int) + 1 := by omega
  clear hW2 hrz
  go_wp2_with (at_builtin; refine wpList_copy_run _ rfl _ _ 34 34 rfl _ _ rfl rfl (hA _ _) ?_)
  go_region_law_o (refine step_copy_run rfl _ _ 34 34 rfl _ _ (by simp [Act.eval, Act.put]) (by simp [Act.eval, Act.put]) (hB _ _ _) ?_)
  go_wp2_with fail
  go_ret
  refine ⟨G, ROW2.drop ((c + 1) * 4), rfl, hGn, hGm, ?_, ?_, ?_⟩
  · rw [List.length_drop, HR2.out.1]; omega
  · have := setRow_heap (W1.setRow w.heap.size ROW2.toArray).drew w.heap.size _ (pre ++ x4 ++ suf ++ ROW2.drop ((c + 1) * 4)).toArray _ _ (setRow_heap W1 _ _ ROW2.toArray _ _ E1.out)
    simpa using this
  · have f : ∀ (W : World) (cs : Array Value), Fr [] w W → Fr [] w (W.setRow w.heap.size cs) := fun W cs h => ⟨h.os, h.tape, h.output, by rw [size_setRow]; exact h.size, fun k hk hn => by rw [setRow_other W _ _ _ (by omega)]; exact h.block k hk hn⟩
    exact f _ _ (f _ _ EF.out).drew
end Go.Proofs.Ytbedoahkpdpmeaa.Ex
