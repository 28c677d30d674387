/- expo: the lines of an answer, as a Call. -/
import Derived.Test.YtdbmcikoiilanaaDoorXp18
set_option linter.unusedVariables false
set_option linter.unusedSimpArgs false
namespace Go.Proofs.YtdbmcikoiilanaaDoor.Xp
open Go.RowKit Go.Proofs.YtdbmcikoiilanaaDoor.B0 Go.Proofs.YtdbmcikoiilanaaDoorW.PrintWords Go.Proofs.YtdbmcikoiilanaaDoor.Bld Go.Proofs.YtdbmcikoiilanaaDoor.Pp Go.Proofs.YtdbmcikoiilanaaDoor.Kn
open Go.Proofs.YtdbmcikoiilanaaDoorW.PrintLast

abbrev SRow := S70
abbrev SEdg := S94
def winL (win : Int) : SLin := ⟨⟨#[119, 105, 110, 100, 111, 119]⟩, [], win⟩
def rowS (r : SRow) : List SLin := rowL (labsOf r.f0 r.f1) r.f2.f0 r.f3.f0 r.f4.f0 r.f5 r.f5.length
def ftL (e : SEdg) : List SLab := [⟨⟨#[102, 114, 111, 109]⟩, e.f0⟩, ⟨⟨#[116, 111]⟩, e.f1⟩]
def edgeL (e : SEdg) : List SLin := [⟨⟨#[99, 97, 108, 108, 115]⟩, ftL e, e.f2.f0⟩, ⟨⟨#[99, 97, 108, 108, 115, 102, 97, 105, 108, 101, 100]⟩, ftL e, e.f3.f0⟩, ⟨⟨#[116, 111, 111, 107]⟩, ftL e, e.f4.f0⟩]
def fateL (i : Nat) (n : Int) : SLin := ⟨⟨#[102, 97, 116, 101]⟩, [⟨⟨#[107, 105, 110, 100]⟩, itoaB i⟩], n⟩
def rowsL (rows : List SRow) (k : Nat) : List SLin := (List.range k).flatMap fun i : Nat => rowS (rd_T70 rows (i : Int))
def edgesL (es : List SEdg) (k : Nat) : List SLin := (List.range k).flatMap fun i : Nat => edgeL (rd_T94 es (i : Int))
def fatesL (fs : List Int) (k : Nat) : List SLin := (List.range k).map fun i : Nat => fateL i (fs.getD i 0)
theorem rowsL_succ (rows : List SRow) (k : Nat) : rowsL rows (k + 1) = rowsL rows k ++ rowS (rd_T70 rows (k : Int)) := by unfold rowsL; rw [List.range_succ, List.flatMap_append]; simp
theorem edgesL_succ (es : List SEdg) (k : Nat) : edgesL es (k + 1) = edgesL es k ++ edgeL (rd_T94 es (k : Int)) := by unfold edgesL; rw [List.range_succ, List.flatMap_append]; simp
theorem fatesL_succ (fs : List Int) (k : Nat) : fatesL fs (k + 1) = fatesL fs k ++ [fateL k (fs.getD k 0)] := by unfold fatesL; rw [List.range_succ, List.map_append]; rfl
theorem edgesL_len (es : List SEdg) : ∀ k, (edgesL es k).length = 3 * k
  | 0 => rfl
  | k + 1 => by rw [edgesL_succ, List.length_append, edgesL_len es k]; show 3 * k + 3 = _; omega
theorem fatesL_len (fs : List Int) (k : Nat) : (fatesL fs k).length = k := by simp [fatesL]
def smallR (r : SRow) : Prop := r.f0.length ≤ 1000 ∧ r.f5.length ≤ 1000
theorem rowS_len (r : SRow) (h : smallR r) : (rowS r).length ≤ 1003 := by unfold rowS; rw [rowL_len]; have := h.2; omega
def linesL (win : Int) (rows : List SRow) (es : List SEdg) (fs : List Int) : List SLin := winL win :: (rowsL rows rows.length ++ edgesL es es.length ++ fatesL fs 3)
theorem R_allocG {α : Type} (d : Kd α) {W : World} {base e : Nat} {xs : List α} {inner : List Value} (hrep : ∀ (W' : World) (ok : Nat → Prop), Reps (d.M W' base ok) d.sz xs inner) (hbase : base ≤ W.heap.size) (hm : xs.length ≤ 1000000) :
    d.R e (W.alloc (.cells inner.toArray e)) base (fun _ => True) (.slice (some ⟨W.heap.size, 0, none⟩) xs.length xs.length) xs := by
  refine ⟨fun _ _ => trivial, inner, ?_, hrep _ _⟩
  have h2 := World.ownsRow_lit (base := base) (e := e) (size := d.sz) W inner.toArray xs.length hbase (by simp [maxLen]; omega) (by simpa using (hrep W (fun _ => True)).1)
  simp only [List.size_toArray] at h2
  exact h2
theorem LabAt.none (w : World) : LabAt w none [] := ⟨Kd.C_nil _ _, fun ad e => by cases e⟩
theorem rdR_at (xs : List SRow) (i : Nat) (h : i < xs.length) : rd_T70 xs (i : Int) ∈ xs := by
  unfold rd_T70; rw [show ((i : Int)).toNat = i from by omega, List.getD_eq_getElem?_getD, List.getElem?_eq_getElem h]; exact List.getElem_mem h
theorem rowL_labs (L : List SLab) (n1 n2 n3 : Int) (bs : List S61) (k : Nat) : ∀ x ∈ rowL L n1 n2 n3 bs k, x.f1.length ≤ L.length + 1 := by
  intro x hx
  rcases List.mem_append.1 hx with h | h
  · simp only [List.mem_cons, List.not_mem_nil, or_false] at h
    rcases h with rfl | rfl | rfl <;> exact Nat.le_succ _
  · obtain ⟨i, _, rfl⟩ := List.mem_map.1 h
    show (L ++ [_]).length ≤ _
    rw [List.length_append]; exact Nat.le_refl _
theorem linesL_labs (win : Int) (rows : List SRow) (es : List SEdg) (fs : List Int) (hs : ∀ r ∈ rows, smallR r) : ∀ x ∈ linesL win rows es fs, x.f1.length ≤ 1000000 := by
  intro x hx
  rcases List.mem_cons.1 hx with rfl | hx
  · exact Nat.zero_le _
  rcases List.mem_append.1 hx with hx | hx
  · rcases List.mem_append.1 hx with hx | hx
    · obtain ⟨i, hi, hx⟩ := List.mem_flatMap.1 hx
      have h1 := rowL_labs _ _ _ _ _ _ x hx
      have h2 := hs _ (rdR_at rows i (List.mem_range.1 hi))
      have h3 := labsOf_len (rd_T70 rows (i : Int)).f0 (rd_T70 rows (i : Int)).f1
      have h4 := h2.1
      omega
    · obtain ⟨i, hi, hx⟩ := List.mem_flatMap.1 hx
      simp only [edgeL, List.mem_cons, List.not_mem_nil, or_false] at hx
      rcases hx with rfl | rfl | rfl <;> exact (by show 2 ≤ 1000000; omega)
  · obtain ⟨i, hi, rfl⟩ := List.mem_map.1 hx
    show 1 ≤ 1000000; omega
theorem LRows.set {w : World} {xs : List SLin} {rows : List (List Value)} (h : LRows w xs rows) {j : Nat} {x : SLin} {r : List Value} (hx : xs[j]? = some x) (hr : LRow w x r) : LRows w xs (rows.set j r) := by
  refine ⟨by rw [List.length_set]; exact h.1, fun i y hy => ?_⟩
  by_cases e : j = i
  · subst e
    rw [hx] at hy; obtain rfl := Option.some.inj hy
    have hl := (List.getElem?_eq_some_iff.1 hx).1
    exact ⟨r, List.getElem?_set_self (by rw [h.1]; exact hl), hr⟩
  · rw [List.getElem?_set_ne e]
    exact h.2 i y hy

def T15_16 : Bool × List (List Nat × List Nat) := (true, [([], []), ([], []), ([1], [1]), ([2], [2]), ([3], [3]), ([], []), ([5], [5]), ([4, 6], [4, 6]), ([7], [7]), ([0, 8, 2], [0, 8]), ([9, 9, 0, 1, 2, 3, 4, 5, 6, 7, 8, 9], [0, 9])])
def B15_16 : List Nat := [0, 0, 2, 6, 14, 0, 32, 126, 254, 511, 1023]
theorem tab15_16 : rtab .any (opsOf Tryd.f15 16) = T15_16 := by kernel_rfl
theorem bits15_16 : waitsOk T15_16.2 B15_16 = true := by kernel_rfl
set_option maxHeartbeats 4000000 in
set_option maxRecDepth 100000 in
theorem Lines_c (w : World) (hP : LP w) (win : Int) (A : Option Addr) (cA : Nat) (rows : List SRow) (E : Option Addr) (cE : Nat) (es : List SEdg) (g0 g1 g2 : Int) (b0 b1 b2 : Bool)
    (hA : Kd.C k70 w A rows.length rows) (hE : Kd.C k94 w E es.length es) (hl : rows.length ≤ 1000) (hel : es.length ≤ 1000) (hsm : ∀ r ∈ rows, smallR r) :
    Calls Tryd.prog 15 #[.agg #[.int .u64 win, .slice A rows.length cA, .slice E es.length cE, .int .u64 g0, .bool b0, .int .u64 g1, .bool b1, .int .u64 g2, .bool b2]] w fun e w' =>
      ∃ v, e = .returned v ∧ LW w' w.heap.size v (linesL win rows es [g0, g1, g2]) ∧ Below w.heap.size w w' := by
  have HP := Lib.hid hP; clear hP
  obtain ⟨n, hn⟩ : ∃ n, Hid (rows.length = n) := ⟨_, Lib.hid rfl⟩
  obtain ⟨m, hm⟩ : ∃ m, Hid (es.length = m) := ⟨_, Lib.hid rfl⟩
  rw [hn.out] at hA hl ⊢
  rw [hm.out] at hE hel ⊢
  obtain ⟨X, hX⟩ : ∃ X, Hid (linesL win rows es [g0, g1, g2] = X) := ⟨_, Lib.hid rfl⟩
  rw [hX.out]
  have HA := Lib.hid hA; have HE := Lib.hid hE; have HS := Lib.hid hsm; clear hA hE hsm
  obtain ⟨R, hR⟩ : ∃ R, Hid (w.heap.size = R) := ⟨_, Lib.hid rfl⟩
  obtain ⟨w1, hw1⟩ : ∃ w1, Hid (w.alloc (.cells #[.int .u64 win, .slice A n cA, .slice E m cE, .int .u64 g0, .bool b0, .int .u64 g1, .bool b1, .int .u64 g2, .bool b2] 64) = w1) := ⟨_, Lib.hid rfl⟩
  have H1 : Hid (w1.heap[R]? = some (.cells #[.int .u64 win, .slice A n cA, .slice E m cE, .int .u64 g0, .bool b0, .int .u64 g1, .bool b1, .int .u64 g2, .bool b2] 64 (0, 0)) ∧ Below w.heap.size w w1) := ⟨by rw [← hw1.out, ← hR.out]; exact allocN _ _, by rw [← hw1.out]; exact (Below.refl _ _).alloc (Nat.le_refl _) _⟩
  have EC : Hid (∀ w', Below w1.heap.size w1 w' → w'.cell? ⟨R, 0, none⟩ = some (.int .u64 win) ∧ w'.cell? ⟨R, 1, none⟩ = some (.slice A n cA) ∧ w'.cell? ⟨R, 2, none⟩ = some (.slice E m cE) ∧ w'.cell? ⟨R, 3, none⟩ = some (.int .u64 g0) ∧ w'.cell? ⟨R, 4, none⟩ = some (.bool b0) ∧ w'.cell? ⟨R, 5, none⟩ = some (.int .u64 g1) ∧ w'.cell? ⟨R, 6, none⟩ = some (.bool b1) ∧ w'.cell? ⟨R, 7, none⟩ = some (.int .u64 g2) ∧ w'.cell? ⟨R, 8, none⟩ = some (.bool b2)) := fun w' hb => by
    have h := (hb.block R (lt_of_get H1.out.1)).trans H1.out.1
    exact ⟨by rw [cellB h]; rfl, by rw [cellB h]; rfl, by rw [cellB h]; rfl, by rw [cellB h]; rfl, by rw [cellB h]; rfl, by rw [cellB h]; rfl, by rw [cellB h]; rfl, by rw [cellB h]; rfl, by rw [cellB h]; rfl⟩
  obtain ⟨wb, hwb⟩ : ∃ wb, Hid (w1.alloc (.cells #[.string ⟨#[119, 105, 110, 100, 111, 119]⟩, .slice none 0 0, .int .u64 win] 43) = wb) := ⟨_, Lib.hid rfl⟩
  obtain ⟨bb, hbb⟩ : ∃ bb, Hid (w1.heap.size = bb) := ⟨_, Lib.hid rfl⟩
  have HB : Hid (LW wb w1.heap.size (.slice (some ⟨bb, 0, none⟩) 1 1) [winL win] ∧ Below w1.heap.size w1 wb) := by
    refine ⟨⟨[[.string ⟨#[119, 105, 110, 100, 111, 119]⟩, .slice none 0 0, .int .u64 win]], ?_, LRows.one ⟨none, 0, rfl, Nat.zero_le _, fun _ => rfl, LabAt.none _⟩⟩, by rw [← hwb.out]; exact (Below.refl _ _).alloc (Nat.le_refl _) _⟩
    rw [← hwb.out, ← hbb.out]
    exact R_alloc3 (Reps.c3 (raw3M _ _ _ _ _ _ _ _) (Reps.none _ _)) (Nat.le_refl _) (by simp)
  go_enter Tryd.func15, Tryd.ntmps15
  go_upto_region 1 with fail
  rw [hw1.out, hR.out]
  have c0 := (EC.out w1 (Below.refl _ _)).1
  go_upto_region 2 with fail
  rw [hwb.out, hbb.out]
  clear c0
  have c1 := (EC.out wb HB.out.2).2.1
  go_wp2_with fail
  clear c1
  go_loopw [19, 3] (fun iv lv wr => ∃ (k : Nat) (av : Value), iv = .int .i64 k ∧ lv = av ∧ k ≤ n ∧ Hid (LW wr w1.heap.size av (winL win :: rowsL rows k) ∧ Below w1.heap.size w1 wr ∧ (rowsL rows k).length ≤ 1003 * k)) (fun iv _ _ => n - (intOf iv).toNat)
  case atStart => exact ⟨0, _, rfl, rfl, Nat.zero_le _, HB.out.1, HB.out.2, Nat.le_refl _⟩
  case round =>
    obtain ⟨k, av, rfl, rfl, hk, HW⟩ := hrel
    by_cases hlt : k < n
    · have hki : (k : Int) < (n : Int) := by omega
      obtain ⟨ad, rfl, A0, c0, A1, c1, A2, c2, d0, d1, d2, d3, d4, d5, d6, d7, d8, d9, ⟨hc0, hC0⟩, ⟨hc1, hC1⟩, _⟩ := at_T70 HA.out k (by omega) (by omega)
      have hsr := HS.out _ (rdR_at rows k (by rw [hn.out]; exact hlt))
      obtain ⟨r, hr⟩ : ∃ r, Hid (rd_T70 rows k = r ∧ smallR r) := ⟨_, rfl, hsr⟩
      clear hsr
      rw [hr.out.1] at d0 d1 d2 d3 d4 d5 d6 d7 d8 d9 hc0 hC0 hc1 hC1
      rw [show ((k : Int)).toNat = k from by omega] at d0 d1 d2 d3 d4 d5 d6 d7 d8 d9
      obtain ⟨l0, hl0⟩ : ∃ l0, Hid (r.f0.length = l0) := ⟨_, Lib.hid rfl⟩
      obtain ⟨l5, hl5⟩ : ∃ l5, Hid (r.f5.length = l5) := ⟨_, Lib.hid rfl⟩
      obtain ⟨l6, hl6⟩ : ∃ l6, Hid (r.f6.length = l6) := ⟨_, Lib.hid rfl⟩
      rw [hl0.out] at d0
      rw [hl5.out] at d8
      rw [hl6.out] at d9
      have hbw : Hid (Below w.heap.size w wr) := H1.out.2.trans (HW.out.2.1.mono H1.out.2.size)
      obtain ⟨wm, hwm⟩ : ∃ wm, Hid (wr.alloc (.cells #[.slice A0 l0 c0, .bool r.f1, .int .u64 r.f2.f0, .bool r.f2.f1, .int .u64 r.f3.f0, .bool r.f3.f1, .int .u64 r.f4.f0, .bool r.f4.f1, .slice A1 l5 c1, .slice A2 l6 c2] 70) = wm) := ⟨_, Lib.hid rfl⟩
      obtain ⟨bx, hbx⟩ : ∃ bx, Hid (wr.heap.size = bx) := ⟨_, Lib.hid rfl⟩
      have hM1 : wm.heap[bx]? = some (.cells #[.slice A0 l0 c0, .bool r.f1, .int .u64 r.f2.f0, .bool r.f2.f1, .int .u64 r.f3.f0, .bool r.f3.f1, .int .u64 r.f4.f0, .bool r.f4.f1, .slice A1 l5 c1, .slice A2 l6 c2] 70 (0, 0)) := by rw [← hwm.out, ← hbx.out]; exact allocN _ _
      have HM : Hid (Below wr.heap.size wr wm) := by rw [← hwm.out]; exact (Below.refl _ _).alloc (Nat.le_refl _) _
      have hbm : Hid (Below w.heap.size w wm) := hbw.out.trans (HM.out.mono hbw.out.size)
      have HRC := Lib.hid (row_c wm (HP.out.below hbm.out) A0 c0 r.f0 r.f1 r.f2.f0 r.f3.f0 r.f4.f0 r.f2.f1 r.f3.f1 r.f4.f1 A1 c1 r.f5 (.slice A2 l6 c2) (Kd.C_below hC0 hbm.out) (Kd.C_below hC1 hbm.out) hr.out.2.1 hr.out.2.2)
      rw [hl0.out, hl5.out] at HRC
      have d0' := pw_cell_below hbw.out d0
      have d1' := pw_cell_below hbw.out d1
      have d2' := pw_cell_below hbw.out d2
      have d3' := pw_cell_below hbw.out d3
      have d4' := pw_cell_below hbw.out d4
      have d5' := pw_cell_below hbw.out d5
      have d6' := pw_cell_below hbw.out d6
      have d7' := pw_cell_below hbw.out d7
      have d8' := pw_cell_below hbw.out d8
      have d9' := pw_cell_below hbw.out d9
      clear d0 d1 d2 d3 d4 d5 d6 d7 d8 d9 hc0 hC0 hc1 hC1
      go_upto_region 5 with fail
      rw [hwm.out, hbx.out]
      clear d0' d1' d2' d3' d4' d5' d6' d7' d8' d9'
      have e0 : wm.cell? ⟨bx, 0, none⟩ = some (.slice A0 l0 c0) := by rw [cellB hM1]; rfl
      have e1 : wm.cell? ⟨bx, 1, none⟩ = some (.bool r.f1) := by rw [cellB hM1]; rfl
      have e2 : wm.cell? ⟨bx, 2, none⟩ = some (.int .u64 r.f2.f0) := by rw [cellB hM1]; rfl
      have e3 : wm.cell? ⟨bx, 3, none⟩ = some (.bool r.f2.f1) := by rw [cellB hM1]; rfl
      have e4 : wm.cell? ⟨bx, 4, none⟩ = some (.int .u64 r.f3.f0) := by rw [cellB hM1]; rfl
      have e5 : wm.cell? ⟨bx, 5, none⟩ = some (.bool r.f3.f1) := by rw [cellB hM1]; rfl
      have e6 : wm.cell? ⟨bx, 6, none⟩ = some (.int .u64 r.f4.f0) := by rw [cellB hM1]; rfl
      have e7 : wm.cell? ⟨bx, 7, none⟩ = some (.bool r.f4.f1) := by rw [cellB hM1]; rfl
      have e8 : wm.cell? ⟨bx, 8, none⟩ = some (.slice A1 l5 c1) := by rw [cellB hM1]; rfl
      have e9 : wm.cell? ⟨bx, 9, none⟩ = some (.slice A2 l6 c2) := by rw [cellB hM1]; rfl
      clear hM1
      go_wp2_with fail
      clear e0 e1 e2 e3 e4 e5 e6 e7 e8 e9
      refine HRC.out.mono ?_
      rintro e w3 ⟨v3, rfl, hL3, hb3⟩
      have hrs : Hid (rowL (labsOf r.f0 r.f1) r.f2.f0 r.f3.f0 r.f4.f0 r.f5 l5 = rowS r ∧ (rowS r).length ≤ 1003) := ⟨by rw [← hl5.out]; rfl, rowS_len r hr.out.2⟩
      rw [hrs.out.1] at hL3
      obtain ⟨rows3, hR3, hLR3⟩ := hL3
      obtain ⟨A3, c3, e3, _, hC3⟩ := Kd.R_reads hR3
      obtain ⟨n3, hn3⟩ : ∃ n3, Hid (rows3.length = n3 ∧ n3 ≤ 1003) := ⟨_, rfl, by rw [hLR3.1]; exact hrs.out.2⟩
      rw [hn3.out.1] at e3 hC3
      subst e3
      have hb3' : Below wr.heap.size wr w3 := HM.out.trans (hb3.mono HM.out.size)
      obtain ⟨rowsW, hrw, hlw⟩ := HW.out.1.below hb3'
      have H3 : Hid ((Kd.raw 3).R 43 w3 w1.heap.size (fun _ => True) u3 rowsW ∧ LRows w3 (winL win :: rowsL rows k) rowsW ∧ Below w1.heap.size w1 w3 ∧ LRows w3 (rowS r) rows3 ∧ (Kd.raw 3).C w3 A3 n3 rows3) := ⟨hrw, hlw, HW.out.2.1.trans (hb3'.mono HW.out.2.1.size), hLR3, hC3⟩
      have hrl : Hid (rowsW.length ≤ 1003 * k + 1) := by have h := hlw.1; rw [List.length_cons] at h; have := HW.out.2.2; show _ ≤ _; omega
      clear hR3 hLR3 hC3 hb3 hb3' hrw hlw HRC
      go_wp2_with (at_builtin; go_loud (refine Kd.R_append_rows (Kd.raw 3) (Rr := (Kd.raw 3).K w3) (w0 := w1) w1.heap.size rfl _ _ 32 43 (.agg #[(.string ⟨#[]⟩), (.slice none 0 0), (.int .u64 0)]) 48 rfl Tryd.underlying32 info43 rfl (Nat.zero_lt_succ 2) (by decide) u3 rowsW rows3 A3 n3 c3 (fun _ => True) (fun _ => False) rfl rfl H3.out.1 H3.out.2.2.2.2 (fun _ _ h => h) (fun _ h => h.elim) (fun _ _ => trivial) H3.out.2.2.1 H3.out.2.2.1.size (by have h1 := hrl.out; have h2 := hn3.out.2; omega) ?_))
      intro v6 w6 hr6 hb6 hg6 hat6
      have H6 : Hid (LW w6 w1.heap.size v6 (winL win :: rowsL rows (k + 1)) ∧ Below w1.heap.size w1 w6 ∧ (rowsL rows (k + 1)).length ≤ 1003 * (k + 1)) := by
        have hk := KL.grown H3.out.1 (by decide) hg6
        refine ⟨⟨_, hr6, ?_⟩, hb6, ?_⟩
        · rw [rowsL_succ, hr.out.1, ← List.cons_append]
          exact (H3.out.2.1.keep hk).append (H3.out.2.2.2.1.keep hk)
        · rw [rowsL_succ, hr.out.1, List.length_append]
          have h1 := HW.out.2.2; have h2 := hrs.out.2; omega
      clear hr6 hb6 hg6 hat6
      go_wp2_with fail
      go_roundw
      case rel => exact ⟨k + 1, v6, by go_num, rfl, by omega, H6⟩
      case measure => simp [intOf]; omega
    · obtain rfl : k = n := by omega
      have HR0 : Hid ((rowsL rows k).length ≤ 1003000) := by have := HW.out.2.2; show _ ≤ _; omega
      have c2 := (EC.out wr HW.out.2.1).2.2.1
      go_wp2_with fail
      clear c2
      obtain ⟨w2, hw2⟩ : ∃ w2, wr = w2 := ⟨_, rfl⟩
      subst hw2
      go_loopw [31, 3] (fun iv lv wr => ∃ (i : Nat) (av : Value), iv = .int .i64 i ∧ lv = av ∧ i ≤ m ∧ Hid (LW wr w1.heap.size av (winL win :: (rowsL rows k ++ edgesL es i)) ∧ Below w1.heap.size w1 wr)) (fun iv _ _ => m - (intOf iv).toNat)
      case atStart => exact ⟨0, _, rfl, rfl, Nat.zero_le _, by show LW _ _ _ (winL win :: (rowsL rows k ++ [])); rw [List.append_nil]; exact HW.out.1, HW.out.2.1⟩
      case round =>
        obtain ⟨i, av, rfl, rfl, hi, HW⟩ := hrel
        by_cases hlt : i < m
        · have hki : (i : Int) < (m : Int) := by omega
          obtain ⟨ad, rfl, d0, d1, d2, d3, d4, d5, d6, d7⟩ := at_T94 HE.out i (by omega) (by omega)
          obtain ⟨r, hr⟩ : ∃ r, Hid (rd_T94 es i = r) := ⟨_, Lib.hid rfl⟩
          rw [hr.out, show ((i : Int)).toNat = i from by omega] at d0 d1 d2 d3 d4 d5 d6 d7
          have hbw : Hid (Below w.heap.size w wr) := H1.out.2.trans (HW.out.2.mono H1.out.2.size)
          obtain ⟨wm, hwm⟩ : ∃ wm, Hid (wr.alloc (.cells #[.string r.f0, .string r.f1, .int .u64 r.f2.f0, .bool r.f2.f1, .int .u64 r.f3.f0, .bool r.f3.f1, .int .u64 r.f4.f0, .bool r.f4.f1] 94) = wm) := ⟨_, Lib.hid rfl⟩
          obtain ⟨bx, hbx⟩ : ∃ bx, Hid (wr.heap.size = bx) := ⟨_, Lib.hid rfl⟩
          have hM1 : Hid (wm.heap[bx]? = some (.cells #[.string r.f0, .string r.f1, .int .u64 r.f2.f0, .bool r.f2.f1, .int .u64 r.f3.f0, .bool r.f3.f1, .int .u64 r.f4.f0, .bool r.f4.f1] 94 (0, 0))) := by rw [← hwm.out, ← hbx.out]; exact allocN _ _
          have HM : Hid (Below wr.heap.size wr wm) := by rw [← hwm.out]; exact (Below.refl _ _).alloc (Nat.le_refl _) _
          obtain ⟨wl, hwl⟩ : ∃ wl, Hid (wm.alloc (.cells #[.string ⟨#[102, 114, 111, 109]⟩, .string r.f0, .string ⟨#[116, 111]⟩, .string r.f1] 71) = wl) := ⟨_, Lib.hid rfl⟩
          obtain ⟨bl, hbl⟩ : ∃ bl, Hid (wm.heap.size = bl) := ⟨_, Lib.hid rfl⟩
          have HL : Hid (LabAt wl (some ⟨bl, 0, none⟩) (ftL r) ∧ Below wm.heap.size wm wl) := by
            refine ⟨?_, by rw [← hwl.out]; exact (Below.refl _ _).alloc (Nat.le_refl _) _⟩
            have h := R_allocG k71 (W := wm) (base := 0) (e := 71) (xs := ftL r) (inner := [.string ⟨#[102, 114, 111, 109]⟩, .string r.f0, .string ⟨#[116, 111]⟩, .string r.f1]) (fun W' ok => Reps.c2 (k71_mkM _ _ _ (⟨⟨#[102, 114, 111, 109]⟩, r.f0⟩ : SLab)) (Reps.c2 (k71_mkM _ _ _ (⟨⟨#[116, 111]⟩, r.f1⟩ : SLab)) (Reps.none _ _))) (Nat.zero_le _) (by show 2 ≤ _; omega)
            obtain ⟨A9, c9, e9, _, _, hl9⟩ := LabAt.of_R h
            obtain ⟨rfl, _, _⟩ := Value.slice.inj e9
            rw [← hwl.out, ← hbl.out]; exact hl9
          have d0' := pw_cell_below hbw.out d0
          have d1' := pw_cell_below hbw.out d1
          have d2' := pw_cell_below hbw.out d2
          have d3' := pw_cell_below hbw.out d3
          have d4' := pw_cell_below hbw.out d4
          have d5' := pw_cell_below hbw.out d5
          have d6' := pw_cell_below hbw.out d6
          have d7' := pw_cell_below hbw.out d7
          clear d0 d1 d2 d3 d4 d5 d6 d7
          go_upto_region 10 with fail
          rw [hwm.out, hbx.out]
          clear d0' d1' d2' d3' d4' d5' d6' d7'
          have e0 : wm.cell? ⟨bx, 0, none⟩ = some (.string r.f0) := by rw [cellB hM1.out]; rfl
          have e1 : wm.cell? ⟨bx, 1, none⟩ = some (.string r.f1) := by rw [cellB hM1.out]; rfl
          go_upto_region 11 with fail
          rw [hwl.out, hbl.out]
          clear e0 e1
          have hM2 := (HL.out.2.block _ (lt_of_get hM1.out)).trans hM1.out
          have e2 : wl.cell? ⟨bx, 2, none⟩ = some (.int .u64 r.f2.f0) := by rw [cellB hM2]; rfl
          have e4 : wl.cell? ⟨bx, 4, none⟩ = some (.int .u64 r.f3.f0) := by rw [cellB hM2]; rfl
          have e6 : wl.cell? ⟨bx, 6, none⟩ = some (.int .u64 r.f4.f0) := by rw [cellB hM2]; rfl
          clear hM2
          have hbl' : Below wr.heap.size wr wl := HM.out.trans (HL.out.2.mono HM.out.size)
          obtain ⟨W5, hW5⟩ : ∃ W5, Hid (W5 = wl.alloc (.cells #[.string ⟨#[99, 97, 108, 108, 115]⟩, .slice (some ⟨bl, 0, none⟩) 2 2, .int .u64 r.f2.f0, .string ⟨#[99, 97, 108, 108, 115, 102, 97, 105, 108, 101, 100]⟩, .slice (some ⟨bl, 0, none⟩) 2 2, .int .u64 r.f3.f0, .string ⟨#[116, 111, 111, 107]⟩, .slice (some ⟨bl, 0, none⟩) 2 2, .int .u64 r.f4.f0] 43)) := ⟨_, Lib.hid rfl⟩
          have hb5 : Below wr.heap.size wr W5 := by rw [hW5.out]; exact hbl'.alloc hbl'.size _
          obtain ⟨rowsW, hrw, hlw⟩ := HW.out.1.below hb5
          have H5 : Hid ((Kd.raw 3).R 43 W5 w1.heap.size (fun _ => True) u3 rowsW ∧ LRows W5 (winL win :: (rowsL rows k ++ edgesL es i)) rowsW ∧ Below w1.heap.size w1 W5 ∧ LabAt W5 (some ⟨bl, 0, none⟩) (ftL r) ∧ (Kd.raw 3).C W5 (some ⟨wl.heap.size, 0, none⟩) 3 [[.string ⟨#[99, 97, 108, 108, 115]⟩, .slice (some ⟨bl, 0, none⟩) 2 2, .int .u64 r.f2.f0], [.string ⟨#[99, 97, 108, 108, 115, 102, 97, 105, 108, 101, 100]⟩, .slice (some ⟨bl, 0, none⟩) 2 2, .int .u64 r.f3.f0], [.string ⟨#[116, 111, 111, 107]⟩, .slice (some ⟨bl, 0, none⟩) 2 2, .int .u64 r.f4.f0]] ∧ rowsW.length ≤ 1010000) := by
            refine ⟨hrw, hlw, HW.out.2.trans (hb5.mono HW.out.2.size), HL.out.1.keep (KL.below (by rw [hW5.out]; exact (Below.refl _ _).alloc (Nat.le_refl _) _)), ?_, ?_⟩
            · rw [hW5.out]
              have h := R_alloc3 (W := wl) (base := 0) (e := 43) (Reps.c3 (raw3M _ _ _ ⟨#[99, 97, 108, 108, 115]⟩ (some ⟨bl, 0, none⟩) 2 2 r.f2.f0) (Reps.c3 (raw3M _ _ _ ⟨#[99, 97, 108, 108, 115, 102, 97, 105, 108, 101, 100]⟩ (some ⟨bl, 0, none⟩) 2 2 r.f3.f0) (Reps.c3 (raw3M _ _ _ ⟨#[116, 111, 111, 107]⟩ (some ⟨bl, 0, none⟩) 2 2 r.f4.f0) (Reps.none _ _)))) (Nat.zero_le _) (by simp)
              obtain ⟨A9, c9, e9, _, h9⟩ := Kd.R_reads h
              obtain ⟨rfl, _, _⟩ := Value.slice.inj e9
              exact h9
            · have h := hlw.1
              rw [List.length_cons, List.length_append, edgesL_len] at h
              have := HR0.out; omega
          clear hb5 hrw hlw hbl'
          rw [hW5.out] at H5
          go_wp2_with (at_builtin; go_loud (refine Kd.R_append_rows (Kd.raw 3) (Rr := (Kd.raw 3).K w1) (w0 := w1) w1.heap.size rfl _ _ 32 43 (.agg #[(.string ⟨#[]⟩), (.slice none 0 0), (.int .u64 0)]) 48 rfl Tryd.underlying32 info43 rfl (Nat.zero_lt_succ 2) (by decide) u3 rowsW [[.string ⟨#[99, 97, 108, 108, 115]⟩, .slice (some ⟨bl, 0, none⟩) 2 2, .int .u64 r.f2.f0], [.string ⟨#[99, 97, 108, 108, 115, 102, 97, 105, 108, 101, 100]⟩, .slice (some ⟨bl, 0, none⟩) 2 2, .int .u64 r.f3.f0], [.string ⟨#[116, 111, 111, 107]⟩, .slice (some ⟨bl, 0, none⟩) 2 2, .int .u64 r.f4.f0]] (some ⟨wl.heap.size, 0, none⟩) 3 3 (fun _ => True) (fun _ => False) rfl rfl H5.out.1 H5.out.2.2.2.2.1 (fun _ _ h => h) (fun _ h => h.elim) (fun _ _ => trivial) H5.out.2.2.1 H5.out.2.2.1.size (by have h1 := H5.out.2.2.2.2.2; omega) ?_))
          intro v6 w6 hr6 hb6 hg6 hat6
          have H6 : Hid (LW w6 w1.heap.size v6 (winL win :: (rowsL rows k ++ edgesL es (i + 1))) ∧ Below w1.heap.size w1 w6) := by
            have hk := KL.grown H5.out.1 (by decide) hg6
            have hl6 := H5.out.2.2.2.1.keep hk
            have one : ∀ (s : ByteArray) (x : Int), LRow w6 (⟨s, ftL r, x⟩ : SLin) [.string s, .slice (some ⟨bl, 0, none⟩) 2 2, .int .u64 x] := fun s x => ⟨_, 2, rfl, Nat.le_refl _, (fun e => by cases e), hl6⟩
            refine ⟨⟨_, hr6, ?_⟩, hb6⟩
            rw [edgesL_succ, hr.out, ← List.append_assoc, ← List.cons_append]
            exact (H5.out.2.1.keep hk).append (LRows.cons (one _ _) (LRows.cons (one _ _) (LRows.one (one _ _))))
          clear hr6 hb6 hg6 hat6 e2 e4 e6
          go_wp2_with fail
          go_roundw
          case rel => exact ⟨i + 1, v6, by go_num, rfl, by omega, H6⟩
          case measure => simp [intOf]; omega
        · obtain rfl : i = m := by omega
          obtain ⟨Y, hY⟩ : ∃ Y, Hid (winL win :: (rowsL rows k ++ edgesL es i) = Y ∧ Y.length ≤ 1010000) := ⟨_, rfl, by rw [List.length_cons, List.length_append, edgesL_len]; have := HR0.out; omega⟩
          rw [hY.out.1] at HW
          have hXY : Hid (X = Y ++ fatesL [g0, g1, g2] 3) := by rw [← hX.out, ← hY.out.1]; unfold linesL; rw [hn.out, hm.out]; rfl
          obtain ⟨_, _, _, c3, c4, c5, c6, c7, c8⟩ := EC.out wr HW.out.2
          go_wp2_with fail
          clear c3 c4 c5 c6 c7 c8
          obtain ⟨w2, hw2⟩ : ∃ w2, wr = w2 := ⟨_, rfl⟩
          subst hw2
          go_loopw [63, 3] (fun iv lv wr => ∃ (j : Nat) (av : Value), iv = .int .i64 j ∧ lv = av ∧ j ≤ 3 ∧ Hid (LW wr w1.heap.size av (Y ++ fatesL [g0, g1, g2] j) ∧ Below w1.heap.size w1 wr)) (fun iv _ _ => 3 - (intOf iv).toNat)
          case atStart => exact ⟨0, _, rfl, rfl, Nat.zero_le _, by show LW _ _ _ (Y ++ []); rw [List.append_nil]; exact HW.out.1, HW.out.2⟩
          case round =>
            obtain ⟨j, av, rfl, rfl, hj, HW⟩ := hrel
            by_cases hlt : j < 3
            · have hki : (j : Int) < (3 : Int) := by omega
              go_upto_region 15 with fail
              go_cut [9, 10] (fun iv pv wx => ∃ (b : Nat) (bo : Bool), iv = .int .i64 j ∧ pv = .pointer (some ⟨b, 0, none⟩) ∧ Hid (wx.heap[b]? = some (.cells #[.int .u64 ([g0, g1, g2].getD j 0), .bool bo] 61 (0, 0)) ∧ LW wx w1.heap.size u3 (Y ++ fatesL [g0, g1, g2] j) ∧ Below w1.heap.size w1 wx))
              case first =>
                rcases (by omega : j = 0 ∨ j = 1 ∨ j = 2) with rfl | rfl | rfl
                · have hq : ∀ W, (Instr.index 62 (.agg #[.int .u64 g0, .bool b0, .int .u64 g1, .bool b1, .int .u64 g2, .bool b2]) (.int .i64 0)).run Tryd.prog W = .ok (.agg #[.int .u64 g0, .bool b0]) W := fun _ => by kernel_rfl
                  go_wp2_with fail
                  go_meet
                  case rel => exact ⟨_, b0, rfl, rfl, allocN _ _, HW.out.1.below ((Below.refl _ _).alloc (Nat.le_refl _) _), HW.out.2.alloc HW.out.2.size _⟩
                · have hq : ∀ W, (Instr.index 62 (.agg #[.int .u64 g0, .bool b0, .int .u64 g1, .bool b1, .int .u64 g2, .bool b2]) (.int .i64 1)).run Tryd.prog W = .ok (.agg #[.int .u64 g1, .bool b1]) W := fun _ => by kernel_rfl
                  go_wp2_with fail
                  go_meet
                  case rel => exact ⟨_, b1, rfl, rfl, allocN _ _, HW.out.1.below ((Below.refl _ _).alloc (Nat.le_refl _) _), HW.out.2.alloc HW.out.2.size _⟩
                · have hq : ∀ W, (Instr.index 62 (.agg #[.int .u64 g0, .bool b0, .int .u64 g1, .bool b1, .int .u64 g2, .bool b2]) (.int .i64 2)).run Tryd.prog W = .ok (.agg #[.int .u64 g2, .bool b2]) W := fun _ => by kernel_rfl
                  go_wp2_with fail
                  go_meet
                  case rel => exact ⟨_, b2, rfl, rfl, allocN _ _, HW.out.1.below ((Below.refl _ _).alloc (Nat.le_refl _) _), HW.out.2.alloc HW.out.2.size _⟩
              case rest =>
                obtain ⟨b, bo, rfl, rfl, HC⟩ := hcut
                clear HW
                obtain ⟨fv, hfv⟩ : ∃ fv, Hid ([g0, g1, g2].getD j 0 = fv) := ⟨_, Lib.hid rfl⟩
                rw [hfv.out] at HC
                have hbw : Hid (Below w.heap.size w wc) := H1.out.2.trans (HC.out.2.2.mono H1.out.2.size)
                obtain ⟨sn, hsn⟩ : ∃ sn, Hid (itoaB j = sn) := ⟨_, Lib.hid rfl⟩
                have HIT : Hid (∀ W, Below wc.heap.size wc W → Calls Tryd.prog 29 #[.int .i64 (j : Int)] W fun e w' => e = .returned (.string sn) ∧ Below W.heap.size W w') := fun W hb => by
                  have h := Itoa_i (j : Int) (by omega) (by omega) W (HP.out.below (hbw.out.trans (hb.mono hbw.out.size))).1
                  rw [show (⟨(Lib.itoa (j : Int)).toArray⟩ : ByteArray) = itoaB j from rfl, hsn.out] at h
                  exact h
                obtain ⟨rowsW, hrw, hlw⟩ := HC.out.2.1
                have HRW : Hid ((Kd.raw 3).R 43 wc w1.heap.size (fun _ => True) u3 rowsW ∧ LRows wc (Y ++ fatesL [g0, g1, g2] j) rowsW ∧ rowsW.length ≤ 1010003) := ⟨hrw, hlw, by rw [hlw.1, List.length_append, fatesL_len]; have := hY.out.2; omega⟩
                clear hrw hlw
                go_upto_region 16 with fail
                refine start_ (n := 11) (S := (fun w' => Below wc.heap.size wc w')) (ds := [9, 10]) #[false, false, false, false, false, false, false, false, false, false, false] (by kernel_rfl) (by rfl) (by rfl) (Below_drewN (Below.refl wc.heap.size wc) 1) (fun hHeld => ?_); refine with_tabW tab15_16 bits15_16 (fun HT_ HW_ => ?_)
                refine pure_ (i := 0) (N := some 67) (v := ?_) (a' := ?_) #[true, false, false, false, false, false, false, false, false, false, false] rfl rfl (any_of HT_.out (by kernel_rfl)) (fun _ _ _ h => h) (Or.inl ⟨by rfl, ?_⟩) ?_ ?_
                rotate_left
                · intro w'
                  go_simp
                  with_reducible rfl
                rotate_left
                · simp only [Act.put, List.setIfInBounds_toArray, List.set_cons_zero, List.set_cons_succ]
                  rfl
                refine pure_ (i := 1) (N := some 68) (v := ?_) (a' := ?_) #[true, true, false, false, false, false, false, false, false, false, false] rfl rfl (any_of HT_.out (by kernel_rfl)) (fun _ _ _ h => h) (Or.inl ⟨by rfl, ?_⟩) ?_ ?_
                rotate_left
                · intro w'
                  go_simp
                  with_reducible rfl
                rotate_left
                · simp only [Act.put, List.setIfInBounds_toArray, List.set_cons_zero, List.set_cons_succ]
                  rfl
                refine pure_ (i := 5) (N := some 72) (v := ?_) (a' := ?_) #[true, true, false, false, false, true, false, false, false, false, false] rfl rfl (any_of HT_.out (by kernel_rfl)) (fun _ _ _ h => h) (Or.inl ⟨by rfl, ?_⟩) ?_ ?_
                rotate_left
                · intro w'
                  go_simp
                  with_reducible rfl
                rotate_left
                · simp only [Act.put, List.setIfInBounds_toArray, List.set_cons_zero, List.set_cons_succ]
                  rfl
                refine take_ (i := 6) (N := some 73) (v := ?_) (a' := ?_) #[true, true, false, false, false, true, true, false, false, false, false] rfl rfl (take_ofW HT_.out HW_.out (by kernel_rfl)) (fun _ _ _ h => h) (Or.inl ⟨by rfl, ?_⟩) hHeld ?_ ?_
                rotate_left
                · rintro w' hS; have s1 := show w'.cell? ⟨b, 0, none⟩ = some (.int .u64 fv) by rw [cellB ((hS.block _ (lt_of_get HC.out.1)).trans HC.out.1)]; rfl
                  go_simp
                  with_reducible rfl
                rotate_left
                · simp only [Act.put, List.setIfInBounds_toArray, List.set_cons_zero, List.set_cons_succ]
                  rfl
                refine one_ (i := 2) (N := some 69) #[true, true, true, false, false, true, true, false, false, false, false] rfl rfl (one_of HT_.out (by kernel_rfl)) (by decide) (fun K hK => ?_)
                rw [if_pos (by rfl)]
                go_simp
                go_at_call 29; refine (HIT.out _ hHeld).mono ?_; rintro e w2 ⟨rfl, hb2⟩; have hB2 : Hid (Below wc.heap.size wc w2) := hHeld.trans (hb2.mono hHeld.size)
                refine hK.out _ _ (hHeld.trans (hb2.mono hHeld.size)) (fun hHeld => ?_)
                clear hK K
                refine pure_ (i := 3) (N := some 70) (v := ?_) (a' := ?_) #[true, true, true, true, false, true, true, false, false, false, false] rfl rfl (any_of HT_.out (by kernel_rfl)) (fun _ _ _ h => h) (Or.inl ⟨by rfl, ?_⟩) ?_ ?_
                rotate_left
                · intro w'
                  go_simp
                  with_reducible rfl
                rotate_left
                · simp only [Act.put, List.setIfInBounds_toArray, List.set_cons_zero, List.set_cons_succ]
                  rfl
                refine one_ (i := 4) (N := some 71) #[true, true, true, true, true, true, true, false, false, false, false] rfl rfl (one_of HT_.out (by kernel_rfl)) (by decide) (fun K hK => ?_)
                rw [if_pos (by rfl)]
                go_simp
                refine hK.out _ _ (hHeld.alloc hHeld.size _) (fun hHeld => ?_)
                clear hK K
                refine pure_ (i := 7) (N := some 74) (v := ?_) (a' := ?_) #[true, true, true, true, true, true, true, true, false, false, false] rfl rfl (any_of HT_.out (by kernel_rfl)) (fun _ _ _ h => h) (Or.inl ⟨by rfl, ?_⟩) ?_ ?_
                rotate_left
                · intro w'
                  go_simp
                  with_reducible rfl
                rotate_left
                · simp only [Act.put, List.setIfInBounds_toArray, List.set_cons_zero, List.set_cons_succ]
                  rfl
                refine one_ (i := 8) (N := some 75) #[true, true, true, true, true, true, true, true, true, false, false] rfl rfl (one_of HT_.out (by kernel_rfl)) (by decide) (fun K hK => ?_)
                rw [if_pos (by rfl)]
                go_simp
                refine hK.out _ _ (hHeld.alloc hHeld.size _) (fun hHeld => ?_)
                clear hK K
                refine last_ (i := 9) (N := some 76) #[true, true, true, true, true, true, true, true, true, true, false] rfl rfl (one_of HT_.out (by kernel_rfl)) (by decide) (fun K hK => ?_)
                refine Kd.R_append_step (Kd.raw 3) (w0 := w1) w1.heap.size (by rfl) _ _ 32 43 (.agg #[(.string ⟨#[]⟩), (.slice none 0 0), (.int .u64 0)]) 48 rfl Tryd.underlying32 info43 rfl (Nat.zero_lt_succ 2) (by decide) u3 rowsW ([.string ⟨#[102, 97, 116, 101]⟩, .slice (some ⟨w2.heap.size, 0, none⟩) 1 1, .int .u64 fv] : List Value) [.string ⟨#[102, 97, 116, 101]⟩, .slice (some ⟨w2.heap.size, 0, none⟩) 1 1, .int .u64 fv] (fun _ => True) (fun _ => False) rfl (by show Value.slice (some ⟨w2.heap.size + 1, 0, none⟩) 1 1 = _; rw [size_alloc]) (raw3M _ _ _ _ _ _ _ _) (fun _ h => h.elim) (fun _ _ => trivial) (Kd.R_below HRW.out.1 (hB2.out.alloc hB2.out.size _)) (HC.out.2.2.trans ((hB2.out.alloc hB2.out.size _).mono HC.out.2.2.size)) (HC.out.2.2.trans ((hB2.out.alloc hB2.out.size _).mono HC.out.2.2.size)).size (by have := HRW.out.2.2; omega) ?_; intro v6 w6 hr6 hb6 hg6 hat6
                refine hK.out _ _ ?_
                clear hK K
                refine pure_ (i := 10) (N := some 3) (v := ?_) (a' := ?_) #[true, true, true, true, true, true, true, true, true, true, true] rfl rfl (any_of HT_.out (by kernel_rfl)) (fun _ _ _ h => h) (Or.inl ⟨by rfl, ?_⟩) ?_ ?_
                rotate_left
                · intro w'
                  go_simp
                  with_reducible rfl
                rotate_left
                · simp only [Act.put, List.setIfInBounds_toArray, List.set_cons_zero, List.set_cons_succ]
                  rfl
                refine done_ (done_of HT_.out (by kernel_rfl)) ?_
                clear HT_ HW_ hHeld
                have H6 : Hid (LW w6 w1.heap.size v6 (Y ++ fatesL [g0, g1, g2] (j + 1)) ∧ Below w1.heap.size w1 w6) := by
                  have hba : Below wc.heap.size wc (w2.alloc (.cells #[.string ⟨#[107, 105, 110, 100]⟩, .string sn] 71)) := hB2.out.alloc hB2.out.size _
                  have hk : KL (w2.alloc (.cells #[.string ⟨#[107, 105, 110, 100]⟩, .string sn] 71)) w6 := KL.grown (Kd.R_below HRW.out.1 hba) (by decide) hg6
                  refine ⟨⟨_, hr6, ?_⟩, hb6⟩
                  rw [fatesL_succ, hfv.out, ← List.append_assoc]
                  refine ((HRW.out.2.1.keep (KL.below hba)).keep hk).append (LRows.one ?_)
                  unfold fateL
                  rw [hsn.out]
                  have h := R_allocG k71 (W := w2) (base := 0) (e := 71) (xs := [(⟨⟨#[107, 105, 110, 100]⟩, sn⟩ : SLab)]) (inner := [.string ⟨#[107, 105, 110, 100]⟩, .string sn]) (fun W' ok => Reps.c2 (k71_mkM _ _ _ (⟨⟨#[107, 105, 110, 100]⟩, sn⟩ : SLab)) (Reps.none _ _)) (Nat.zero_le _) (by show 1 ≤ _; omega)
                  obtain ⟨A9, c9, e9, _, _, hl9⟩ := LabAt.of_R h
                  obtain ⟨rfl, _, _⟩ := Value.slice.inj e9
                  exact ⟨_, 1, rfl, Nat.le_refl _, (fun e => by cases e), hl9.keep hk⟩
                clear hr6 hb6 hg6 hat6 hb2
                go_wp2_with fail
                go_roundw
                case rel => exact ⟨j + 1, v6, by go_num, rfl, by omega, H6⟩
                case measure => simp [intOf]; omega
            · have hnl : ¬ ((j : Int) < 3) := by omega
              have hj3 : j = 3 := by omega
              rw [hj3, ← hXY.out] at HW
              clear hlt hj
              have HJ3 := Lib.hid hj3; clear hj3
              have HXL : Hid (0 < X.length ∧ X.length ≤ 1010003 ∧ ∀ x ∈ X, x.f1.length ≤ 1000000) := ⟨by rw [← hX.out]; simp [linesL], by rw [hXY.out, List.length_append, fatesL_len]; have := hY.out.2; omega, by rw [← hX.out]; exact linesL_labs _ _ _ _ HS.out⟩
              obtain ⟨N, hN⟩ : ∃ N, Hid (X.length = N ∧ 0 < N ∧ N ≤ 1010003) := ⟨_, rfl, HXL.out.1, HXL.out.2.1⟩
              obtain ⟨A9, c9, e9, hc9, hC9⟩ := HW.out.1.reads
              rw [hN.out.1] at e9 hC9
              subst e9
              obtain ⟨g, rfl⟩ : ∃ g, A9 = some ⟨g, 0, none⟩ := by
                obtain ⟨ad, rfl, _⟩ := hC9.2.2 hN.out.2.1
                obtain ⟨rw9, h9, _⟩ := HW.out.1
                obtain ⟨g, rfl⟩ := Kd.R_head h9
                exact ⟨g, rfl⟩
              clear hC9 hc9
              go_wp2_with fail
              obtain ⟨w2, hw2⟩ : ∃ w2, wr = w2 := ⟨_, rfl⟩
              subst hw2
              go_loopw [80] (fun iv wr => ∃ (i : Nat), iv = .int .i64 i ∧ i ≤ N ∧ Hid (LW wr w1.heap.size (.slice (some ⟨g, 0, none⟩) N c9) X ∧ Below w1.heap.size w1 wr)) (fun iv _ => N - (intOf iv).toNat)
              case atStart => exact ⟨0, rfl, Nat.zero_le _, HW.out⟩
              case round =>
                obtain ⟨i, rfl, hi, HW⟩ := hrel
                by_cases hlt : i < N
                · have hki : (i : Int) < (N : Int) := by omega
                  have HLT := Lib.hid hlt
                  have hnb := hN.out.2.2
                  obtain ⟨x, hx⟩ : ∃ x, Hid (X[i]? = some x) := ⟨_, List.getElem?_eq_getElem (by rw [hN.out.1]; exact hlt)⟩
                  obtain ⟨rowsW, hrw, hlw⟩ := HW.out.1
                  obtain ⟨r, hr, A1, c1, rfl, hc1, hA1, hlab⟩ := hlw.2 i x hx.out
                  have hrl : rowsW.length = N := by rw [hlw.1, hN.out.1]
                  have HRW : Hid ((Kd.raw 3).R 43 wr w1.heap.size (fun _ => True) (.slice (some ⟨g, 0, none⟩) N c9) rowsW ∧ LRows wr X rowsW) := ⟨hrw, hlw⟩
                  obtain ⟨A8, c8, e8, _, hC8⟩ := Kd.R_reads hrw
                  obtain ⟨e10, -, -⟩ := Value.slice.inj e8
                  subst e10
                  obtain ⟨ad8, e9, hcells⟩ := hC8.2.2 (by rw [hrl]; exact hN.out.2.1)
                  obtain rfl := Option.some.inj e9
                  obtain ⟨cs8, hcl8, ⟨rfl, _, _⟩, hcell8⟩ := hcells i _ hr
                  have CC : Hid (∀ (q : Nat) (u : Value), ([.string x.f0, .slice A1 x.f1.length c1, .int .u64 x.f2] : List Value)[q]? = some u → wr.cell? ⟨g, i * 3 + q, none⟩ = some u) := fun q u hu => by
                    have h := hcell8 q u hu
                    have e : (⟨g, 0, none⟩ : Addr).add (i * 3 + q) = ⟨g, i * 3 + q, none⟩ := by
                      unfold Addr.add
                      split
                      · rename_i h0; rw [h0]
                      · simp
                    rwa [show (Kd.raw 3).sz = 3 from rfl, e] at h
                  obtain ⟨n1, hn1⟩ : ∃ n1, Hid (x.f1.length = n1) := ⟨_, Lib.hid rfl⟩
                  have HCL := Lib.hid (Clone_c wr A1 c1 x.f1 hlab.1 (HXL.out.2.2 x (List.mem_of_getElem? hx.out)) hA1)
                  rw [hn1.out] at HCL CC
                  have s1 : wr.cell? ⟨g, i * 3 + 1, none⟩ = some (.slice A1 n1 c1) := CC.out 1 _ rfl
                  clear hrw hlw hr hc1 hA1 hlab hC8 e8 hcells hcl8 hcell8 hrl e9
                  go_wp2_with fail
                  refine HCL.out.mono ?_
                  rintro e w3 ⟨v3, rfl, hr3, hb3⟩
                  obtain ⟨A3, c3, e3, hc3, hA3, hl3⟩ := LabAt.of_R hr3
                  rw [hn1.out] at e3
                  subst e3
                  have H3 : Hid (Below wr.heap.size wr w3 ∧ x.f1.length ≤ c3 ∧ (A3 = none → c3 = 0) ∧ LabAt w3 A3 x.f1) := ⟨hb3, hc3, hA3, hl3⟩
                  have HR3 : Hid ((Kd.raw 3).R 43 w3 w1.heap.size (fun _ => True) (.slice (some ⟨g, 0, none⟩) N c9) rowsW) := Kd.R_below HRW.out.1 hb3
                  have hgl : g < wr.heap.size := lt_of_get (Kd.R_typed HRW.out.1 g rfl).choose_spec
                  have CC3 : Hid (∀ (q : Nat) (u : Value), ([.string x.f0, .slice A1 n1 c1, .int .u64 x.f2] : List Value)[q]? = some u → w3.cell? ⟨g, i * 3 + q, none⟩ = some u) := fun q u hu => pw_cell_below hb3 (CC.out q u hu)
                  obtain ⟨cg, hcg⟩ := Kd.R_typed HR3.out g rfl
                  have k3 : w3.frozen? ⟨g, i * 3 + 1, none⟩ = false := frozenB hcg _
                  have q3 : w3.cell? ⟨g, i * 3 + 1, none⟩ = some (.slice A1 n1 c1) := CC3.out 1 _ rfl
                  have hseg := Kd.R_seg (okp := fun _ => False) HR3.out (i : Int) (by omega) hki (c := [.string x.f0, .slice A1 n1 c1, .int .u64 x.f2]) (seg := [.slice A3 n1 c3]) (j := 1) rfl (fun q u hu => CC3.out q u hu) (by show 2 ≤ 3; omega) (x' := [.string x.f0, .slice A3 n1 c3, .int .u64 x.f2]) (raw3M _ _ _ _ _ _ _ _) (fun _ h => h.elim)
                  have H4 : Hid (LW (w3.setCell ⟨g, i * 3 + 1, none⟩ (.slice A3 n1 c3)) w1.heap.size (.slice (some ⟨g, 0, none⟩) N c9) X ∧ Below w1.heap.size w1 (w3.setCell ⟨g, i * 3 + 1, none⟩ (.slice A3 n1 c3))) := by
                    have hk : KL w3 (w3.setCell ⟨g, i * 3 + 1, none⟩ (.slice A3 n1 c3)) := KL.set hcg (by decide)
                    have hg1 : w1.heap.size ≤ g := Kd.R_base HR3.out g rfl
                    refine ⟨⟨_, hseg.1, ?_⟩, (HW.out.2.trans (H3.out.1.mono HW.out.2.size)).setCell (p := ⟨g, i * 3 + 1, none⟩) hg1 _⟩
                    exact ((HRW.out.2.keep (KL.below H3.out.1)).keep hk).set hx.out ⟨A3, c3, by rw [← hn1.out], H3.out.2.1, H3.out.2.2.1, H3.out.2.2.2.keep hk⟩
                  clear hr3 hb3 hc3 hA3 hl3 s1 HCL hcg hseg hgl
                  go_wp2_with fail
                  have hlb := HLT.out
                  go_roundw
                  case rel => exact ⟨i + 1, by go_num, HLT.out, H4⟩
                  case measure => simp [intOf]; omega
                · obtain rfl : i = N := by omega
                  go_wp2_with fail
                  go_ret
                  exact ⟨_, rfl, HW.out.1.lower H1.out.2.size, H1.out.2.trans (HW.out.2.mono H1.out.2.size)⟩
end Go.Proofs.YtdbmcikoiilanaaDoor.Xp
