/- series' table: Labels; nobody's table; the reference's Of; alive. -/
import Derived.Test.YtkmfgacfccgdcaaDoorSr4
set_option linter.unusedVariables false
set_option linter.unusedSimpArgs false
namespace Go.Proofs.YtkmfgacfccgdcaaDoor.Sr
open Go.RowKit Go.Proofs.YtkmfgacfccgdcaaDoor.B0 Go.Proofs.YtkmfgacfccgdcaaDoor.Ps Go.Proofs.YtkmfgacfccgdcaaDoorW.PrintWords Go.Proofs.YtkmfgacfccgdcaaDoorW.PrintLast Go.Proofs.YtkmfgacfccgdcaaDoor.Bld

set_option maxRecDepth 100000 in
set_option maxHeartbeats 2000000 in
theorem Labels_no {w : World} {t : Nat} {most : Int} {L : List (List ByteArray)} {fp : List Nat} (h : TA w t most L fp) (i : Int) (hi : i < 0 ∨ (L.length : Int) < i) :
    Calls Tryd.prog 10 #[.pointer (some ⟨t, 0, none⟩), .int .i64 i] w fun e w' => e = .returned (.tuple #[.slice none 0 0, .bool false]) ∧ w = w' := by
  obtain ⟨lv, mb, vals, rs, h1, rfl⟩ := h
  obtain ⟨A, c, rfl, hc⟩ := own_form h1.own
  have c1 : w.cell? ⟨t, 1, none⟩ = some (.slice A L.length c) := cellB h1.blk 1
  clear h1
  by_cases h0 : i < 0
  · clear hi
    go_enter Tryd.func10, Tryd.ntmps10
    go_wp2_with fail
    go_ret2
    exact ⟨rfl, rfl⟩
  · have h2 : (L.length : Int) < i := by omega
    have h3 : decide (i < 0) = false := by simpa using h0
    clear hi
    go_enter Tryd.func10, Tryd.ntmps10
    go_wp2_with fail
    go_ret2
    exact ⟨rfl, rfl⟩
set_option maxRecDepth 100000 in
set_option maxHeartbeats 2000000 in
theorem Labels_0 {w : World} {t : Nat} {most : Int} {L : List (List ByteArray)} {fp : List Nat} (h : TA w t most L fp) :
    Calls Tryd.prog 10 #[.pointer (some ⟨t, 0, none⟩), .int .i64 0] w fun e w' => e = .returned (.tuple #[.slice none 0 0, .bool true]) ∧ w = w' := by
  obtain ⟨lv, mb, vals, rs, h1, rfl⟩ := h
  obtain ⟨A, c, rfl, hc⟩ := own_form h1.own
  have c1 : w.cell? ⟨t, 1, none⟩ = some (.slice A L.length c) := cellB h1.blk 1
  clear h1
  go_enter Tryd.func10, Tryd.ntmps10
  go_wp2_with fail
  go_ret2
  exact ⟨rfl, rfl⟩
/-- the i-th row, as a cell of the table's own slice. -/
theorem TB.cell {w : World} {t : Nat} {most : Int} {L : List (List ByteArray)} {lv : Value} {mb : Nat} {vals : List Value} {rs : List Nat} (h : TB w t most L lv mb vals rs) (i : Nat) (hi : i < L.length) :
    ∃ g c, lv = .slice (some ⟨g, 0, none⟩) L.length c ∧ L.length ≤ c ∧ ∃ A k, w.cell? ⟨g, i, none⟩ = some (.slice A L[i].length k) ∧ L[i].length ≤ k ∧ RS w A L[i].length L[i] := by
  rcases h.own.2 with ⟨rfl, h0⟩ | ⟨g, cap, cur, rfl, hb, hg, hc, hm, hs, ht⟩
  · omega
  · obtain ⟨v, h1, A, k, h2, h3, h4, h5⟩ := h.rows i hi
    refine ⟨g, cap, rfl, hc, A, k, ?_, h3, h4⟩
    rw [cellB hg i, ← h2, ← h1, ← ht, List.getElem?_take_of_lt (by omega)]
    simp
set_option maxRecDepth 100000 in
set_option maxHeartbeats 2000000 in
theorem Labels_q {w : World} {t : Nat} {most : Int} {L : List (List ByteArray)} {fp : List Nat} (h : TA w t most L fp) (i : Nat) (hi : i < L.length) (hL : L.length ≤ 1000) (hx : L[i].length ≤ 1000) :
    Calls Tryd.prog 10 #[.pointer (some ⟨t, 0, none⟩), .int .i64 ((i : Int) + 1)] w fun e w' => ∃ A c, e = .returned (.tuple #[.slice A L[i].length c, .bool true]) ∧ L[i].length ≤ c ∧ RS w' A L[i].length L[i] ∧ Below w.heap.size w w' := by
  obtain ⟨lv, mb, vals, rs, h1, rfl⟩ := h
  obtain ⟨g, c, rfl, hc, A, k, hcell, hk, hR⟩ := h1.cell i hi
  have c1 : w.cell? ⟨t, 1, none⟩ = some (.slice (some ⟨g, 0, none⟩) L.length c) := cellB h1.blk 1
  have HR := Lib.hid hR; clear hR h1
  obtain ⟨xs, hxs⟩ : ∃ xs, Hid (xs = L[i]) := ⟨_, Lib.hid rfl⟩
  rw [← hxs.out] at hcell HR hx hk ⊢
  obtain ⟨n, hn⟩ : ∃ n, Hid (n = L.length) := ⟨_, Lib.hid rfl⟩
  rw [← hn.out] at c1 hi hc hL
  have hii : (i : Int) < n := by omega
  have h3 : decide ((i : Int) + 1 < 0) = false := by simp; omega
  have h4 : decide ((n : Int) < (i : Int) + 1) = false := by simp; omega
  have h5 : ((i : Int) + 1 == 0) = false := by rw [beq_eq_false_iff_ne]; omega
  have h6 : IntKind.i64.wrap ((i : Int) + 1 - 1) = (i : Int) := by rw [show (i : Int) + 1 - 1 = i from by omega]; exact IntWalk.i64_in _ (by omega)
  go_enter Tryd.func10, Tryd.ntmps10
  go_wp2_with fail
  refine (Clone_s w A k xs HR.out (by omega)).mono ?_
  rintro e w1 ⟨v1, rfl, hO, hB⟩
  obtain ⟨A1, c1', rfl, hc1, hr1⟩ := own_reads_of_le (d := ByteArray.empty) hO
  have HB := Lib.hid hB
  have HR1 := Lib.hid hr1
  clear hO hr1 hB
  go_wp2_with fail
  go_ret2
  exact ⟨A1, c1', rfl, hc1, HR1.out, HB.out⟩
theorem RS_one (w : World) (s : ByteArray) : RS (w.alloc (.cells #[.string s] 9)) (some ⟨w.heap.size, 0, none⟩) [s].length [s] := by
  refine ⟨rfl, by simp, fun _ => ⟨_, rfl, fun j hj => ?_⟩⟩
  obtain rfl : j = 0 := by simpa using hj
  have := cellB (allocN w (.cells #[.string s] 9)) 0
  rw [show (⟨w.heap.size, 0, none⟩ : Addr).add 0 = ⟨w.heap.size, 0, none⟩ from rfl, this]
  rfl
set_option maxRecDepth 100000 in
set_option maxHeartbeats 2000000 in
theorem alive20 (w : World) (ht : tabP w) : Calls Tryd.prog 6 #[] w fun e w' => e = .returned (.bool true) ∧ Below w.heap.size w w' := by
  have HT := Lib.hid ht; clear ht
  go_enter Tryd.func6, Tryd.ntmps6
  go_wp2_with fail
  refine (New_c 1 w (by omega) (by omega)).mono ?_
  rintro e w1 ⟨t, fp, rfl, hT, hF, hn⟩
  have H1 : Hid (TA w1 t 1 [] fp ∧ Fr [] w w1 ∧ ∀ k, k ∈ fp → w.heap.size ≤ k) := ⟨hT, hF, hn⟩
  clear hT hF hn
  go_wp2_with fail
  have e1 : ofN 1 [] [⟨#[97]⟩] = 1 := by decide
  have e2 : ofL 1 [] [⟨#[97]⟩] = [[⟨#[97]⟩]] := by decide
  refine (Of_q (H1.out.1.fr ((Fr.refl [] w1).alloc _) (by simp)) (some ⟨w1.heap.size, 0, none⟩) 1 [⟨#[97]⟩] (RS_one w1 _) (by simp) (by decide) (HT.out.below (H1.out.2.1.alloc _).below (Nat.le_refl _)) (by simp)).mono ?_
  rintro e w2 ⟨rfl, fp2, hT, hF, hn⟩
  rw [e1]
  rw [e2] at hT
  have H2 : Hid (TA w2 t 1 [[⟨#[97]⟩]] fp2 ∧ Fr [] w w2 ∧ ∀ k, k ∈ fp2 → w.heap.size ≤ k) := by
    refine ⟨hT, (H1.out.2.1.alloc _).trans' hF (fun k hk => .inr (H1.out.2.2 k hk)), fun k hk => ?_⟩
    rcases hn k hk with h | h
    · exact H1.out.2.2 k h
    · have := (H1.out.2.1.alloc (.cells #[.string ⟨#[97]⟩] 9)).size; omega
  clear hT hF hn H1 e1 e2
  go_wp2_with fail
  have e1 : ofN 1 [[⟨#[97]⟩]] [⟨#[98]⟩] = 0 := by decide
  have e2 : ofL 1 [[⟨#[97]⟩]] [⟨#[98]⟩] = [[⟨#[97]⟩]] := by decide
  refine (Of_q (H2.out.1.fr ((Fr.refl [] w2).alloc _) (by simp)) (some ⟨w2.heap.size, 0, none⟩) 1 [⟨#[98]⟩] (RS_one w2 _) (by simp) (by decide) (HT.out.below (H2.out.2.1.alloc _).below (Nat.le_refl _)) (by simp)).mono ?_
  rintro e w3 ⟨rfl, fp3, hT, hF, hn⟩
  rw [e1]
  rw [e2] at hT
  have H3 : Hid (TA w3 t 1 [[⟨#[97]⟩]] fp3 ∧ Fr [] w w3) := ⟨hT, (H2.out.2.1.alloc _).trans' hF (fun k hk => .inr (H2.out.2.2 k hk))⟩
  clear hT hF hn H2 e1 e2
  go_wp2_with fail
  refine (New_no 0 w3 (by omega)).mono ?_
  rintro e w4 ⟨rfl, rfl⟩
  go_wp2_with fail
  refine (Len_q H3.out.1).mono ?_
  rintro e w4 ⟨rfl, rfl⟩
  go_wp2_with fail
  go_ret
  exact ⟨by first | rfl | (simp; done), H3.out.2.below⟩
end Go.Proofs.YtkmfgacfccgdcaaDoor.Sr
