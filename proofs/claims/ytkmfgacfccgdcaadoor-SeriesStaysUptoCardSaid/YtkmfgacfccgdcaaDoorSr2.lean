/- rows of strings: slices.Clone; series.key. -/
import Derived.Test.YtkmfgacfccgdcaaDoorSr1
import Derived.Test.YtkmfgacfccgdcaaDoorBld
import Derived.Test.YtkmfgacfccgdcaaDoorSh
import Derived.Test.YtkmfgacfccgdcaaDoorMp
import Derived.Lib.SmallJoins
import Derived.Lib.SliceRun
import Derived.Lib.LaidTab
import Derived.LoopTactic
set_option linter.unusedVariables false
set_option linter.unusedSimpArgs false
namespace Go.Proofs.YtkmfgacfccgdcaaDoor.Sr
open Go.RowKit Go.Proofs.YtkmfgacfccgdcaaDoor.B0 Go.Proofs.YtkmfgacfccgdcaaDoor.Ps Go.Proofs.YtkmfgacfccgdcaaDoorW.PrintWords Go.Proofs.YtkmfgacfccgdcaaDoor.Bld

abbrev RS (w : World) (A : Option Addr) (n : Nat) (xs : List ByteArray) : Prop := ReadsOf Value.string ByteArray.empty w A n xs
theorem info9 : (Tryd.prog.info? 9).map (fun i => (i.zero, i.size, i.bytes)) = some (some (.string ByteArray.empty), 1, 16) := by kernel_rfl
theorem info29 : (Tryd.prog.info? 29).map (fun i => (i.zero, i.size, i.bytes)) = some (some (.slice none 0 0), 1, 24) := by kernel_rfl
theorem RS.fr {w w' : World} {A : Option Addr} {n : Nat} {xs : List ByteArray} {F : List Nat} (h : RS w A n xs) (hf : Fr F w w') (hd : ∀ ad, A = some ad → 0 < n → ad.block ∉ F) : RS w' A n xs := by
  refine ⟨h.1, h.2.1, fun h0 => ?_⟩
  obtain ⟨ad, e, hc⟩ := h.2.2 h0
  refine ⟨ad, e, fun j hj => ?_⟩
  have h1 := hc j hj
  have hb : (ad.add j).block = ad.block := by unfold Addr.add; split <;> rfl
  have hlt : (ad.add j).block < w.heap.size := World.block_lt_of_cell? w _ h1
  rw [World.cell?_of_block (hf.block _ hlt (by rw [hb]; exact hd ad e h0))]
  exact h1

set_option maxRecDepth 100000 in
set_option maxHeartbeats 2000000 in
theorem Clone_s (w : World) (A : Option Addr) (c : Nat) (xs : List ByteArray) (hr : RS w A xs.length xs) (hl : xs.length ≤ 100000) :
    Calls Tryd.prog 17 #[.slice A xs.length c] w fun e w' => ∃ v', e = .returned v' ∧ w'.ownsRow w.heap.size 9 1 v' xs.length (encs Value.string xs) ∧ Below w.heap.size w w' := by
  have hq : ∀ W, (binOp BinOp.eql 29 (.slice A xs.length c) (.slice none 0 0)).run Tryd.prog W = .ok (.bool A.isNone) W := fun W => Lib.run_eql_slice_nil W 29 9 A xs.length c 0 0 Tryd.underlying29
  have R := Lib.hid hr; clear hr
  cases A with
  | none =>
    have h0 : xs.length = 0 := by
      rcases Nat.eq_zero_or_pos xs.length with h | h
      · exact h
      · obtain ⟨ad, e, _⟩ := R.out.2.2 h; cases e
    obtain rfl : xs = [] := List.eq_nil_of_length_eq_zero h0
    have hq2 : ∀ W, (binOp BinOp.eql 29 (.slice none 0 c) (.slice none 0 0)).run Tryd.prog W = .ok (.bool true) W := hq
    clear hq h0
    go_enter Tryd.func17, Tryd.ntmps17
    go_wp2_with fail
    go_ret
    exact ⟨_, rfl, World.ownsRow_nil _ _ _ _, Below.refl _ _⟩
  | some ad =>
    have hq2 : ∀ W, (binOp BinOp.eql 29 (.slice (some ad) xs.length c) (.slice none 0 0)).run Tryd.prog W = .ok (.bool false) W := hq
    clear hq
    go_enter Tryd.func17, Tryd.ntmps17
    go_wp2_with (at_builtin; go_loud (refine print_append_row_of (w0 := w) Value.string ByteArray.empty w.heap.size rfl _ _ 29 9 (.string ByteArray.empty) 16 rfl Tryd.underlying29 info9 (by rfl) (by decide) (fun _ => rfl) (.slice (some ⟨w.heap.size, 0, none⟩) 0 0) [] xs (some ad) xs.length c rfl rfl (World.ownsRow_made w #[] 0 (Nat.le_refl _) (Nat.zero_le _) (by simp)) (R.out.allocS _) ((Below.refl _ _).alloc (Nat.le_refl _) _) (by simp) (by simp; omega) ?_))
    intro v1 w1 h1 h2 h3 h4
    have K1 : Hid (w1.ownsRow w.heap.size 9 1 v1 xs.length (encs Value.string xs)) := h1
    have K2 := Lib.hid h2
    clear h1 h2 h3 h4
    go_wp2_with fail
    go_ret
    exact ⟨v1, rfl, K1.out, K2.out⟩

/-- strconv's table. -/
def tabP (w : World) : Prop := Lib.TabIs Tryd.prog w "internal/strconv.uint64pow10" .u64 Lib.pow10Tab
theorem g5 : Tryd.prog.globalNamed "internal/strconv.uint64pow10" = some 0 := by kernel_rfl
theorem tabP.below {w w' : World} (h : tabP w) {B : Nat} (hb : Below B w w') (hB : w.heap.size ≤ B) : tabP w' := Joins.tab_stays g5 h hb hB
theorem grow_below (w : World) (k : Nat) (os : Array Obj) : Below w.heap.size w (Go.Sort.grow (w.drewN k) os) :=
  ⟨rfl, rfl, rfl, by simp [Go.Sort.grow], fun i hi => by simp [Go.Sort.grow, Array.getElem?_append_left hi]⟩
theorem Itoa_c (n : Nat) (h1 : n ≤ 1000000000) (w : World) (ht : tabP w) :
    Calls Tryd.prog 22 #[.int .i64 n] w fun e w' => e = .returned (.string ⟨(Lib.itoa n).toArray⟩) ∧ Below w.heap.size w w' :=
  (Tryd.strconv_Itoa (n : Int) (by omega) (by omega) w ht).mono fun e w' ⟨he, k, os, hw⟩ => ⟨he, by rw [hw]; exact grow_below w k os⟩

theorem isB_below {w w' : World} {B b : Nat} {l : List UInt8} (h : IsB w B b l) (hb : Below w.heap.size w w') : IsB w' B b l := by
  have key : ∀ p, Lib.BuilderAt 54 5 B b p (Lib.byteCells l) w → Lib.BuilderAt 54 5 B b p (Lib.byteCells l) w' := by
    rintro p ⟨h1, v, h2, h3, h4⟩
    exact ⟨h1, v, (hb.block b (lt_of_get h2)).trans h2, pw_own_below h3 hb, h4⟩
  rcases h with h | h
  · exact .inl (key _ h)
  · exact .inr (key _ h)
theorem tot_take (xs : List ByteArray) (k : Nat) : tot (xs.take k) ≤ tot xs := by
  have e : tot xs = tot (xs.take k) + tot (xs.drop k) := by
    unfold tot; rw [← List.sum_append, ← List.map_append, List.take_append_drop]
  omega
theorem tot_get : ∀ (xs : List ByteArray) (k : Nat) (h : k < xs.length), xs[k].size ≤ tot xs
  | x :: xs, 0, _ => by simp [tot]
  | x :: xs, k + 1, h => by have := tot_get xs k (by simpa using h); simp [tot] at this ⊢; omega

set_option maxRecDepth 100000 in
set_option maxHeartbeats 2000000 in
theorem key_c (w : World) (A : Option Addr) (c : Nat) (xs : List ByteArray) (hr : RS w A xs.length xs) (hl : xs.length ≤ 1000) (hb : tot xs ≤ 1048576) (ht : tabP w) :
    Calls Tryd.prog 16 #[.slice A xs.length c] w fun e w' => e = .returned (.string ⟨(keyL xs).toArray⟩) ∧ Below w.heap.size w w' := by
  have R := Lib.hid hr; clear hr
  have HT := Lib.hid ht; clear ht
  have HT0 := Lib.hid hb; clear hb
  go_enter Tryd.func16, Tryd.ntmps16
  go_wp2_with fail
  go_loopw [8] (fun iv wr => ∃ k : Nat, iv = .int .i64 k ∧ k ≤ xs.length ∧ Hid (IsB wr w.heap.size w.heap.size (keyL (xs.take k)) ∧ Below w.heap.size w wr)) (fun iv _ => xs.length - (intOf iv).toNat)
  case atStart => exact ⟨0, rfl, Nat.zero_le _, IsB.new w, (Below.refl _ _).alloc (Nat.le_refl _) _⟩
  case round =>
    obtain ⟨k, rfl, hk, HW⟩ := hrel
    by_cases hlt : k < xs.length
    · have hki : (k : Int) < xs.length := by omega
      obtain ⟨ad, rfl, hc⟩ := R.out.2.2 (by omega)
      have hc1 := (R.out.below HW.out.2).2.2 (by omega)
      obtain ⟨ad', e, hc2⟩ := hc1
      injection e with e; subst e
      have hck := hc2 k hlt
      obtain ⟨s, hs⟩ : ∃ s, Hid (s = xs[k]) := ⟨_, Lib.hid rfl⟩
      have hgd : xs.getD k ByteArray.empty = s := by rw [hs.out, List.getD_eq_getElem?_getD, List.getElem?_eq_getElem hlt]; rfl
      rw [hgd] at hck
      clear hc hc2 hgd
      have hss : s.size ≤ 1048576 := by rw [hs.out]; exact Nat.le_trans (tot_get xs k hlt) HT0.out
      have hkl : Hid ((keyL (xs.take k)).length ≤ 1100000) := by
        have := keyL_len (xs.take k) (Nat.le_trans (tot_take _ _) HT0.out)
        have h2 := Nat.le_trans (tot_take xs k) HT0.out
        have h3 : (xs.take k).length ≤ 1000 := Nat.le_trans (List.length_take_le' _ _) hl
        exact Lib.hid (by omega)
      go_wp2_with fail
      refine (Itoa_c s.size (by omega) _ (HT.out.below HW.out.2 (Nat.le_refl _))).mono ?_
      rintro e w1 ⟨rfl, hb1⟩
      have H1 : Hid (IsB w1 w.heap.size w.heap.size (keyL (xs.take k)) ∧ Below w.heap.size w w1) := ⟨isB_below HW.out.1 hb1, HW.out.2.trans (hb1.mono HW.out.2.size)⟩
      clear hb1 HW hck
      have hit : (Lib.itoa (s.size : Int)).length ≤ 7 := by rw [itoa_nat]; exact dec_len s.size 7 (by omega) (by omega)
      go_wp2_with fail
      refine (WString_c H1.out.1 ⟨(Lib.itoa (s.size : Int)).toArray⟩ (by have := hkl.out; omega) (by show (Lib.itoa (s.size : Int)).toArray.size ≤ _; rw [List.size_toArray]; omega) H1.out.2.size).mono ?_
      rintro e w2 ⟨rfl, hi2, hb2⟩
      have H2 : Hid (IsB w2 w.heap.size w.heap.size (keyL (xs.take k) ++ Lib.itoa (s.size : Int)) ∧ Below w.heap.size w w2) := ⟨by simpa using hi2, H1.out.2.trans hb2⟩
      clear hi2 hb2 H1
      go_wp2_with fail
      refine (WByte_c H2.out.1 58 (by have := hkl.out; simp; omega) H2.out.2.size).mono ?_
      rintro e w3 ⟨rfl, hi3, hb3⟩
      have H3 : Hid (IsB w3 w.heap.size w.heap.size (keyL (xs.take k) ++ Lib.itoa (s.size : Int) ++ [58]) ∧ Below w.heap.size w w3) := ⟨hi3, H2.out.2.trans hb3⟩
      clear hi3 hb3 H2
      go_wp2_with fail
      refine (WString_c H3.out.1 s (by have := hkl.out; simp; omega) (by omega) H3.out.2.size).mono ?_
      rintro e w4 ⟨rfl, hi4, hb4⟩
      have H4 : Hid (IsB w4 w.heap.size w.heap.size (keyL (xs.take (k + 1))) ∧ Below w.heap.size w w4) := by
        refine ⟨?_, H3.out.2.trans hb4⟩
        have e1 : xs.take (k + 1) = xs.take k ++ [s] := by rw [List.take_succ_eq_append_getElem hlt, hs.out]
        rw [e1, keyL_snoc, keyS]
        simpa using hi4
      clear hi4 hb4 H3
      go_wp2_with fail
      go_roundw
      case rel => exact ⟨k + 1, by go_num, by omega, H4⟩
      case measure => simp [intOf]; omega
    · obtain rfl : k = xs.length := by omega
      rw [List.take_length] at HW
      go_wp2_with fail
      refine (BStr_c HW.out.1 HW.out.2.size).mono ?_
      rintro e w1 ⟨rfl, hb1⟩
      have H1 : Hid (Below w.heap.size w w1) := HW.out.2.trans hb1
      clear hb1 HW
      go_wp2_with fail
      go_ret
      exact ⟨rfl, H1.out⟩
end Go.Proofs.YtkmfgacfccgdcaaDoor.Sr
