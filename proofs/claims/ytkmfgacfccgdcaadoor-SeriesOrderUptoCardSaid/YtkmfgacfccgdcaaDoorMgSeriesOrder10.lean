/- rows of strings: slices.Clone; series.key. series' table: New, Len, Of. series' table: Of. series' table: Labels; nobody's table; the reference's Of; alive. how a table numbers rows: numbers stay. No memory in it. series' table: Order. The sort's contract is a premise (SortC, SortN). the reference's table: Of; the program's Of at too many labels. whatever order the rows come in, the same rows come out in order. No memory in it. nobody's table; a row that is too long; series.Compare. The sort's contract is a premise. -/
import Derived.Test.YtkmfgacfccgdcaaDoorMgSeriesOrder6
import Derived.Test.YtkmfgacfccgdcaaDoorMgSeriesOrder8
import Derived.Test.YtkmfgacfccgdcaaDoorMgSeriesOrder7
import Derived.Test.YtkmfgacfccgdcaaDoorMgSeriesOrder9
import Derived.Lib.SmallJoins
import Derived.Lib.SliceRun
import Derived.Lib.LaidTab
import Derived.LoopTactic
import Derived.WalkLawsBesides
import Derived.Test.YtkmfgacfccgdcaaDoorWTab
import Derived.Test.YtkmfgacfccgdcaaDoorWLast
import Derived.Deep.QuietTactic
import Derived.BigQuiet
import Derived.OwnWalk
set_option linter.unusedVariables false
set_option linter.unusedSimpArgs false
namespace Go.Proofs.YtkmfgacfccgdcaaDoor.Sr
open Go.RowKit Go.Proofs.YtkmfgacfccgdcaaDoor.B0 Go.Proofs.YtkmfgacfccgdcaaDoor.Ps Go.Proofs.YtkmfgacfccgdcaaDoorW.PrintWords Go.Proofs.YtkmfgacfccgdcaaDoor.Bld

abbrev RS (w : World) (A : Option Addr) (n : Nat) (xs : List ByteArray) : Prop := ReadsOf Value.string ByteArray.empty w A n xs
theorem info9 : (Tryd.prog.info? 9).map (fun i => (i.zero, i.size, i.bytes)) = some (some (.string ByteArray.empty), 1, 16) := by kernel_rfl
theorem info29 : (Tryd.prog.info? 29).map (fun i => (i.zero, i.size, i.bytes)) = some (some (.slice none 0 0), 1, 24) := by kernel_rfl
theorem RS.fr {w w' : World} {A : Option Addr} {n : Nat} {xs : List ByteArray} {F : List Nat} (h : RS w A n xs) (hf : Fr F w w') (hd : ∀ ad, A = some ad → 0 < n → ad.block ∉ F) : RS w' A n xs := by
  refine ⟨h.1, h.2.1, fun h0 => ?_⟩
  obtain ⟨ad, e, hc⟩ := h.2.2 h0
  refine ⟨ad, e, fun j hj => ?_⟩
  have h1 := hc j hj
  have hb : (ad.add j).block = ad.block := by unfold Addr.add; split <;> rfl
  have hlt : (ad.add j).block < w.heap.size := World.block_lt_of_cell? w _ h1
  rw [World.cell?_of_block (hf.block _ hlt (by rw [hb]; exact hd ad e h0))]
  exact h1

set_option maxRecDepth 100000 in
set_option maxHeartbeats 2000000 in
theorem Clone_s (w : World) (A : Option Addr) (c : Nat) (xs : List ByteArray) (hr : RS w A xs.length xs) (hl : xs.length ≤ 100000) :
    Calls Tryd.prog 17 #[.slice A xs.length c] w fun e w' => ∃ v', e = .returned v' ∧ w'.ownsRow w.heap.size 9 1 v' xs.length (encs Value.string xs) ∧ Below w.heap.size w w' := by
  have hq : ∀ W, (binOp BinOp.eql 29 (.slice A xs.length c) (.slice none 0 0)).run Tryd.prog W = .ok (.bool A.isNone) W := fun W => Lib.run_eql_slice_nil W 29 9 A xs.length c 0 0 Tryd.underlying29
  have R := Lib.hid hr; clear hr
  cases A with
  | none =>
    have h0 : xs.length = 0 := by
      rcases Nat.eq_zero_or_pos xs.length with h | h
      · exact h
      · obtain ⟨ad, e, _⟩ := R.out.2.2 h; cases e
    obtain rfl : xs = [] := List.eq_nil_of_length_eq_zero h0
    have hq2 : ∀ W, (binOp BinOp.eql 29 (.slice none 0 c) (.slice none 0 0)).run Tryd.prog W = .ok (.bool true) W := hq
    clear hq h0
    go_enter Tryd.func17, Tryd.ntmps17
    go_wp2_with fail
    go_ret
    exact ⟨_, rfl, World.ownsRow_nil _ _ _ _, Below.refl _ _⟩
  | some ad =>
    have hq2 : ∀ W, (binOp BinOp.eql 29 (.slice (some ad) xs.length c) (.slice none 0 0)).run Tryd.prog W = .ok (.bool false) W := hq
    clear hq
    go_enter Tryd.func17, Tryd.ntmps17
    go_wp2_with (at_builtin; go_loud (refine print_append_row_of (w0 := w) Value.string ByteArray.empty w.heap.size rfl _ _ 29 9 (.string ByteArray.empty) 16 rfl Tryd.underlying29 info9 (by rfl) (by decide) (fun _ => rfl) (.slice (some ⟨w.heap.size, 0, none⟩) 0 0) [] xs (some ad) xs.length c rfl rfl (World.ownsRow_made w #[] 0 (Nat.le_refl _) (Nat.zero_le _) (by simp)) (R.out.allocS _) ((Below.refl _ _).alloc (Nat.le_refl _) _) (by simp) (by simp; omega) ?_))
    intro v1 w1 h1 h2 h3 h4
    have K1 : Hid (w1.ownsRow w.heap.size 9 1 v1 xs.length (encs Value.string xs)) := h1
    have K2 := Lib.hid h2
    clear h1 h2 h3 h4
    go_wp2_with fail
    go_ret
    exact ⟨v1, rfl, K1.out, K2.out⟩

/-- strconv's table. -/
def tabP (w : World) : Prop := Lib.TabIs Tryd.prog w "internal/strconv.uint64pow10" .u64 Lib.pow10Tab
theorem g5 : Tryd.prog.globalNamed "internal/strconv.uint64pow10" = some 0 := by kernel_rfl
theorem tabP.below {w w' : World} (h : tabP w) {B : Nat} (hb : Below B w w') (hB : w.heap.size ≤ B) : tabP w' := Joins.tab_stays g5 h hb hB
theorem grow_below (w : World) (k : Nat) (os : Array Obj) : Below w.heap.size w (Go.Sort.grow (w.drewN k) os) :=
  ⟨rfl, rfl, rfl, by simp [Go.Sort.grow], fun i hi => by simp [Go.Sort.grow, Array.getElem?_append_left hi]⟩
theorem Itoa_c (n : Nat) (h1 : n ≤ 1000000000) (w : World) (ht : tabP w) :
    Calls Tryd.prog 22 #[.int .i64 n] w fun e w' => e = .returned (.string ⟨(Lib.itoa n).toArray⟩) ∧ Below w.heap.size w w' :=
  (Tryd.strconv_Itoa (n : Int) (by omega) (by omega) w ht).mono fun e w' ⟨he, k, os, hw⟩ => ⟨he, by rw [hw]; exact grow_below w k os⟩

theorem isB_below {w w' : World} {B b : Nat} {l : List UInt8} (h : IsB w B b l) (hb : Below w.heap.size w w') : IsB w' B b l := by
  have key : ∀ p, Lib.BuilderAt 54 5 B b p (Lib.byteCells l) w → Lib.BuilderAt 54 5 B b p (Lib.byteCells l) w' := by
    rintro p ⟨h1, v, h2, h3, h4⟩
    exact ⟨h1, v, (hb.block b (lt_of_get h2)).trans h2, pw_own_below h3 hb, h4⟩
  rcases h with h | h
  · exact .inl (key _ h)
  · exact .inr (key _ h)
theorem tot_take (xs : List ByteArray) (k : Nat) : tot (xs.take k) ≤ tot xs := by
  have e : tot xs = tot (xs.take k) + tot (xs.drop k) := by
    unfold tot; rw [← List.sum_append, ← List.map_append, List.take_append_drop]
  omega
theorem tot_get : ∀ (xs : List ByteArray) (k : Nat) (h : k < xs.length), xs[k].size ≤ tot xs
  | x :: xs, 0, _ => by simp [tot]
  | x :: xs, k + 1, h => by have := tot_get xs k (by simpa using h); simp [tot] at this ⊢; omega

set_option maxRecDepth 100000 in
set_option maxHeartbeats 2000000 in
theorem key_c (w : World) (A : Option Addr) (c : Nat) (xs : List ByteArray) (hr : RS w A xs.length xs) (hl : xs.length ≤ 1000) (hb : tot xs ≤ 1048576) (ht : tabP w) :
    Calls Tryd.prog 16 #[.slice A xs.length c] w fun e w' => e = .returned (.string ⟨(keyL xs).toArray⟩) ∧ Below w.heap.size w w' := by
  have R := Lib.hid hr; clear hr
  have HT := Lib.hid ht; clear ht
  have HT0 := Lib.hid hb; clear hb
  go_enter Tryd.func16, Tryd.ntmps16
  go_wp2_with fail
  go_loopw [8] (fun iv wr => ∃ k : Nat, iv = .int .i64 k ∧ k ≤ xs.length ∧ Hid (IsB wr w.heap.size w.heap.size (keyL (xs.take k)) ∧ Below w.heap.size w wr)) (fun iv _ => xs.length - (intOf iv).toNat)
  case atStart => exact ⟨0, rfl, Nat.zero_le _, IsB.new w, (Below.refl _ _).alloc (Nat.le_refl _) _⟩
  case round =>
    obtain ⟨k, rfl, hk, HW⟩ := hrel
    by_cases hlt : k < xs.length
    · have hki : (k : Int) < xs.length := by omega
      obtain ⟨ad, rfl, hc⟩ := R.out.2.2 (by omega)
      have hc1 := (R.out.below HW.out.2).2.2 (by omega)
      obtain ⟨ad', e, hc2⟩ := hc1
      injection e with e; subst e
      have hck := hc2 k hlt
      obtain ⟨s, hs⟩ : ∃ s, Hid (s = xs[k]) := ⟨_, Lib.hid rfl⟩
      have hgd : xs.getD k ByteArray.empty = s := by rw [hs.out, List.getD_eq_getElem?_getD, List.getElem?_eq_getElem hlt]; rfl
      rw [hgd] at hck
      clear hc hc2 hgd
      have hss : s.size ≤ 1048576 := by rw [hs.out]; exact Nat.le_trans (tot_get xs k hlt) HT0.out
      have hkl : Hid ((keyL (xs.take k)).length ≤ 1100000) := by
        have := keyL_len (xs.take k) (Nat.le_trans (tot_take _ _) HT0.out)
        have h2 := Nat.le_trans (tot_take xs k) HT0.out
        have h3 : (xs.take k).length ≤ 1000 := Nat.le_trans (List.length_take_le' _ _) hl
        exact Lib.hid (by omega)
      go_wp2_with fail
      refine (Itoa_c s.size (by omega) _ (HT.out.below HW.out.2 (Nat.le_refl _))).mono ?_
      rintro e w1 ⟨rfl, hb1⟩
      have H1 : Hid (IsB w1 w.heap.size w.heap.size (keyL (xs.take k)) ∧ Below w.heap.size w w1) := ⟨isB_below HW.out.1 hb1, HW.out.2.trans (hb1.mono HW.out.2.size)⟩
      clear hb1 HW hck
      have hit : (Lib.itoa (s.size : Int)).length ≤ 7 := by rw [itoa_nat]; exact dec_len s.size 7 (by omega) (by omega)
      go_wp2_with fail
      refine (WString_c H1.out.1 ⟨(Lib.itoa (s.size : Int)).toArray⟩ (by have := hkl.out; omega) (by show (Lib.itoa (s.size : Int)).toArray.size ≤ _; rw [List.size_toArray]; omega) H1.out.2.size).mono ?_
      rintro e w2 ⟨rfl, hi2, hb2⟩
      have H2 : Hid (IsB w2 w.heap.size w.heap.size (keyL (xs.take k) ++ Lib.itoa (s.size : Int)) ∧ Below w.heap.size w w2) := ⟨by simpa using hi2, H1.out.2.trans hb2⟩
      clear hi2 hb2 H1
      go_wp2_with fail
      refine (WByte_c H2.out.1 58 (by have := hkl.out; simp; omega) H2.out.2.size).mono ?_
      rintro e w3 ⟨rfl, hi3, hb3⟩
      have H3 : Hid (IsB w3 w.heap.size w.heap.size (keyL (xs.take k) ++ Lib.itoa (s.size : Int) ++ [58]) ∧ Below w.heap.size w w3) := ⟨hi3, H2.out.2.trans hb3⟩
      clear hi3 hb3 H2
      go_wp2_with fail
      refine (WString_c H3.out.1 s (by have := hkl.out; simp; omega) (by omega) H3.out.2.size).mono ?_
      rintro e w4 ⟨rfl, hi4, hb4⟩
      have H4 : Hid (IsB w4 w.heap.size w.heap.size (keyL (xs.take (k + 1))) ∧ Below w.heap.size w w4) := by
        refine ⟨?_, H3.out.2.trans hb4⟩
        have e1 : xs.take (k + 1) = xs.take k ++ [s] := by rw [List.take_succ_eq_append_getElem hlt, hs.out]
        rw [e1, keyL_snoc, keyS]
        simpa using hi4
      clear hi4 hb4 H3
      go_wp2_with fail
      go_roundw
      case rel => exact ⟨k + 1, by go_num, by omega, H4⟩
      case measure => simp [intOf]; omega
    · obtain rfl : k = xs.length := by omega
      rw [List.take_length] at HW
      go_wp2_with fail
      refine (BStr_c HW.out.1 HW.out.2.size).mono ?_
      rintro e w1 ⟨rfl, hb1⟩
      have H1 : Hid (Below w.heap.size w w1) := HW.out.2.trans hb1
      clear hb1 HW
      go_wp2_with fail
      go_ret
      exact ⟨rfl, H1.out⟩
end Go.Proofs.YtkmfgacfccgdcaaDoor.Sr
set_option linter.unusedVariables false
set_option linter.unusedSimpArgs false
namespace Go.Proofs.YtkmfgacfccgdcaaDoor.Sr
open Go.RowKit Go.Proofs.YtkmfgacfccgdcaaDoor.B0 Go.Proofs.YtkmfgacfccgdcaaDoor.Ps Go.Proofs.YtkmfgacfccgdcaaDoorW.PrintWords Go.Proofs.YtkmfgacfccgdcaaDoorW.PrintLast Go.Proofs.YtkmfgacfccgdcaaDoor.Bld

def keyB (xs : List ByteArray) : ByteArray := ⟨(keyL xs).toArray⟩
theorem keyB_inj {xs ys : List ByteArray} (h : keyB xs = keyB ys) : xs = ys := by
  apply keyL_inj
  have := congrArg (fun s : ByteArray => s.data.toList) h
  simpa [keyB] using this
def keysAt (k : Nat) (L : List (List ByteArray)) : List (ByteArray × Value) := (L.zipIdx k).map fun p => (keyB p.1, .int .i64 ((p.2 : Int) + 1))
theorem keysAt_mem (L : List (List ByteArray)) : ∀ k xs, keyB xs ∈ (keysAt k L).map Prod.fst ↔ xs ∈ L := by
  induction L with
  | nil => intro k xs; simp [keysAt]
  | cons x L ih =>
    intro k xs
    have := ih (k + 1) xs
    simp only [keysAt, List.zipIdx_cons, List.map_cons, List.mem_cons] at this ⊢
    rw [this]
    constructor
    · rintro (h | h)
      · exact .inl (keyB_inj h)
      · exact .inr h
    · rintro (h | h)
      · exact .inl (by rw [h])
      · exact .inr h
/-- where a list of texts stands. -/
def posL : List (List ByteArray) → List ByteArray → Option Nat
  | [], _ => none
  | x :: L, xs => if xs = x then some 0 else (posL L xs).map (· + 1)
theorem posL_none {L : List (List ByteArray)} {xs : List ByteArray} : posL L xs = none ↔ xs ∉ L := by
  induction L with
  | nil => simp [posL]
  | cons x L ih =>
    simp only [posL]
    split
    · rename_i h; simp [h]
    · rename_i h; simp [ih, h]
theorem posL_some {L : List (List ByteArray)} {xs : List ByteArray} {i : Nat} (h : posL L xs = some i) : L[i]? = some xs := by
  induction L generalizing i with
  | nil => simp [posL] at h
  | cons x L ih =>
    simp only [posL] at h
    split at h
    · rename_i e; simp at h; subst h; simp [e]
    · rw [Option.map_eq_some_iff] at h
      obtain ⟨j, hj, rfl⟩ := h
      simpa using ih hj
theorem posL_app {L : List (List ByteArray)} {xs : List ByteArray} (h : posL L xs = none) (R : List (List ByteArray)) : posL (L ++ R) xs = (posL R xs).map (· + L.length) := by
  induction L with
  | nil => cases hR : posL R xs <;> simp [hR]
  | cons x L ih =>
    simp only [posL] at h
    split at h
    · cases h
    · rename_i e
      rw [Option.map_eq_none_iff] at h
      simp only [List.cons_append, posL]
      rw [if_neg e, ih h]
      cases posL R xs with
      | none => rfl
      | some j => simp; omega
theorem posL_app_some {L : List (List ByteArray)} {xs : List ByteArray} {i : Nat} (h : posL L xs = some i) (R : List (List ByteArray)) : posL (L ++ R) xs = some i := by
  induction L generalizing i with
  | nil => simp [posL] at h
  | cons x L ih =>
    simp only [posL, List.cons_append] at h ⊢
    split at h
    · rename_i e; rw [if_pos e]; exact h
    · rename_i e
      rw [if_neg e]
      rw [Option.map_eq_some_iff] at h ⊢
      obtain ⟨j, hj, rfl⟩ := h
      exact ⟨j, ih hj, rfl⟩
def lookB (M : List (ByteArray × Value)) (k : ByteArray) : Option Value := @List.lookup _ _ instBEqOfDecidableEq k M
theorem keysAt_lookup (L : List (List ByteArray)) : ∀ k xs, lookB (keysAt k L) (keyB xs) = (posL L xs).map fun i => Value.int .i64 (((k + i : Nat) : Int) + 1) := by
  induction L with
  | nil => intro k xs; simp [keysAt, lookB, posL]
  | cons x L ih =>
    intro k xs
    have h1 := ih (k + 1) xs
    unfold lookB at h1 ⊢
    simp only [keysAt, List.zipIdx_cons, List.map_cons, List.lookup, posL] at h1 ⊢
    by_cases e : xs = x
    · subst e
      simp
    · have hb : (@BEq.beq _ instBEqOfDecidableEq (keyB xs) (keyB x)) = false := (@beq_eq_false_iff_ne ByteArray instBEqOfDecidableEq _ _ _).2 (fun h => e (keyB_inj h))
      rw [hb, if_neg e]
      simp only [h1]
      cases posL L xs with
      | none => rfl
      | some j =>
        simp only [Option.map_some, Option.some.injEq]
        congr 2; omega
def ofN (most : Int) (L : List (List ByteArray)) (xs : List ByteArray) : Int := match posL L xs with | some i => (i : Int) + 1 | none => if most ≤ L.length then 0 else L.length + 1
def ofL (most : Int) (L : List (List ByteArray)) (xs : List ByteArray) : List (List ByteArray) := match posL L xs with | some _ => L | none => if most ≤ L.length then L else L ++ [xs]

def ekS (s : ByteArray) : Value := .string s
theorem KBs : KeyB Tryd.prog 9 ekS := KeyB.str Tryd.underlying9

def RowAt (w : World) (v : Value) (xs : List ByteArray) (rs : List Nat) : Prop := ∃ A c, v = .slice A xs.length c ∧ xs.length ≤ c ∧ RS w A xs.length xs ∧ ∀ ad, A = some ad → 0 < xs.length → ad.block ∈ rs
theorem RowAt.fr {w w' : World} {v : Value} {xs : List ByteArray} {rs F : List Nat} (h : RowAt w v xs rs) (hf : Fr F w w') (hd : ∀ k, k ∈ rs → k ∉ F) : RowAt w' v xs rs := by
  obtain ⟨A, c, h1, h2, h3, h4⟩ := h
  exact ⟨A, c, h1, h2, h3.fr hf (fun ad e h0 => hd _ (h4 ad e h0)), h4⟩
theorem RowAt.mono {w : World} {v : Value} {xs : List ByteArray} {rs rs' : List Nat} (h : RowAt w v xs rs) (hd : ∀ k, k ∈ rs → k ∈ rs') : RowAt w v xs rs' := by
  obtain ⟨A, c, h1, h2, h3, h4⟩ := h
  exact ⟨A, c, h1, h2, h3, fun ad e h0 => hd _ (h4 ad e h0)⟩

structure TB (w : World) (t : Nat) (most : Int) (L : List (List ByteArray)) (lv : Value) (mb : Nat) (vals : List Value) (rs : List Nat) : Prop where
  blk : w.heap[t]? = some (.cells #[.int .i64 most, lv, .map (some mb)] 45 (0, 0))
  own : w.ownsRow 0 29 1 lv L.length vals
  map : MapR ekS w mb (keysAt 0 L)
  rows : ∀ i (h : i < L.length), ∃ v, vals[i]? = some v ∧ RowAt w v L[i] rs
  tr : t ∉ rs
  mr : mb ∉ rs
  tm : t ≠ mb
  gr : ∀ g, lv.ownBlock = some g → g ∉ rs ∧ g ≠ t ∧ g ≠ mb
  rl : ∀ k, k ∈ rs → k < w.heap.size
  nd : L.Nodup
def fpT (t mb : Nat) (lv : Value) (rs : List Nat) : List Nat := t :: mb :: (lv.ownBlock.toList ++ rs)
def TA (w : World) (t : Nat) (most : Int) (L : List (List ByteArray)) (fp : List Nat) : Prop := ∃ lv mb vals rs, TB w t most L lv mb vals rs ∧ fp = fpT t mb lv rs

theorem own_fr {w w' : World} {base : Nat} {e : TypeId} {size n : Nat} {v : Value} {xs : List Value} {F : List Nat} (h : w.ownsRow base e size v n xs) (hf : Fr F w w') (hd : ∀ g, v.ownBlock = some g → g ∉ F) : w'.ownsRow base e size v n xs := by
  refine ⟨h.1, ?_⟩
  rcases h.2 with hn | ⟨g, cap, cur, rfl, hb, hgg, rest⟩
  · exact .inl hn
  · exact .inr ⟨g, cap, cur, rfl, hb, hf.get hgg (hd g rfl), rest⟩
theorem TB.fr {w w' : World} {t : Nat} {most : Int} {L : List (List ByteArray)} {lv : Value} {mb : Nat} {vals : List Value} {rs F : List Nat} (h : TB w t most L lv mb vals rs) (hf : Fr F w w') (hd : ∀ k, k ∈ fpT t mb lv rs → k ∉ F) : TB w' t most L lv mb vals rs where
  blk := hf.get h.blk (hd _ (by simp [fpT]))
  own := own_fr h.own hf (fun g e => hd _ (by simp [fpT, e]))
  map := h.map.fr hf (hd _ (by simp [fpT]))
  rows := fun i hi => by
    obtain ⟨v, h1, h2⟩ := h.rows i hi
    exact ⟨v, h1, h2.fr hf (fun k hk => hd _ (by simp [fpT, hk]))⟩
  tr := h.tr
  mr := h.mr
  tm := h.tm
  gr := h.gr
  rl := fun k hk => Nat.lt_of_lt_of_le (h.rl k hk) hf.size
  nd := h.nd
theorem TA.fr {w w' : World} {t : Nat} {most : Int} {L : List (List ByteArray)} {fp F : List Nat} (h : TA w t most L fp) (hf : Fr F w w') (hd : ∀ k, k ∈ fp → k ∉ F) : TA w' t most L fp := by
  obtain ⟨lv, mb, vals, rs, h1, rfl⟩ := h
  exact ⟨lv, mb, vals, rs, h1.fr hf hd, rfl⟩
theorem TA.lt {w : World} {t : Nat} {most : Int} {L : List (List ByteArray)} {fp : List Nat} (h : TA w t most L fp) : ∀ k, k ∈ fp → k < w.heap.size := by
  obtain ⟨lv, mb, vals, rs, h1, rfl⟩ := h
  intro k hk
  simp only [fpT, List.mem_cons, List.mem_append, Option.mem_toList] at hk
  rcases hk with rfl | rfl | hk | hk
  · exact lt_of_get h1.blk
  · exact h1.map.lt
  · exact (World.ownsRow.lt h1.own k hk).2
  · exact h1.rl k hk

set_option maxHeartbeats 1000000 in
theorem New_c (most : Int) (w : World) (h0 : 1 ≤ most) (h1 : most ≤ 65536) : Calls Tryd.prog 7 #[.int .i64 most] w fun e w' => ∃ t fp, e = .returned (.tuple #[.pointer (some ⟨t, 0, none⟩), .int .i64 0]) ∧ TA w' t most [] fp ∧ Fr [] w w' ∧ (∀ k, k ∈ fp → w.heap.size ≤ k) := by
  have hmm := @run_makeMap Tryd.prog
  go_enter Tryd.func7, Tryd.ntmps7
  go_wp2_with fail
  go_ret2
  refine ⟨w.heap.size + 1, [w.heap.size + 1, w.heap.size], by simp, ⟨.slice none 0 0, w.heap.size, [], [], ?_, by simp [fpT, Value.ownBlock]⟩, ((Fr.refl [] w).alloc _).alloc _, by simp⟩
  have e1 := allocN (w.alloc (.map #[] 0)) (.cells #[.int .i64 most, .slice none 0 0, .map (some w.heap.size)] 45)
  rw [size_alloc] at e1
  exact {
    blk := e1
    own := World.ownsRow_nil _ _ _ _
    map := (MapR.made w).fr ((Fr.refl [] _).alloc _) (by simp)
    rows := fun i hi => by simp at hi
    tr := by simp
    mr := by simp
    tm := by omega
    gr := fun g e => by simp [Value.ownBlock] at e
    rl := by simp
    nd := List.nodup_nil }
theorem New_no (most : Int) (w : World) (h : most < 1 ∨ 65536 < most) : Calls Tryd.prog 7 #[.int .i64 most] w fun e w' => e = .returned (.tuple #[.pointer none, .int .i64 1]) ∧ w = w' := by
  by_cases h0 : most < 1
  · clear h
    go_enter Tryd.func7, Tryd.ntmps7
    go_wp2_with fail
    go_ret2
    exact ⟨rfl, rfl⟩
  · have h1 : 65536 < most := by omega
    clear h
    go_enter Tryd.func7, Tryd.ntmps7
    go_wp2_with fail
    go_ret2
    exact ⟨rfl, rfl⟩
theorem own_form {w : World} {base : Nat} {e : TypeId} {n : Nat} {v : Value} {xs : List Value} (h : w.ownsRow base e 1 v n xs) : ∃ A c, v = .slice A n c ∧ n ≤ c := by
  rcases h.2 with ⟨rfl, rfl⟩ | ⟨g, cap, cur, rfl, _, _, hc, _⟩
  · exact ⟨_, _, rfl, Nat.le_refl _⟩
  · exact ⟨_, _, rfl, hc⟩
set_option maxHeartbeats 1000000 in
theorem Len_q {w : World} {t : Nat} {most : Int} {L : List (List ByteArray)} {fp : List Nat} (h : TA w t most L fp) : Calls Tryd.prog 11 #[.pointer (some ⟨t, 0, none⟩)] w fun e w' => e = .returned (.int .i64 L.length) ∧ w = w' := by
  obtain ⟨lv, mb, vals, rs, h1, rfl⟩ := h
  obtain ⟨A, c, rfl, hc⟩ := own_form h1.own
  have c1 : w.cell? ⟨t, 1, none⟩ = some (.slice A L.length c) := cellB h1.blk 1
  clear h1
  go_enter Tryd.func11, Tryd.ntmps11
  go_wp2_with fail
  go_ret
  exact ⟨rfl, rfl⟩
end Go.Proofs.YtkmfgacfccgdcaaDoor.Sr
set_option linter.unusedVariables false
set_option linter.unusedSimpArgs false
namespace Go.Proofs.YtkmfgacfccgdcaaDoor.Sr
open Go.RowKit Go.Proofs.YtkmfgacfccgdcaaDoor.B0 Go.Proofs.YtkmfgacfccgdcaaDoor.Ps Go.Proofs.YtkmfgacfccgdcaaDoorW.PrintWords Go.Proofs.YtkmfgacfccgdcaaDoorW.PrintLast Go.Proofs.YtkmfgacfccgdcaaDoor.Bld

theorem Below_drewN {B : Nat} {a b : World} (h : Below B a b) (n : Nat) : Below B a (b.drewN n) := ⟨h.os, h.tape, h.output, h.size, h.block⟩
theorem step_app {P : Program} {ops : Array Oper} {o : Oper} {a : Act} {w : World} {K : Act → World → Prop} {Q : Exit → Act → World → Prop} {E : Prop} (hw : Region.wanted o (yielded ops a.tmps) = true) (s x : Operand) (t u : TypeId)
    (hop : o.op = .call { callee := .builtin .append, args := #[s, x], argTypes := #[t, u] }) (v y : Value) (hs : a.eval s = v) (hx : a.eval x = y) {v' : Value} {w' : World}
    (hr : (Builtin.append_ #[t, u] o.type #[v, y]).run P w = .ok v' w') (hK : K (a.put o.dst v') w') : if Region.wanted o (yielded ops a.tmps) = true then Oper.wp P o a w K Q else E := by
  rw [if_pos hw]
  unfold Oper.wp
  simp [execOp, hop, resolve, invoke, builtin, hs, hx, hr, Result.andThen]
  exact hK
theorem zero3 (w : World) : (zeroValue 3).run Tryd.prog w = .ok (.int .i64 0) w := by kernel_rfl
theorem keysAt_snoc (L : List (List ByteArray)) (xs : List ByteArray) (h : xs ∉ L) : putM (keysAt 0 L) (keyB xs) (.int .i64 ((L.length : Int) + 1)) = keysAt 0 (L ++ [xs]) := by
  unfold putM
  rw [if_neg (fun hh => h ((keysAt_mem L 0 xs).1 hh))]
  unfold keysAt
  rw [List.zipIdx_append]
  simp
/-- one more row behind a row of the table's own. -/
theorem app_one (W : World) (ty : TypeId) (lv : Value) (n : Nat) (vals : List Value) (v : Value) (g : Nat) (HO : W.ownsRow 0 29 1 lv n vals) (hg : W.heap[g]? = some (.cells #[v] 29 (0, 0))) (hv : v.oneCell' = true) (hn : n ≤ 100000) :
    ∃ v' w', (Builtin.append_ #[22, 22] ty #[lv, .slice (some ⟨g, 0, none⟩) 1 1]).run Tryd.prog W = .ok v' w' ∧ w'.ownsRow 0 29 1 v' (n + 1) (vals ++ [v]) ∧ W.grownBy w' lv.ownBlock ∧ (v'.ownBlock = lv.ownBlock ∨ v'.ownBlock = some W.heap.size) := by
  obtain ⟨i0, hi, hz0, hz1, hz2⟩ := info_parts info29
  obtain ⟨v1, w1, hr, h2, h3, _, h5⟩ := run_append_own_at (P := Tryd.prog) W 0 22 ty 29 i0 (.slice none 0 0) 1 24 Tryd.underlying22 hi hz0 hz1 hz2 rfl (by omega) lv n vals HO ⟨g, 0, none⟩ 1 1 [v] (by simp)
    (by
      intro j u hu
      match j, hu with
      | 0, hu =>
        simp at hu; subst hu
        have := cellB hg 0
        simpa [Addr.add] using this)
    (by intro u hu; simp at hu; subst hu; exact hv) (by simp only [maxLen]; omega) (by omega) (Nat.zero_le _)
  exact ⟨v1, w1, hr, h2, h3, h5⟩
theorem row_block {w : World} {base : Nat} {v : Value} {n : Nat} {xs : List Value} {e : TypeId} (h : w.ownsRow base e 1 v n xs) : ∃ A c, v = .slice A n c ∧ n ≤ c ∧ (∀ ad, A = some ad → ∃ g, ad = ⟨g, 0, none⟩ ∧ v.ownBlock = some g ∧ base ≤ g ∧ g < w.heap.size) := by
  rcases h.2 with ⟨rfl, rfl⟩ | ⟨g, cap, cur, rfl, hb, hg, hc, _⟩
  · exact ⟨_, _, rfl, Nat.le_refl _, fun ad e => by cases e⟩
  · exact ⟨_, _, rfl, hc, fun ad e => by cases e; exact ⟨g, rfl, rfl, hb, lt_of_get hg⟩⟩

theorem own_one {w : World} {base : Nat} {v : Value} {n : Nat} {xs : List Value} {e : TypeId} (h : w.ownsRow base e 1 v n xs) : v.oneCell' = true := by
  rcases h.2 with ⟨rfl, rfl⟩ | ⟨g, cap, cur, rfl, _⟩ <;> rfl
theorem mk1 {K : Act → World → Prop} {a : Act} {W : World} {v : Value} (h : ∀ w6, w6.heap[W.heap.size]? = some (.cells #[v] 29 (0, 0)) → Below W.heap.size W w6 → K a w6) : K a (W.alloc (.cells #[v] 29)) :=
  h _ (allocN W _) ((Below.refl _ _).alloc (Nat.le_refl _) _)
theorem TB_app {w2 w5 w10 : World} {t : Nat} {most : Int} {L : List (List ByteArray)} {lv v8 : Value} {mb : Nat} {vals : List Value} {rs : List Nat} {xs : List ByteArray} {A5 : Option Addr} {c5 : Nat}
    (h : TB w2 t most L lv mb vals rs) (hx : xs ∉ L) (hF : Fr (t :: mb :: lv.ownBlock.toList) w2 w10) (hs : w2.heap.size ≤ w5.heap.size) (hF5 : Fr (t :: mb :: lv.ownBlock.toList) w5 w10)
    (D10 : w10.heap[t]? = some (.cells #[.int .i64 most, v8, .map (some mb)] 45 (0, 0))) (O10 : w10.ownsRow 0 29 1 v8 (L.length + 1) (vals ++ [.slice A5 xs.length c5]))
    (hG : ∀ g, v8.ownBlock = some g → lv.ownBlock = some g ∨ w5.heap.size ≤ g) (hM : MapR ekS w10 mb (keysAt 0 (L ++ [xs]))) (hO5 : w5.ownsRow w2.heap.size 9 1 (.slice A5 xs.length c5) xs.length (encs Value.string xs)) :
    ∃ rs', TB w10 t most (L ++ [xs]) v8 mb (vals ++ [.slice A5 xs.length c5]) rs' ∧ (∀ k, k ∈ fpT t mb v8 rs' → k ∈ fpT t mb lv rs ∨ w2.heap.size ≤ k) := by
  obtain ⟨A, c, e5, hc5, hk5⟩ := row_block hO5
  obtain ⟨rfl, -, rfl⟩ : A5 = A ∧ True ∧ c5 = c := by simpa using e5
  have hlt := TA.lt ⟨lv, mb, vals, rs, h, rfl⟩
  have ht2 : t < w2.heap.size := hlt t (by simp [fpT])
  have hm2 : mb < w2.heap.size := hlt mb (by simp [fpT])
  have hg2 : ∀ g, lv.ownBlock = some g → g < w2.heap.size := fun g e => hlt g (by simp [fpT, e])
  have hvl : vals.length = L.length := by have := h.own.1; simpa using this
  obtain ⟨b5, hb5⟩ : ∃ b5, b5 = (Value.slice A5 xs.length c5).ownBlock.toList := ⟨_, rfl⟩
  have hb5m : ∀ k, k ∈ b5 → w2.heap.size ≤ k ∧ k < w5.heap.size := by
    intro k hk
    rw [hb5, Option.mem_toList] at hk
    cases A5 with
    | none => simp [Value.ownBlock] at hk
    | some ad =>
      obtain ⟨g, rfl, h2, h3, h4⟩ := hk5 ad rfl
      simp [Value.ownBlock] at hk
      omega
  refine ⟨rs ++ b5, ?_, ?_⟩
  · exact {
      blk := D10
      own := by rw [List.length_append]; exact O10
      map := hM
      rows := by
        intro i hi
        rw [List.length_append, List.length_singleton] at hi
        by_cases hil : i < L.length
        · obtain ⟨v, h1, h2⟩ := h.rows i hil
          refine ⟨v, by rw [List.getElem?_append_left (by omega)]; exact h1, ?_⟩
          rw [List.getElem_append_left hil]
          refine (h2.fr hF (fun k hk hh => ?_)).mono (fun k hk => List.mem_append_left _ hk)
          simp only [List.mem_cons, Option.mem_toList] at hh
          rcases hh with rfl | rfl | e
          · exact h.tr hk
          · exact h.mr hk
          · exact (h.gr k e).1 hk
        · obtain rfl : i = L.length := by omega
          refine ⟨_, by rw [← hvl]; simp; rfl, ?_⟩
          rw [List.getElem_append_right (Nat.le_refl _)]
          simp only [Nat.sub_self, List.getElem_cons_zero]
          refine ⟨A5, c5, rfl, hc5, ?_, ?_⟩
          · refine RS.fr (own_reads_of' hO5) hF5 (fun ad e h0 hh => ?_)
            obtain ⟨g, rfl, h2, h3, h4⟩ := hk5 ad e
            simp only [List.mem_cons, Option.mem_toList] at hh
            rcases hh with e | e | e
            · omega
            · omega
            · have := hg2 g e; omega
          · intro ad e _
            obtain ⟨g, rfl, h2, h3, h4⟩ := hk5 ad e
            rw [hb5, h2]; simp
      tr := by
        intro hh
        rcases List.mem_append.1 hh with e | e
        · exact h.tr e
        · have := hb5m t e; omega
      mr := by
        intro hh
        rcases List.mem_append.1 hh with e | e
        · exact h.mr e
        · have := hb5m mb e; omega
      tm := h.tm
      gr := by
        intro g e
        rcases hG g e with e2 | e2
        · obtain ⟨g1, g2, g3⟩ := h.gr g e2
          have := hg2 g e2
          refine ⟨fun hh => ?_, g2, g3⟩
          rcases List.mem_append.1 hh with e | e
          · exact g1 e
          · have := hb5m g e; omega
        · refine ⟨fun hh => ?_, by omega, by omega⟩
          rcases List.mem_append.1 hh with e | e
          · have := h.rl g e; omega
          · have := hb5m g e; omega
      rl := by
        intro k hk
        rcases List.mem_append.1 hk with e | e
        · have := h.rl k e; have := hF.size; omega
        · have := hb5m k e; have := hF5.size; omega
      nd := by
        refine List.nodup_append.2 ⟨h.nd, by simp, ?_⟩
        intro a ha b hb
        simp at hb
        subst hb
        rintro rfl
        exact hx ha }
  · intro k hk
    simp only [fpT, List.mem_cons, List.mem_append, Option.mem_toList] at hk ⊢
    rcases hk with rfl | rfl | hk | hk | hk
    · exact .inl (.inl rfl)
    · exact .inl (.inr (.inl rfl))
    · rcases hG k hk with e | e
      · exact .inl (.inr (.inr (.inl e)))
      · exact .inr (by omega)
    · exact .inl (.inr (.inr (.inr hk)))
    · exact .inr (hb5m k hk).1

def T8_11 : Bool × List (List Nat × List Nat) := (true, [([], []), ([], []), ([1], [1]), ([2], [2]), ([3], [3]), ([], []), ([5], [5]), ([6], [6]), ([4, 7, 6], [4, 7]), ([0, 0, 1, 2, 3, 4, 5, 6, 7, 8], [0]), ([9, 0, 1, 2, 3, 4, 5, 6, 7, 8], [9]), ([10, 8, 8, 0, 1, 2, 3, 4, 5, 6, 7, 8], [8, 10])])
def B8_11 : List Nat := [0, 0, 2, 6, 14, 0, 32, 96, 254, 511, 1023, 2047]
theorem tab8_11 : rtab .any (opsOf Tryd.f8 11) = T8_11 := by kernel_rfl
theorem bits8_11 : waitsOk T8_11.2 B8_11 = true := by kernel_rfl
def T8_12 : Bool × List (List Nat × List Nat) := (true, [([], []), ([0], [0]), ([1], [1]), ([2], [2]), ([], []), ([], []), ([5], [5]), ([6], [6]), ([7], [7]), ([8], [8]), ([3, 4, 9, 0, 1, 2, 3, 4, 5, 6, 7, 8, 9], [3, 4, 9])])
def B8_12 : List Nat := [0, 1, 3, 7, 0, 0, 32, 96, 224, 480, 1023]
theorem tab8_12 : rtab .any (opsOf Tryd.f8 12) = T8_12 := by kernel_rfl
theorem bits8_12 : waitsOk T8_12.2 B8_12 = true := by kernel_rfl
set_option maxRecDepth 100000 in
set_option maxHeartbeats 4000000 in
theorem Of_q {w : World} {t : Nat} {most : Int} {L : List (List ByteArray)} {fp : List Nat} (h : TA w t most L fp) (A : Option Addr) (c : Nat) (xs : List ByteArray) (hr : RS w A xs.length xs) (hx : xs.length ≤ 16) (hb : tot xs ≤ 1048576) (ht : tabP w) (hL : L.length ≤ 1000) :
    Calls Tryd.prog 8 #[.pointer (some ⟨t, 0, none⟩), .slice A xs.length c] w fun e w' => e = .returned (.tuple #[.int .i64 (ofN most L xs), .int .i64 0]) ∧ ∃ fp', TA w' t most (ofL most L xs) fp' ∧ Fr fp w w' ∧ (∀ k, k ∈ fp' → k ∈ fp ∨ w.heap.size ≤ k) := by
  obtain ⟨lv, mb, vals, rs, h1, rfl⟩ := h
  have R := Lib.hid hr; clear hr
  have HT := Lib.hid ht; clear ht
  have H0 := Lib.hid h1; clear h1
  have hxi : (xs.length : Int) ≤ 16 := by omega
  go_enter Tryd.func8, Tryd.ntmps8
  go_wp2_with fail
  refine (key_c _ A c xs R.out (by omega) hb HT.out).mono ?_
  rintro e w1 ⟨rfl, hB⟩
  have F1 : Hid (Fr [] w w1) := Fr.of_below hB [] (Nat.le_refl _)
  have R1 : Hid (RS w1 A xs.length xs) := R.out.below hB
  have H1 : Hid (TB w1 t most L lv mb vals rs) := H0.out.fr F1.out (by simp)
  obtain ⟨Al, cl, hlv, hlc⟩ := own_form H0.out.own
  have HLV := Lib.hid hlv; clear hlv
  have hlk0 := H1.out.map.lookup_ok KBs Tryd.underlying43 (zero3 w1) (keyB xs)
  have hlk1 : (Instr.lookup 43 (.map (some mb)) (ekS (keyB xs)) true).run Tryd.prog w1 = .ok (.tuple #[(lookB (keysAt 0 L) (keyB xs)).getD (.int .i64 0), .bool (lookB (keysAt 0 L) (keyB xs)).isSome]) w1 := hlk0
  rw [keysAt_lookup] at hlk1
  clear hlk0 hB R
  have c0 : w1.cell? ⟨t, 0, none⟩ = some (.int .i64 most) := cellB H1.out.blk 0
  have c1 : w1.cell? ⟨t, 1, none⟩ = some (.slice Al L.length cl) := by rw [← HLV.out]; exact cellB H1.out.blk 1
  have c2 : w1.cell? ⟨t, 2, none⟩ = some (.map (some mb)) := cellB H1.out.blk 2
  cases hp : posL L xs with
  | some i =>
    rw [hp] at hlk1
    have hlk : (Instr.lookup 43 (.map (some mb)) (.string ⟨(keyL xs).toArray⟩) true).run Tryd.prog w1 = .ok (.tuple #[.int .i64 (((0 + i : Nat) : Int) + 1), .bool true]) w1 := hlk1
    have eN : Hid (ofN most L xs = (i : Int) + 1) := by show _ = _; unfold ofN; rw [hp]
    have eL : Hid (ofL most L xs = L) := by show _ = _; unfold ofL; rw [hp]
    clear hlk1 hp
    go_wp2_with fail
    go_ret2
    refine ⟨by rw [eN.out]; simp, fpT t mb lv rs, by rw [eL.out]; exact ⟨lv, mb, vals, rs, H1.out, rfl⟩, F1.out.mono (by simp), fun k hk => .inl hk⟩
  | none =>
    rw [hp] at hlk1
    have hlk : (Instr.lookup 43 (.map (some mb)) (.string ⟨(keyL xs).toArray⟩) true).run Tryd.prog w1 = .ok (.tuple #[.int .i64 0, .bool false]) w1 := hlk1
    clear hlk1
    have HP := Lib.hid hp; clear hp
    by_cases hf : most ≤ L.length
    · have eN : Hid (ofN most L xs = 0) := by show _ = _; unfold ofN; rw [HP.out]; exact if_pos hf
      have eL : Hid (ofL most L xs = L) := by show _ = _; unfold ofL; rw [HP.out]; exact if_pos hf
      have hd : decide (most ≤ (L.length : Int)) = true := by simpa using hf
      go_wp2_with fail
      go_quiet (fail)
      go_wp2_with fail
      go_ret2
      refine ⟨by rw [eN.out]; rfl, fpT t mb lv rs, by rw [eL.out]; exact ⟨lv, mb, vals, rs, H1.out.fr ((Fr.refl [] w1).drewN _) (by simp), rfl⟩, (F1.out.mono (by simp)).drewN _, fun k hk => .inl hk⟩
    · have eN : Hid (ofN most L xs = (L.length : Int) + 1) := by show _ = _; unfold ofN; rw [HP.out]; exact if_neg hf
      have eL : Hid (ofL most L xs = L ++ [xs]) := by show _ = _; unfold ofL; rw [HP.out]; exact if_neg hf
      have hd : decide (most ≤ (L.length : Int)) = false := by simpa using hf
      go_wp2_with fail
      go_quiet (fail)
      go_wp2_with fail
      clear c0 c1 c2 hlk hd hf
      generalize hgw : World.drewN w1 _ = w2
      have F2 : Hid (Fr [] w w2) := by rw [← hgw]; exact F1.out.drewN _
      have H2 : Hid (TB w2 t most L lv mb vals rs) := H0.out.fr F2.out (by simp)
      have R2 : Hid (RS w2 A xs.length xs) := by rw [← hgw]; exact R1.out.drewN _
      clear hgw
      have EC : Hid (∀ w', Below w2.heap.size w2 w' → w'.cell? ⟨t, 1, none⟩ = some (.slice Al L.length cl)) := fun w' h => pw_cell_below h (by rw [← HLV.out]; exact cellB H2.out.blk 1)
      refine start_ (n := 12) (S := (fun w' => Below w2.heap.size w2 w')) (ds := [8, 11]) #[false, false, false, false, false, false, false, false, false, false, false, false] (by kernel_rfl) (by rfl) (by rfl) (Below_drewN (Below.refl _ _) 1) (fun hHeld => ?_); refine with_tabW tab8_11 bits8_11 (fun HT_ HW_ => ?_)
      refine pure_ (i := 0) (N := some 39) (v := ?_) (a' := ?_) #[true, false, false, false, false, false, false, false, false, false, false, false] rfl rfl (any_of HT_.out (by kernel_rfl)) (fun _ _ _ h => h) (Or.inl ⟨by rfl, ?_⟩) ?_ ?_
      rotate_left
      · intro w'
        go_simp
        with_reducible rfl
      rotate_left
      · simp only [Act.put, List.setIfInBounds_toArray, List.set_cons_zero, List.set_cons_succ]
        rfl
      refine pure_ (i := 1) (N := some 40) (v := ?_) (a' := ?_) #[true, true, false, false, false, false, false, false, false, false, false, false] rfl rfl (any_of HT_.out (by kernel_rfl)) (fun _ _ _ h => h) (Or.inl ⟨by rfl, ?_⟩) ?_ ?_
      rotate_left
      · intro w'
        go_simp
        with_reducible rfl
      rotate_left
      · simp only [Act.put, List.setIfInBounds_toArray, List.set_cons_zero, List.set_cons_succ]
        rfl
      refine pure_ (i := 2) (N := some 41) (v := ?_) (a' := ?_) #[true, true, true, false, false, false, false, false, false, false, false, false] rfl rfl (any_of HT_.out (by kernel_rfl)) (fun _ _ _ h => h) (Or.inl ⟨by rfl, ?_⟩) ?_ ?_
      rotate_left
      · intro w'
        go_simp
        with_reducible rfl
      rotate_left
      · simp only [Act.put, List.setIfInBounds_toArray, List.set_cons_zero, List.set_cons_succ]
        rfl
      refine pure_ (i := 3) (N := some 42) (v := ?_) (a' := ?_) #[true, true, true, true, false, false, false, false, false, false, false, false] rfl rfl (any_of HT_.out (by kernel_rfl)) (fun _ _ _ h => h) (Or.inl ⟨by rfl, ?_⟩) ?_ ?_
      rotate_left
      · intro w'
        go_simp
        with_reducible rfl
      rotate_left
      · simp only [Act.put, List.setIfInBounds_toArray, List.set_cons_zero, List.set_cons_succ]
        rfl
      refine take_ (i := 4) (N := some 43) (v := ?_) (a' := ?_) #[true, true, true, true, true, false, false, false, false, false, false, false] rfl rfl (take_ofW HT_.out HW_.out (by kernel_rfl)) (fun _ _ _ h => h) (Or.inl ⟨by rfl, ?_⟩) hHeld ?_ ?_
      rotate_left
      · rintro w' hS; have s1 := EC.out w' hS
        go_simp
        with_reducible rfl
      rotate_left
      · simp only [Act.put, List.setIfInBounds_toArray, List.set_cons_zero, List.set_cons_succ]
        rfl
      refine pure_ (i := 5) (N := some 44) (v := ?_) (a' := ?_) #[true, true, true, true, true, true, false, false, false, false, false, false] rfl rfl (any_of HT_.out (by kernel_rfl)) (fun _ _ _ h => h) (Or.inl ⟨by rfl, ?_⟩) ?_ ?_
      rotate_left
      · intro w'
        go_simp
        with_reducible rfl
      rotate_left
      · simp only [Act.put, List.setIfInBounds_toArray, List.set_cons_zero, List.set_cons_succ]
        rfl
      refine one_ (i := 6) (N := some 45) #[true, true, true, true, true, true, true, false, false, false, false, false] rfl rfl (one_of HT_.out (by kernel_rfl)) (by decide) (fun K hK => ?_)
      rw [if_pos (by rfl)]
      go_simp
      go_at_call 17; refine (Clone_s _ A c xs (R2.out.below hHeld) (by omega)).mono ?_; rintro e w5 ⟨v5, rfl, hO5, hb⟩; obtain ⟨A5, c5, rfl, hc5, hbk5⟩ := row_block hO5; have HK5 := Lib.hid hbk5; have HC5 := Lib.hid hc5; clear hbk5 hc5; have HB5 := Lib.hid hHeld; have HO5 := Lib.hid hO5; have HBB := Lib.hid hb
      refine hK.out _ _ (hHeld.trans (hb.mono hHeld.size)) (fun hHeld => ?_)
      clear hK K
      refine one_ (i := 7) (N := some 46) #[true, true, true, true, true, true, true, true, false, false, false, false] rfl rfl (one_of HT_.out (by kernel_rfl)) (by decide) (fun K hK => ?_)
      rw [if_pos (by rfl)]
      go_simp
      refine mk1 ?_; intro w6 h6 hb6; have hb6' := hb6
      refine hK.out _ _ (hHeld.trans (hb6.mono hHeld.size)) (fun hHeld => ?_)
      clear hK K
      refine last_ (i := 8) (N := some 47) #[true, true, true, true, true, true, true, true, true, false, false, false] rfl rfl (one_of HT_.out (by kernel_rfl)) (by decide) (fun K hK => ?_)
      obtain ⟨v8, w8, h8, hO8, hG8, hB8⟩ := app_one w6 22 lv L.length vals (.slice A5 xs.length c5) w5.heap.size (own_fr H2.out.own (Fr.of_below hHeld [] (Nat.le_refl _)) (by simp)) h6 (own_one HO5.out) (by omega); obtain ⟨A8, c8, hv8, hc8⟩ := own_form hO8; have HS := Lib.hid hHeld; have HB6 := Lib.hid hb6; have HV8 := Lib.hid hv8; have HO8 := Lib.hid hO8; have HG8 := Lib.hid hG8; have HBK8 := Lib.hid hB8; clear hv8 hO8 hG8 hB8 hb6; have F8 : Hid (Fr lv.ownBlock.toList w2 w8) := Fr.grown (Fr.of_below HS.out _ (Nat.le_refl _)) HG8.out (fun k hk => .inl (by rw [hk]; simp)); have D8 : Hid (w8.heap[t]? = some (.cells #[.int .i64 most, lv, .map (some mb)] 45 (0, 0))) := F8.out.get H2.out.blk (by (intro hh; simp only [Option.mem_toList] at hh; exact (H2.out.gr t hh).2.1 rfl)); have d1 := cellB D8.out 1; have f1 := frozenB D8.out 1; refine step_app (by rfl) _ _ _ _ rfl _ _ (by rw [← HLV.out]; rfl) rfl h8 ?_; rw [HV8.out]
      refine hK.out _ _ ?_
      clear hK K
      refine pure_ (i := 9) (N := some 48) (v := ?_) (a' := ?_) #[true, true, true, true, true, true, true, true, true, true, false, false] rfl rfl (any_of HT_.out (by kernel_rfl)) (fun _ _ _ h => h) (Or.inl ⟨by rfl, ?_⟩) ?_ ?_
      rotate_left
      · intro w'
        go_simp
        with_reducible rfl
      rotate_left
      · simp only [Act.put, List.setIfInBounds_toArray, List.set_cons_zero, List.set_cons_succ]
        rfl
      refine pure_ (i := 10) (N := some 49) (v := ?_) (a' := ?_) #[true, true, true, true, true, true, true, true, true, true, true, false] rfl rfl (any_of HT_.out (by kernel_rfl)) (fun _ _ _ h => h) (Or.inl ⟨by rfl, ?_⟩) ?_ ?_
      rotate_left
      · intro w'
        go_simp
        with_reducible rfl
      rotate_left
      · simp only [Act.put, List.setIfInBounds_toArray, List.set_cons_zero, List.set_cons_succ]
        rfl
      refine last_ (i := 11) (N := none) #[true, true, true, true, true, true, true, true, true, true, true, true] rfl rfl (one_of HT_.out (by kernel_rfl)) (by decide) (fun K hK => ?_)
      rw [if_pos (by rfl)]
      go_simp
      refine hK.out _ _ ?_
      clear hK K
      refine done_ (done_of HT_.out (by kernel_rfl)) ?_
      clear HT_ HW_ hHeld
      generalize hgw : World.setCell w8 _ _ = w9
      have F9 : Hid (Fr (t :: lv.ownBlock.toList) w2 w9) := by rw [← hgw]; exact (F8.out.mono (fun k hk => by simp at hk ⊢; exact .inr hk)).setCell (p := ⟨t, 1, none⟩) (.inl (by simp)) _
      have D9 : Hid (w9.heap[t]? = some (.cells #[.int .i64 most, .slice A8 (L.length + 1) c8, .map (some mb)] 45 (0, 0))) := by rw [← hgw]; exact setB D8.out 1 (.slice A8 (L.length + 1) c8)
      have F89 : Hid (Fr [t] w8 w9) := by rw [← hgw]; exact (Fr.refl [t] w8).setCell (p := ⟨t, 1, none⟩) (.inl (by simp)) _
      clear hgw d1 f1
      have M9 : Hid (MapR ekS w9 mb (keysAt 0 L)) := H2.out.map.fr F9.out (by
        intro hh
        rcases List.mem_cons.1 hh with e | e
        · exact H2.out.tm e.symm
        · simp only [Option.mem_toList] at e; exact (H2.out.gr mb e).2.2 rfl)
      have hlt2 : Hid (∀ k, k ∈ fpT t mb lv rs → k < w2.heap.size) := Lib.hid (TA.lt ⟨lv, mb, vals, rs, H2.out, rfl⟩)
      have hs6 : Hid (w2.heap.size ≤ w5.heap.size ∧ w5.heap.size < w6.heap.size) := ⟨Nat.le_trans HB5.out.size HBB.out.size, lt_of_get h6⟩
      have hs8 : Hid (w6.heap.size ≤ w8.heap.size) := HG8.out.size
      have G8 : Hid (∀ g, (Value.slice A8 (L.length + 1) c8).ownBlock = some g → lv.ownBlock = some g ∨ w6.heap.size = g) := fun g e => by
        rw [← HV8.out] at e
        rcases HBK8.out with h | h
        · exact .inl (by rw [← h]; exact e)
        · rw [h] at e; exact .inr (by simpa using e)
      have O9 : Hid (w9.ownsRow 0 29 1 (.slice A8 (L.length + 1) c8) (L.length + 1) (vals ++ [.slice A5 xs.length c5])) := by
        have := HO8.out; rw [HV8.out] at this
        refine own_fr this F89.out (fun g e hh => ?_)
        have hgt : g = t := by simpa using hh
        rcases G8.out g e with e2 | e2
        · exact (H2.out.gr g e2).2.1 hgt
        · have := hlt2.out t (by simp [fpT]); have := hs6.out; omega
      go_wp2_with fail
      have E9 : Hid (∀ w', Below w9.heap.size w9 w' → w'.cell? ⟨t, 1, none⟩ = some (.slice A8 (L.length + 1) c8) ∧ w'.cell? ⟨t, 2, none⟩ = some (.map (some mb))) := fun w' h => ⟨pw_cell_below h (cellB D9.out 1), pw_cell_below h (cellB D9.out 2)⟩
      refine start_ (n := 11) (S := (fun w' => Below w9.heap.size w9 w')) (ds := [10]) #[false, false, false, false, false, false, false, false, false, false, false] (by kernel_rfl) (by rfl) (by rfl) (Below_drewN (Below.refl _ _) 1) (fun hHeld => ?_); refine with_tabW tab8_12 bits8_12 (fun HT_ HW_ => ?_)
      refine pure_ (i := 0) (N := some 50) (v := ?_) (a' := ?_) #[true, false, false, false, false, false, false, false, false, false, false] rfl rfl (any_of HT_.out (by kernel_rfl)) (fun _ _ _ h => h) (Or.inl ⟨by rfl, ?_⟩) ?_ ?_
      rotate_left
      · intro w'
        go_simp
        with_reducible rfl
      rotate_left
      · simp only [Act.put, List.setIfInBounds_toArray, List.set_cons_zero, List.set_cons_succ]
        rfl
      refine pure_ (i := 1) (N := some 51) (v := ?_) (a' := ?_) #[true, true, false, false, false, false, false, false, false, false, false] rfl rfl (any_of HT_.out (by kernel_rfl)) (fun _ _ _ h => h) (Or.inl ⟨by rfl, ?_⟩) ?_ ?_
      rotate_left
      · intro w'
        go_simp
        with_reducible rfl
      rotate_left
      · simp only [Act.put, List.setIfInBounds_toArray, List.set_cons_zero, List.set_cons_succ]
        rfl
      refine pure_ (i := 2) (N := some 52) (v := ?_) (a' := ?_) #[true, true, true, false, false, false, false, false, false, false, false] rfl rfl (any_of HT_.out (by kernel_rfl)) (fun _ _ _ h => h) (Or.inl ⟨by rfl, ?_⟩) ?_ ?_
      rotate_left
      · intro w'
        go_simp
        with_reducible rfl
      rotate_left
      · simp only [Act.put, List.setIfInBounds_toArray, List.set_cons_zero, List.set_cons_succ]
        rfl
      refine take_ (i := 3) (N := some 53) (v := ?_) (a' := ?_) #[true, true, true, true, false, false, false, false, false, false, false] rfl rfl (take_ofW HT_.out HW_.out (by kernel_rfl)) (fun _ _ _ h => h) (Or.inl ⟨by rfl, ?_⟩) hHeld ?_ ?_
      rotate_left
      · rintro w' hS; obtain ⟨s1, s2⟩ := E9.out w' hS
        go_simp
        with_reducible rfl
      rotate_left
      · simp only [Act.put, List.setIfInBounds_toArray, List.set_cons_zero, List.set_cons_succ]
        rfl
      refine pure_ (i := 4) (N := some 54) (v := ?_) (a' := ?_) #[true, true, true, true, true, false, false, false, false, false, false] rfl rfl (any_of HT_.out (by kernel_rfl)) (fun _ _ _ h => h) (Or.inl ⟨by rfl, ?_⟩) ?_ ?_
      rotate_left
      · intro w'
        go_simp
        with_reducible rfl
      rotate_left
      · simp only [Act.put, List.setIfInBounds_toArray, List.set_cons_zero, List.set_cons_succ]
        rfl
      refine pure_ (i := 5) (N := some 55) (v := ?_) (a' := ?_) #[true, true, true, true, true, true, false, false, false, false, false] rfl rfl (any_of HT_.out (by kernel_rfl)) (fun _ _ _ h => h) (Or.inl ⟨by rfl, ?_⟩) ?_ ?_
      rotate_left
      · intro w'
        go_simp
        with_reducible rfl
      rotate_left
      · simp only [Act.put, List.setIfInBounds_toArray, List.set_cons_zero, List.set_cons_succ]
        rfl
      refine pure_ (i := 6) (N := some 56) (v := ?_) (a' := ?_) #[true, true, true, true, true, true, true, false, false, false, false] rfl rfl (any_of HT_.out (by kernel_rfl)) (fun _ _ _ h => h) (Or.inl ⟨by rfl, ?_⟩) ?_ ?_
      rotate_left
      · intro w'
        go_simp
        with_reducible rfl
      rotate_left
      · simp only [Act.put, List.setIfInBounds_toArray, List.set_cons_zero, List.set_cons_succ]
        rfl
      refine pure_ (i := 7) (N := some 57) (v := ?_) (a' := ?_) #[true, true, true, true, true, true, true, true, false, false, false] rfl rfl (any_of HT_.out (by kernel_rfl)) (fun _ _ _ h => h) (Or.inl ⟨by rfl, ?_⟩) ?_ ?_
      rotate_left
      · intro w'
        go_simp
        with_reducible rfl
      rotate_left
      · simp only [Act.put, List.setIfInBounds_toArray, List.set_cons_zero, List.set_cons_succ]
        rfl
      refine take_ (i := 8) (N := some 58) (v := ?_) (a' := ?_) #[true, true, true, true, true, true, true, true, true, false, false] rfl rfl (take_ofW HT_.out HW_.out (by kernel_rfl)) (fun _ _ _ h => h) (Or.inl ⟨by rfl, ?_⟩) hHeld ?_ ?_
      rotate_left
      · rintro w' hS; obtain ⟨s1, s2⟩ := E9.out w' hS
        go_simp
        with_reducible rfl
      rotate_left
      · simp only [Act.put, List.setIfInBounds_toArray, List.set_cons_zero, List.set_cons_succ]
        rfl
      refine pure_ (i := 9) (N := some 59) (v := ?_) (a' := ?_) #[true, true, true, true, true, true, true, true, true, true, false] rfl rfl (any_of HT_.out (by kernel_rfl)) (fun _ _ _ h => h) (Or.inl ⟨by rfl, ?_⟩) ?_ ?_
      rotate_left
      · intro w'
        go_simp
        with_reducible rfl
      rotate_left
      · simp only [Act.put, List.setIfInBounds_toArray, List.set_cons_zero, List.set_cons_succ]
        rfl
      refine last_ (i := 10) (N := none) #[true, true, true, true, true, true, true, true, true, true, true] rfl rfl (one_of HT_.out (by kernel_rfl)) (by decide) (fun K hK => ?_)
      obtain ⟨w10, h10, hM10, hF10⟩ := MapR.update KBs (M9.out.fr (Fr.of_below hHeld [] (Nat.le_refl _)) (by simp)) Tryd.underlying43 (keyB xs) (.int .i64 ((L.length : Int) + 1)); have h10' : (Instr.mapUpdate 43 (.map (some mb)) (.string ⟨(keyL xs).toArray⟩) (.int .i64 ((L.length : Int) + 1))).run Tryd.prog w9.drew = .ok () w10 := h10; have HM10 := Lib.hid hM10; have HF10 := Lib.hid hF10; clear h10 hM10 hF10; rw [if_pos (by rfl)]; go_simp
      refine hK.out _ _ ?_
      clear hK K
      refine done_ (done_of HT_.out (by kernel_rfl)) ?_
      clear HT_ HW_ hHeld
      have F10 : Hid (Fr [mb] w9 w10) := (((Fr.refl [] w9).drew).mono (by simp)).trans HF10.out
      have D10 : Hid (w10.heap[t]? = some (.cells #[.int .i64 most, .slice A8 (L.length + 1) c8, .map (some mb)] 45 (0, 0))) := F10.out.get D9.out (by simp; exact H2.out.tm)
      have d1 := cellB D10.out 1
      clear h10'
      go_wp2_with fail
      go_ret2
      have FF : Hid (Fr (t :: mb :: lv.ownBlock.toList) w9 w10) := F10.out.mono (by simp)
      have F5 : Hid (Fr (t :: mb :: lv.ownBlock.toList) w5 w9) := by
        refine Fr.trans (b := w8) ?_ (F89.out.mono (by simp))
        exact Fr.grown (Fr.of_below hb6' _ (Nat.le_refl _)) HG8.out (fun k hk => .inl (by rw [hk]; simp))
      obtain ⟨rs', hTB, hsub⟩ := TB_app (xs := xs) (w5 := w5) (w10 := w10) H2.out (posL_none.1 HP.out) ((F9.out.mono (by (intro k hk; simp at hk ⊢; rcases hk with h | h; exact .inl h; exact .inr (.inr h)))).trans FF.out) hs6.out.1 (F5.out.trans FF.out) D10.out
        (own_fr O9.out F10.out (fun g e hh => by
          have hgm : g = mb := by simpa using hh
          rcases G8.out g e with e2 | e2
          · exact (H2.out.gr g e2).2.2 hgm
          · have := hlt2.out mb (by simp [fpT]); have := hs6.out; omega))
        (fun g e => by
          rcases G8.out g e with e2 | e2
          · exact .inl e2
          · exact .inr (by have := hs6.out; omega)) (by rw [← keysAt_snoc L xs (posL_none.1 HP.out)]; exact HM10.out) HO5.out
      refine ⟨by rw [eN.out]; rfl, fpT t mb (.slice A8 (L.length + 1) c8) rs', by rw [eL.out]; exact ⟨_, mb, _, rs', hTB, rfl⟩, ?_, fun k hk => ?_⟩
      · refine (F2.out.mono (by simp)).trans ((F9.out.mono ?_).trans (FF.out.mono ?_))
        · intro k hk; simp [fpT] at hk ⊢; rcases hk with h | h; exact .inl h; exact .inr (.inr (.inl h))
        · intro k hk; simp [fpT] at hk ⊢; rcases hk with h | h | h; exact .inl h; exact .inr (.inl h); exact .inr (.inr (.inl h))
      · rcases hsub k hk with h | h
        · exact .inl h
        · exact .inr (Nat.le_trans F2.out.size h)
end Go.Proofs.YtkmfgacfccgdcaaDoor.Sr
set_option linter.unusedVariables false
set_option linter.unusedSimpArgs false
namespace Go.Proofs.YtkmfgacfccgdcaaDoor.Sr
open Go.RowKit Go.Proofs.YtkmfgacfccgdcaaDoor.B0 Go.Proofs.YtkmfgacfccgdcaaDoor.Ps Go.Proofs.YtkmfgacfccgdcaaDoorW.PrintWords Go.Proofs.YtkmfgacfccgdcaaDoorW.PrintLast Go.Proofs.YtkmfgacfccgdcaaDoor.Bld

set_option maxRecDepth 100000 in
set_option maxHeartbeats 2000000 in
theorem Labels_no {w : World} {t : Nat} {most : Int} {L : List (List ByteArray)} {fp : List Nat} (h : TA w t most L fp) (i : Int) (hi : i < 0 ∨ (L.length : Int) < i) :
    Calls Tryd.prog 10 #[.pointer (some ⟨t, 0, none⟩), .int .i64 i] w fun e w' => e = .returned (.tuple #[.slice none 0 0, .bool false]) ∧ w = w' := by
  obtain ⟨lv, mb, vals, rs, h1, rfl⟩ := h
  obtain ⟨A, c, rfl, hc⟩ := own_form h1.own
  have c1 : w.cell? ⟨t, 1, none⟩ = some (.slice A L.length c) := cellB h1.blk 1
  clear h1
  by_cases h0 : i < 0
  · clear hi
    go_enter Tryd.func10, Tryd.ntmps10
    go_wp2_with fail
    go_ret2
    exact ⟨rfl, rfl⟩
  · have h2 : (L.length : Int) < i := by omega
    have h3 : decide (i < 0) = false := by simpa using h0
    clear hi
    go_enter Tryd.func10, Tryd.ntmps10
    go_wp2_with fail
    go_ret2
    exact ⟨rfl, rfl⟩
set_option maxRecDepth 100000 in
set_option maxHeartbeats 2000000 in
theorem Labels_0 {w : World} {t : Nat} {most : Int} {L : List (List ByteArray)} {fp : List Nat} (h : TA w t most L fp) :
    Calls Tryd.prog 10 #[.pointer (some ⟨t, 0, none⟩), .int .i64 0] w fun e w' => e = .returned (.tuple #[.slice none 0 0, .bool true]) ∧ w = w' := by
  obtain ⟨lv, mb, vals, rs, h1, rfl⟩ := h
  obtain ⟨A, c, rfl, hc⟩ := own_form h1.own
  have c1 : w.cell? ⟨t, 1, none⟩ = some (.slice A L.length c) := cellB h1.blk 1
  clear h1
  go_enter Tryd.func10, Tryd.ntmps10
  go_wp2_with fail
  go_ret2
  exact ⟨rfl, rfl⟩
/-- the i-th row, as a cell of the table's own slice. -/
theorem TB.cell {w : World} {t : Nat} {most : Int} {L : List (List ByteArray)} {lv : Value} {mb : Nat} {vals : List Value} {rs : List Nat} (h : TB w t most L lv mb vals rs) (i : Nat) (hi : i < L.length) :
    ∃ g c, lv = .slice (some ⟨g, 0, none⟩) L.length c ∧ L.length ≤ c ∧ ∃ A k, w.cell? ⟨g, i, none⟩ = some (.slice A L[i].length k) ∧ L[i].length ≤ k ∧ RS w A L[i].length L[i] := by
  rcases h.own.2 with ⟨rfl, h0⟩ | ⟨g, cap, cur, rfl, hb, hg, hc, hm, hs, ht⟩
  · omega
  · obtain ⟨v, h1, A, k, h2, h3, h4, h5⟩ := h.rows i hi
    refine ⟨g, cap, rfl, hc, A, k, ?_, h3, h4⟩
    rw [cellB hg i, ← h2, ← h1, ← ht, List.getElem?_take_of_lt (by omega)]
    simp
set_option maxRecDepth 100000 in
set_option maxHeartbeats 2000000 in
theorem Labels_q {w : World} {t : Nat} {most : Int} {L : List (List ByteArray)} {fp : List Nat} (h : TA w t most L fp) (i : Nat) (hi : i < L.length) (hL : L.length ≤ 1000) (hx : L[i].length ≤ 1000) :
    Calls Tryd.prog 10 #[.pointer (some ⟨t, 0, none⟩), .int .i64 ((i : Int) + 1)] w fun e w' => ∃ A c, e = .returned (.tuple #[.slice A L[i].length c, .bool true]) ∧ L[i].length ≤ c ∧ RS w' A L[i].length L[i] ∧ Below w.heap.size w w' := by
  obtain ⟨lv, mb, vals, rs, h1, rfl⟩ := h
  obtain ⟨g, c, rfl, hc, A, k, hcell, hk, hR⟩ := h1.cell i hi
  have c1 : w.cell? ⟨t, 1, none⟩ = some (.slice (some ⟨g, 0, none⟩) L.length c) := cellB h1.blk 1
  have HR := Lib.hid hR; clear hR h1
  obtain ⟨xs, hxs⟩ : ∃ xs, Hid (xs = L[i]) := ⟨_, Lib.hid rfl⟩
  rw [← hxs.out] at hcell HR hx hk ⊢
  obtain ⟨n, hn⟩ : ∃ n, Hid (n = L.length) := ⟨_, Lib.hid rfl⟩
  rw [← hn.out] at c1 hi hc hL
  have hii : (i : Int) < n := by omega
  have h3 : decide ((i : Int) + 1 < 0) = false := by simp; omega
  have h4 : decide ((n : Int) < (i : Int) + 1) = false := by simp; omega
  have h5 : ((i : Int) + 1 == 0) = false := by rw [beq_eq_false_iff_ne]; omega
  have h6 : IntKind.i64.wrap ((i : Int) + 1 - 1) = (i : Int) := by rw [show (i : Int) + 1 - 1 = i from by omega]; exact IntWalk.i64_in _ (by omega)
  go_enter Tryd.func10, Tryd.ntmps10
  go_wp2_with fail
  refine (Clone_s w A k xs HR.out (by omega)).mono ?_
  rintro e w1 ⟨v1, rfl, hO, hB⟩
  obtain ⟨A1, c1', rfl, hc1, hr1⟩ := own_reads_of_le (d := ByteArray.empty) hO
  have HB := Lib.hid hB
  have HR1 := Lib.hid hr1
  clear hO hr1 hB
  go_wp2_with fail
  go_ret2
  exact ⟨A1, c1', rfl, hc1, HR1.out, HB.out⟩
theorem RS_one (w : World) (s : ByteArray) : RS (w.alloc (.cells #[.string s] 9)) (some ⟨w.heap.size, 0, none⟩) [s].length [s] := by
  refine ⟨rfl, by simp, fun _ => ⟨_, rfl, fun j hj => ?_⟩⟩
  obtain rfl : j = 0 := by simpa using hj
  have := cellB (allocN w (.cells #[.string s] 9)) 0
  rw [show (⟨w.heap.size, 0, none⟩ : Addr).add 0 = ⟨w.heap.size, 0, none⟩ from rfl, this]
  rfl
set_option maxRecDepth 100000 in
set_option maxHeartbeats 2000000 in
theorem alive20 (w : World) (ht : tabP w) : Calls Tryd.prog 6 #[] w fun e w' => e = .returned (.bool true) ∧ Below w.heap.size w w' := by
  have HT := Lib.hid ht; clear ht
  go_enter Tryd.func6, Tryd.ntmps6
  go_wp2_with fail
  refine (New_c 1 w (by omega) (by omega)).mono ?_
  rintro e w1 ⟨t, fp, rfl, hT, hF, hn⟩
  have H1 : Hid (TA w1 t 1 [] fp ∧ Fr [] w w1 ∧ ∀ k, k ∈ fp → w.heap.size ≤ k) := ⟨hT, hF, hn⟩
  clear hT hF hn
  go_wp2_with fail
  have e1 : ofN 1 [] [⟨#[97]⟩] = 1 := by decide
  have e2 : ofL 1 [] [⟨#[97]⟩] = [[⟨#[97]⟩]] := by decide
  refine (Of_q (H1.out.1.fr ((Fr.refl [] w1).alloc _) (by simp)) (some ⟨w1.heap.size, 0, none⟩) 1 [⟨#[97]⟩] (RS_one w1 _) (by simp) (by decide) (HT.out.below (H1.out.2.1.alloc _).below (Nat.le_refl _)) (by simp)).mono ?_
  rintro e w2 ⟨rfl, fp2, hT, hF, hn⟩
  rw [e1]
  rw [e2] at hT
  have H2 : Hid (TA w2 t 1 [[⟨#[97]⟩]] fp2 ∧ Fr [] w w2 ∧ ∀ k, k ∈ fp2 → w.heap.size ≤ k) := by
    refine ⟨hT, (H1.out.2.1.alloc _).trans' hF (fun k hk => .inr (H1.out.2.2 k hk)), fun k hk => ?_⟩
    rcases hn k hk with h | h
    · exact H1.out.2.2 k h
    · have := (H1.out.2.1.alloc (.cells #[.string ⟨#[97]⟩] 9)).size; omega
  clear hT hF hn H1 e1 e2
  go_wp2_with fail
  have e1 : ofN 1 [[⟨#[97]⟩]] [⟨#[98]⟩] = 0 := by decide
  have e2 : ofL 1 [[⟨#[97]⟩]] [⟨#[98]⟩] = [[⟨#[97]⟩]] := by decide
  refine (Of_q (H2.out.1.fr ((Fr.refl [] w2).alloc _) (by simp)) (some ⟨w2.heap.size, 0, none⟩) 1 [⟨#[98]⟩] (RS_one w2 _) (by simp) (by decide) (HT.out.below (H2.out.2.1.alloc _).below (Nat.le_refl _)) (by simp)).mono ?_
  rintro e w3 ⟨rfl, fp3, hT, hF, hn⟩
  rw [e1]
  rw [e2] at hT
  have H3 : Hid (TA w3 t 1 [[⟨#[97]⟩]] fp3 ∧ Fr [] w w3) := ⟨hT, (H2.out.2.1.alloc _).trans' hF (fun k hk => .inr (H2.out.2.2 k hk))⟩
  clear hT hF hn H2 e1 e2
  go_wp2_with fail
  refine (New_no 0 w3 (by omega)).mono ?_
  rintro e w4 ⟨rfl, rfl⟩
  go_wp2_with fail
  refine (Len_q H3.out.1).mono ?_
  rintro e w4 ⟨rfl, rfl⟩
  go_wp2_with fail
  go_ret
  exact ⟨by first | rfl | (simp; done), H3.out.2.below⟩
end Go.Proofs.YtkmfgacfccgdcaaDoor.Sr
set_option linter.unusedVariables false
set_option linter.unusedSimpArgs false
namespace Go.Proofs.YtkmfgacfccgdcaaDoor.Sr
open Go.RowKit Go.Proofs.YtkmfgacfccgdcaaDoor.B0 Go.Proofs.YtkmfgacfccgdcaaDoor.Ps Go.Proofs.YtkmfgacfccgdcaaDoorW.PrintWords

def stL (most : Int) : List (List ByteArray) → List (List ByteArray) → List (List ByteArray)
  | L, [] => L
  | L, x :: r => stL most (ofL most L x) r
def atN (most : Int) : List (List ByteArray) → List (List ByteArray) → List Int
  | L, [] => []
  | L, x :: r => ofN most L x :: atN most (ofL most L x) r
theorem stL_snoc (most : Int) (x : List ByteArray) : ∀ (r L : List (List ByteArray)), stL most L (r ++ [x]) = ofL most (stL most L r) x
  | [], L => rfl
  | y :: r, L => stL_snoc most x r (ofL most L y)
theorem atN_snoc (most : Int) (x : List ByteArray) : ∀ (r L : List (List ByteArray)), atN most L (r ++ [x]) = atN most L r ++ [ofN most (stL most L r) x]
  | [], L => rfl
  | y :: r, L => by simp only [List.cons_append, atN, atN_snoc most x r (ofL most L y), stL]
theorem atN_len (most : Int) : ∀ (r L : List (List ByteArray)), (atN most L r).length = r.length
  | [], L => rfl
  | y :: r, L => by simp only [atN, List.length_cons, atN_len most r (ofL most L y)]
theorem ofL_cases (most : Int) (L : List (List ByteArray)) (x : List ByteArray) :
    (∃ i, posL L x = some i ∧ ofN most L x = (i : Int) + 1 ∧ ofL most L x = L) ∨ (posL L x = none ∧ most ≤ L.length ∧ ofN most L x = 0 ∧ ofL most L x = L) ∨ (posL L x = none ∧ (L.length : Int) < most ∧ ofN most L x = (L.length : Int) + 1 ∧ ofL most L x = L ++ [x]) := by
  unfold ofN ofL
  cases h : posL L x with
  | some i => exact .inl ⟨i, rfl, rfl, rfl⟩
  | none =>
    by_cases hm : most ≤ L.length
    · exact .inr (.inl ⟨rfl, hm, if_pos hm, if_pos hm⟩)
    · exact .inr (.inr ⟨rfl, by omega, if_neg hm, if_neg hm⟩)
theorem stL_ext (most : Int) : ∀ (r L : List (List ByteArray)), ∃ R, stL most L r = L ++ R ∧ (most ≤ L.length → R = [])
  | [], L => ⟨[], by simp [stL], fun _ => rfl⟩
  | x :: r, L => by
    obtain ⟨R, h1, h2⟩ := stL_ext most r (ofL most L x)
    simp only [stL]
    rcases ofL_cases most L x with ⟨i, _, _, e⟩ | ⟨_, _, _, e⟩ | ⟨_, hlt, _, e⟩
    · rw [e] at h1 h2 ⊢; exact ⟨R, h1, h2⟩
    · rw [e] at h1 h2 ⊢; exact ⟨R, h1, h2⟩
    · rw [e] at h1 ⊢
      exact ⟨[x] ++ R, by rw [h1, List.append_assoc], fun hh => by omega⟩
theorem stL_len (most : Int) : ∀ (r L : List (List ByteArray)), (L.length : Int) ≤ most → ((stL most L r).length : Int) ≤ most
  | [], L, h => h
  | x :: r, L, h => by
    simp only [stL]
    apply stL_len most r
    rcases ofL_cases most L x with ⟨i, _, _, e⟩ | ⟨_, _, _, e⟩ | ⟨_, hlt, _, e⟩
    · rw [e]; exact h
    · rw [e]; exact h
    · rw [e, List.length_append, List.length_singleton]; omega
theorem stays (most : Int) : ∀ (r L : List (List ByteArray)) (i : Nat) (h : i < r.length), ofN most (stL most L r) r[i] = (atN most L r).getD i 0 ∧ ofL most (stL most L r) r[i] = stL most L r
  | [], L, i, h => by simp at h
  | x :: r, L, 0, h => by
    obtain ⟨R, h1, h2⟩ := stL_ext most r (ofL most L x)
    simp only [stL, atN, List.getElem_cons_zero, List.getD_cons_zero]
    rw [h1]
    rcases ofL_cases most L x with ⟨i, hp, hn, e⟩ | ⟨hp, hm, hn, e⟩ | ⟨hp, hlt, hn, e⟩
    · have hq := posL_app_some hp R
      rw [e, hn]
      unfold ofN ofL
      rw [hq]; exact ⟨rfl, rfl⟩
    · rw [e] at h2 ⊢
      rw [h2 hm, List.append_nil]
      exact ⟨rfl, e⟩
    · have hq : posL ((L ++ [x]) ++ R) x = some L.length := by
        refine posL_app_some ?_ R
        rw [posL_app hp]; simp [posL]
      rw [e, hn]
      unfold ofN ofL
      rw [hq]; exact ⟨rfl, rfl⟩
  | x :: r, L, i + 1, h => by
    have := stays most r (ofL most L x) i (by simpa using h)
    simpa only [stL, atN, List.getElem_cons_succ, List.getD_cons_succ] using this
/-- a number above 0 tells the row. -/
theorem num_row {most : Int} {L : List (List ByteArray)} {x : List ByteArray} (h : ofL most L x = L) : (ofN most L x = 0) ∨ ∃ i : Nat, ofN most L x = (i : Int) + 1 ∧ L[i]? = some x := by
  rcases ofL_cases most L x with ⟨i, hp, hn, e⟩ | ⟨hp, hm, hn, e⟩ | ⟨hp, hlt, hn, e⟩
  · exact .inr ⟨i, hn, posL_some hp⟩
  · exact .inl hn
  · rw [h] at e
    have := congrArg List.length e
    simp at this
theorem num_same {most : Int} {L : List (List ByteArray)} {x y : List ByteArray} (hx : ofL most L x = L) (hy : ofL most L y = L) (px : 0 < ofN most L x) (py : 0 < ofN most L y) : ofN most L x = ofN most L y ↔ x = y := by
  constructor
  · intro h
    rcases num_row hx with h0 | ⟨i, h1, h2⟩
    · omega
    · rcases num_row hy with h0 | ⟨j, h3, h4⟩
      · omega
      · obtain rfl : i = j := by omega
        rw [h2] at h4; exact Option.some.inj h4
  · rintro rfl; rfl
theorem num_range {most : Int} {L : List (List ByteArray)} {x : List ByteArray} (hx : ofL most L x = L) : 0 ≤ ofN most L x ∧ ofN most L x ≤ L.length := by
  rcases num_row hx with h0 | ⟨i, h1, h2⟩
  · omega
  · have := (List.getElem?_eq_some_iff.1 h2).1; omega
theorem stL_sub (most : Int) : ∀ (r L : List (List ByteArray)) (y : List ByteArray), y ∈ stL most L r → y ∈ L ∨ y ∈ r
  | [], L, y, h => .inl h
  | x :: r, L, y, h => by
    rcases stL_sub most r (ofL most L x) y h with h1 | h1
    · rcases ofL_cases most L x with ⟨i, _, _, e⟩ | ⟨_, _, _, e⟩ | ⟨_, _, _, e⟩
      · rw [e] at h1; exact .inl h1
      · rw [e] at h1; exact .inl h1
      · rw [e] at h1
        rcases List.mem_append.1 h1 with h2 | h2
        · exact .inl h2
        · exact .inr (by simp at h2; simp [h2])
    · exact .inr (List.mem_cons_of_mem _ h1)
end Go.Proofs.YtkmfgacfccgdcaaDoor.Sr
set_option linter.unusedVariables false
set_option linter.unusedSimpArgs false
namespace Go.Proofs.YtkmfgacfccgdcaaDoor.Sr
open Go.RowKit Go.Proofs.YtkmfgacfccgdcaaDoor.B0 Go.Proofs.YtkmfgacfccgdcaaDoor.Ps Go.Proofs.YtkmfgacfccgdcaaDoorW.PrintWords Go.Proofs.YtkmfgacfccgdcaaDoorW.PrintLast Go.Proofs.YtkmfgacfccgdcaaDoor.Bld

def SortC : Prop := ∀ (cf : Int → Int → Int) (X : List Int) (g cap : Nat) (cb : Array Value) (w : World), X ≠ [] →
  (∀ x, x ∈ X → ¬ cf x x < 0) → (∀ x y z, x ∈ X → y ∈ X → z ∈ X → cf x y < 0 → cf y z < 0 → cf x z < 0) → (∀ x y z, x ∈ X → y ∈ X → z ∈ X → ¬ cf x y < 0 → ¬ cf y z < 0 → ¬ cf x z < 0) →
  (∀ W : World, Fr [g] w W → ∀ x y, x ∈ X → y ∈ X → Calls Tryd.prog 19 (#[.int .i64 x, .int .i64 y] ++ cb) W fun e w' => e = .returned (.int .i64 (cf x y)) ∧ ∃ q, w' = W.drewN q) →
  (∀ i x, X[i]? = some x → w.cell? ⟨g, i, none⟩ = some (.int .i64 x) ∧ w.frozen? ⟨g, i, none⟩ = false) → X.length < 1000000000000 →
  Calls Tryd.prog 18 #[.slice (some ⟨g, 0, none⟩) X.length cap, .func (.func 19) #[] cb] w fun e w' =>
    e = .returned (.tuple #[]) ∧ ∃ X' : List Int, X'.Perm X ∧ X'.Pairwise (fun a b => ¬ cf b a < 0) ∧ (∀ i x, X'[i]? = some x → w'.cell? ⟨g, i, none⟩ = some (.int .i64 x) ∧ w'.frozen? ⟨g, i, none⟩ = false) ∧ Fr [g] w w'
def SortN : Prop := ∀ (p : Option Addr) (cap : Nat) (fv : Value) (w : World), Calls Tryd.prog 18 #[.slice p 0 cap, fv] w fun e w' => e = .returned (.tuple #[]) ∧ w = w'

/-- the row that a number above 0 tells. -/
def rowN (L : List (List ByteArray)) (a : Int) : List ByteArray := L.getD (a.toNat - 1) []
theorem rowN_at (L : List (List ByteArray)) (i : Nat) (h : i < L.length) : rowN L ((i : Int) + 1) = L[i] := by
  unfold rowN
  rw [show ((i : Int) + 1).toNat - 1 = i from by omega, List.getD_eq_getElem?_getD, List.getElem?_eq_getElem h]; rfl
theorem info3 : (Tryd.prog.info? 3).map (fun i => (i.zero, i.size, i.bytes)) = some (some (.int .i64 0), 1, 8) := by kernel_rfl

set_option maxRecDepth 100000 in
set_option maxHeartbeats 2000000 in
/-- the comparison of two numbers by their rows. -/
theorem cmp_q {W : World} {t : Nat} {most : Int} {L : List (List ByteArray)} {lv : Value} {mb : Nat} {vals : List Value} {rs : List Nat} (h : TB W t most L lv mb vals rs) (bx : Nat) (hbx : W.cell? ⟨bx, 0, none⟩ = some (.pointer (some ⟨t, 0, none⟩)))
    (i k : Nat) (hi : i < L.length) (hk : k < L.length) (hL : L.length ≤ 1000) (hrl : ∀ x, x ∈ L → x.length ≤ 1000) :
    Calls Tryd.prog 19 #[.int .i64 ((i : Int) + 1), .int .i64 ((k : Int) + 1), .pointer (some ⟨bx, 0, none⟩)] W fun e w' => e = .returned (.int .i64 (cmpL L[i] L[k])) ∧ ∃ q, w' = W.drewN q := by
  obtain ⟨g, c, rfl, hc, Ai, ki, hci, hki, hRi⟩ := h.cell i hi
  obtain ⟨g2, c2, e2, hc2, Ak, kk, hck, hkk, hRk⟩ := h.cell k hk
  obtain ⟨rfl, rfl⟩ : g = g2 ∧ c = c2 := by simpa using e2
  have c1 : W.cell? ⟨t, 1, none⟩ = some (.slice (some ⟨g, 0, none⟩) L.length c) := cellB h.blk 1
  have HRi := Lib.hid hRi; have HRk := Lib.hid hRk; have HKi := Lib.hid hki; have HKk := Lib.hid hkk
  have hli := hrl L[i] (List.getElem_mem hi)
  have hlk := hrl L[k] (List.getElem_mem hk)
  clear h hRi hRk hki hkk e2 hc2 hrl
  obtain ⟨xs, hxs⟩ : ∃ xs, Hid (xs = L[i]) := ⟨_, Lib.hid rfl⟩
  obtain ⟨ys, hys⟩ : ∃ ys, Hid (ys = L[k]) := ⟨_, Lib.hid rfl⟩
  rw [← hxs.out] at hci HRi HKi hli ⊢
  rw [← hys.out] at hck HRk HKk hlk ⊢
  obtain ⟨n, hn⟩ : ∃ n, Hid (n = L.length) := ⟨_, Lib.hid rfl⟩
  rw [← hn.out] at c1 hi hk hc hL
  have hii : (i : Int) < n := by omega
  have hkk : (k : Int) < n := by omega
  have h6 : IntKind.i64.wrap ((i : Int) + 1 - 1) = (i : Int) := by rw [show (i : Int) + 1 - 1 = i from by omega]; exact IntWalk.i64_in _ (by omega)
  have h7 : IntKind.i64.wrap ((k : Int) + 1 - 1) = (k : Int) := by rw [show (k : Int) + 1 - 1 = k from by omega]; exact IntWalk.i64_in _ (by omega)
  go_enter Tryd.func19, Tryd.ntmps19
  go_wp2_with fail
  go_quiet ((go_at_call 15; exact Calls.quiet_of ((series_Compare.calls _ Ai ki xs Ak kk ys (cmpL xs ys) _ (Kd.C_of_reads (HRi.out.drewN _)) HKi.out (Kd.C_of_reads (HRk.out.drewN _)) HKk.out (slc_f xs ys (by omega))).mono fun e w' ⟨he, hd⟩ => ⟨he, hd.out⟩)))
  go_wp2_with fail
  go_ret
  exact ⟨rfl, _, rfl⟩
end Go.Proofs.YtkmfgacfccgdcaaDoor.Sr
set_option linter.unusedVariables false
set_option linter.unusedSimpArgs false
namespace Go.Proofs.YtkmfgacfccgdcaaDoor.Sr
open Go.RowKit Go.Proofs.YtkmfgacfccgdcaaDoor.B0 Go.Proofs.YtkmfgacfccgdcaaDoor.Ps Go.Proofs.YtkmfgacfccgdcaaDoorW.PrintWords Go.Proofs.YtkmfgacfccgdcaaDoorW.PrintLast Go.Proofs.YtkmfgacfccgdcaaDoor.Bld

def upN (n : Nat) : List Int := (List.range n).map fun i : Nat => (i : Int) + 1
theorem upN_succ (n : Nat) : upN (n + 1) = upN n ++ [(n : Int) + 1] := by simp [upN, List.range_succ]
theorem upN_len (n : Nat) : (upN n).length = n := by simp [upN]
theorem upN_mem {n : Nat} {x : Int} (h : x ∈ upN n) : ∃ i, i < n ∧ x = (i : Int) + 1 := by
  simp only [upN, List.mem_map, List.mem_range] at h
  obtain ⟨i, h1, rfl⟩ := h
  exact ⟨i, h1, rfl⟩
theorem upN_nodup (n : Nat) : (upN n).Nodup := by
  unfold upN List.Nodup
  rw [List.pairwise_map]
  exact List.nodup_range.imp (fun h e => h (by omega))
def cfN (L : List (List ByteArray)) (a b : Int) : Int := cmpL (rowN L a) (rowN L b)
/-- the numbers of a table's rows in the rows' order. -/
def Ordered (L : List (List ByteArray)) (X : List Int) : Prop := X.Perm (upN L.length) ∧ X.Pairwise (fun a b => cfN L a b < 0)
theorem ordered_of {L : List (List ByteArray)} {X : List Int} (hn : L.Nodup) (hp : X.Perm (upN L.length)) (h : X.Pairwise (fun a b => ¬ cfN L b a < 0)) : Ordered L X := by
  refine ⟨hp, ?_⟩
  have hnd : X.Nodup := hp.nodup_iff.2 (upN_nodup _)
  have hmem : ∀ x, x ∈ X → ∃ i, i < L.length ∧ x = (i : Int) + 1 := fun x hx => upN_mem (hp.mem_iff.1 hx)
  have h2 := List.Pairwise.and h hnd
  refine List.Pairwise.imp_of_mem ?_ h2
  rintro a b ha hb ⟨h1, hne⟩
  obtain ⟨i, hi, rfl⟩ := hmem a ha
  obtain ⟨j, hj, rfl⟩ := hmem b hb
  unfold cfN at *
  rw [rowN_at L i hi, rowN_at L j hj] at *
  have e := cmpL_neg L[i] L[j]
  rcases Int.lt_trichotomy (cmpL L[i] L[j]) 0 with h3 | h3 | h3
  · exact h3
  · have := cmpL_eq.1 h3
    have := (List.getElem_inj hn).1 this
    exact absurd (by rw [this]) hne
  · exact absurd (by omega) h1

set_option maxRecDepth 100000 in
set_option maxHeartbeats 2000000 in
theorem Order_q (hS : SortC) (hN : SortN) {w : World} {t : Nat} {most : Int} {L : List (List ByteArray)} {fp : List Nat} (h : TA w t most L fp) (hL : L.length ≤ 1000) (hrl : ∀ x, x ∈ L → x.length ≤ 1000) :
    Calls Tryd.prog 13 #[.pointer (some ⟨t, 0, none⟩)] w fun e w' => ∃ A c X, e = .returned (.slice A X.length c) ∧ X.length ≤ c ∧ ReadsInt w' .i64 A X.length X ∧ Ordered L X ∧ Fr [] w w' := by
  have H := Lib.hid h; clear h
  have HRL := Lib.hid hrl; clear hrl
  go_enter Tryd.func13, Tryd.ntmps13
  go_wp2_with fail
  have hc := cellB (allocN w (.cells #[.pointer (some ⟨t, 0, none⟩)] 24)) 0
  refine (Len_q (H.out.fr ((Fr.refl [] w).alloc _) (by simp))).mono ?_
  rintro e w1 ⟨rfl, rfl⟩
  have hltf := Lib.hid H.out.lt
  generalize hgw : World.alloc w _ = w1
  have F1 : Hid (Fr [] w w1 ∧ w1.heap[w.heap.size]? = some (.cells #[.pointer (some ⟨t, 0, none⟩)] 24 (0, 0)) ∧ w1.heap.size = w.heap.size + 1) := by rw [← hgw]; exact ⟨(Fr.refl [] w).alloc _, allocN w _, size_alloc w _⟩
  clear hgw hc
  go_wp2_with fail
  go_loopw [7, 3] (fun iv ov wr => ∃ (k : Nat) (v : Value), iv = .int .i64 k ∧ v = ov ∧ k ≤ L.length ∧ Hid (Below w1.heap.size w1 wr ∧ wr.ownsRow w1.heap.size 3 1 v (upN k).length (nums .i64 (upN k)))) (fun iv _ _ => L.length - (intOf iv).toNat)
  case atStart => exact ⟨0, _, rfl, rfl, Nat.zero_le _, Below.refl _ _, World.ownsRow_nil _ _ _ _⟩
  case round =>
    obtain ⟨k, v, rfl, rfl, hk, HW⟩ := hrel
    by_cases hlt : k < L.length
    · have hki : (k : Int) < L.length := by omega
      obtain ⟨xs, hxs⟩ : ∃ xs, Hid (xs = upN k) := ⟨_, Lib.hid rfl⟩
      have hxl : xs.length ≤ 1000 := by rw [hxs.out, upN_len]; omega
      rw [← hxs.out] at HW
      go_wp2_with (at_builtin; go_loud (refine print_append_num (w0 := w1) w1.heap.size rfl _ _ 28 3 .i64 8 rfl Tryd.underlying28 info3 (by decide) v xs ((k : Int) + 1) rfl rfl HW.out.2 HW.out.1 HW.out.1.size (by omega) ?_))
      intro v4 w4 k1 k2 k3 k4
      have kk : w4.ownsRow w1.heap.size 3 1 v4 (xs ++ [(k : Int) + 1]).length (nums .i64 (xs ++ [(k : Int) + 1])) := by rw [List.length_append]; exact k1
      have S4 : Hid (Below w1.heap.size w1 w4 ∧ w4.ownsRow w1.heap.size 3 1 v4 (upN (k + 1)).length (nums .i64 (upN (k + 1)))) := ⟨k2, by rw [upN_succ, ← hxs.out]; exact kk⟩
      clear k1 k2 k3 k4 kk
      go_wp2_with fail
      go_roundw
      case rel => exact ⟨k + 1, v4, by go_num, rfl, by omega, S4⟩
      case measure => simp [intOf]; omega
    · obtain rfl : k = L.length := by omega
      obtain ⟨X0, hX0⟩ : ∃ X0, Hid (X0 = upN L.length) := ⟨_, Lib.hid rfl⟩
      have hXl : Hid (X0.length = L.length) := Lib.hid (by rw [hX0.out, upN_len])
      rw [← hX0.out] at HW
      have Fw : Hid (Fr [] w wr) := F1.out.1.trans (Fr.of_below HW.out.1 [] (Nat.le_refl _))
      have hbx : Hid (wr.heap[w.heap.size]? = some (.cells #[.pointer (some ⟨t, 0, none⟩)] 24 (0, 0))) := (HW.out.1.block _ (lt_of_get F1.out.2.1)).trans F1.out.2.1
      rcases HW.out.2.2 with ⟨hv, h0⟩ | ⟨g, cap, cur, hv, hg, hgg, hcap, hcm, hcs, hct⟩
      · subst hv
        have hX0e : X0 = [] := List.eq_nil_of_length_eq_zero h0
        go_wp2_with fail
        refine (hN none 0 _ _).mono ?_
        rintro e w5 ⟨rfl, rfl⟩
        go_wp2_with fail
        go_ret
        have hLe : L.length = 0 := by rw [← hXl.out]; exact h0
        exact ⟨none, 0, [], rfl, Nat.le_refl _, ReadsInt.nil _ _, ⟨by rw [hLe]; exact (show ([] : List Int).Perm [] from List.Perm.refl _), List.Pairwise.nil⟩, Fw.out⟩
      · subst hv
        by_cases hnz : X0.length = 0
        · have HNZ := Lib.hid hnz
          rw [hnz]
          clear hnz
          go_wp2_with fail
          refine (hN _ _ _ _).mono ?_
          rintro e w5 ⟨rfl, rfl⟩
          go_wp2_with fail
          go_ret
          have hLe : L.length = 0 := by rw [← hXl.out]; exact HNZ.out
          exact ⟨some ⟨g, 0, none⟩, cap, [], rfl, Nat.zero_le _, ⟨rfl, by simp, fun h => by simp at h⟩, ⟨by rw [hLe]; exact (show ([] : List Int).Perm [] from List.Perm.refl _), List.Pairwise.nil⟩, Fw.out⟩
        · have HG := Lib.hid hg; have HGG := Lib.hid hgg; have HCAP := Lib.hid hcap; have HCT := Lib.hid hct; have HCS := Lib.hid hcs; have HNZ := Lib.hid hnz
          clear hg hgg hcap hcm hcs hct hnz
          have hcon : Hid (Calls Tryd.prog 18 #[.slice (some ⟨g, 0, none⟩) X0.length cap, .func (.func 19) #[] #[.pointer (some ⟨w.heap.size, 0, none⟩)]] wr fun e w' =>
              e = .returned (.tuple #[]) ∧ ∃ X' : List Int, X'.Perm X0 ∧ X'.Pairwise (fun a b => ¬ cfN L b a < 0) ∧ (∀ i x, X'[i]? = some x → w'.cell? ⟨g, i, none⟩ = some (.int .i64 x) ∧ w'.frozen? ⟨g, i, none⟩ = false) ∧ Fr [g] wr w') := by
            refine hS (cfN L) X0 g cap _ wr (fun e => HNZ.out (by rw [e]; rfl)) (fun x _ => ?_) (fun x y z _ _ _ h1 h2 => ?_) (fun x y z _ _ _ h1 h2 => ?_) (fun W hW x y hx hy => ?_) (fun i x hix => ?_) (by rw [hXl.out]; omega)
            · unfold cfN; rw [cmpL_eq.2 rfl]; omega
            · exact cmpL_lt_trans h1 h2
            · unfold cfN at *
              have e1 := cmpL_neg (rowN L x) (rowN L y); have e2 := cmpL_neg (rowN L y) (rowN L z); have e3 := cmpL_neg (rowN L x) (rowN L z)
              have := cmpL_le_trans (a := rowN L z) (b := rowN L y) (c := rowN L x) (by omega) (by omega)
              omega
            · rw [hX0.out] at hx hy
              obtain ⟨i, hi, rfl⟩ := upN_mem hx
              obtain ⟨j, hj, rfl⟩ := upN_mem hy
              obtain ⟨lv, mb, vals, rs, hTB, hfp⟩ := H.out
              have hgs : w1.heap.size ≤ g := HG.out
              have hTB2 : TB W t most L lv mb vals rs := (hTB.fr Fw.out (by simp)).fr hW (fun k hk hh => by
                have hkg : k = g := by simpa using hh
                have := hltf.out k (by rw [hfp]; exact hk)
                have := F1.out.2.2; omega)
              have hb2 : W.cell? ⟨w.heap.size, 0, none⟩ = some (.pointer (some ⟨t, 0, none⟩)) := cellB (hW.get hbx.out (by simp; have := F1.out.2.2; omega)) 0
              have := cmp_q hTB2 w.heap.size hb2 i j hi hj hL HRL.out
              unfold cfN
              rw [rowN_at L i hi, rowN_at L j hj]
              exact this
            · obtain ⟨hi, hx⟩ := List.getElem?_eq_some_iff.1 hix
              refine ⟨?_, frozenB HGG.out i⟩
              rw [cellB HGG.out i]
              have e1 := congrArg (fun l => l[i]?) HCT.out
              simp only [Nat.mul_one] at e1
              rw [List.getElem?_take_of_lt hi] at e1
              rw [← Array.getElem?_toList, e1]
              simp [nums, hix]
          go_wp2_with fail
          refine hcon.out.mono ?_
          rintro e w5 ⟨rfl, X', hp, hpw, hrow, hF⟩
          have hXl' : Hid (X'.length = X0.length) := Lib.hid hp.length_eq
          have HP := Lib.hid hp; have HPW := Lib.hid hpw; have HROW := Lib.hid hrow; have HF := Lib.hid hF
          clear hp hpw hrow hF
          go_wp2_with fail
          go_ret
          refine ⟨some ⟨g, 0, none⟩, cap, X', by rw [hXl'.out]; rfl, by rw [hXl'.out]; exact HCAP.out, ⟨rfl, by have := hXl'.out; have := hXl.out; omega, fun _ => ⟨_, rfl, fun j hj => ?_⟩⟩, ordered_of ?_ (by rw [← hX0.out]; exact HP.out) (HPW.out.imp (fun h => by omega)), Fw.out.trans' HF.out (fun k hk => .inr ?_)⟩
          · have := (HROW.out j X'[j] (List.getElem?_eq_getElem hj)).1
            have e : (⟨g, 0, none⟩ : Addr).add j = ⟨g, j, none⟩ := by unfold Addr.add; split <;> simp_all
            rw [e, this, List.getD_eq_getElem?_getD, List.getElem?_eq_getElem hj]; rfl
          · obtain ⟨lv, mb, vals, rs, hTB, hfp⟩ := H.out
            exact hTB.nd
          · have : k = g := by simpa using hk
            have := HG.out; have := F1.out.2.2; omega
end Go.Proofs.YtkmfgacfccgdcaaDoor.Sr
set_option linter.unusedVariables false
set_option linter.unusedSimpArgs false
namespace Go.Proofs.YtkmfgacfccgdcaaDoor.Sr
open Go.RowKit Go.Proofs.YtkmfgacfccgdcaaDoor.B0 Go.Proofs.YtkmfgacfccgdcaaDoor.Ps Go.Proofs.YtkmfgacfccgdcaaDoorW.PrintWords Go.Proofs.YtkmfgacfccgdcaaDoorW.PrintLast Go.Proofs.YtkmfgacfccgdcaaDoor.Bld

theorem Same_r (w : World) (A0 : Option Addr) (c0 : Nat) (xs : List ByteArray) (A1 : Option Addr) (c1 : Nat) (ys : List ByteArray) (h0 : RS w A0 xs.length xs) (k0 : xs.length ≤ c0) (h1 : RS w A1 ys.length ys) (k1 : ys.length ≤ c1) (hl : xs.length ≤ 1000000) (b : Bool) (hb : decide (xs = ys) = b) :
    Calls Tryd.prog 9 #[.slice A0 xs.length c0, .slice A1 ys.length c1] w fun e w' => e = .returned (.bool b) ∧ ∃ m, w' = w.drewN m :=
  (tallyroomref20_Same.calls _ A0 c0 xs A1 c1 ys b w (Kd.C_of_reads h0) k0 (Kd.C_of_reads h1) k1 (by rw [same_f xs ys hl, hb])).mono fun e w' ⟨he, hd⟩ => ⟨he, hd.out⟩
theorem Cmp_r (w : World) (A0 : Option Addr) (c0 : Nat) (xs : List ByteArray) (A1 : Option Addr) (c1 : Nat) (ys : List ByteArray) (h0 : RS w A0 xs.length xs) (k0 : xs.length ≤ c0) (h1 : RS w A1 ys.length ys) (k1 : ys.length ≤ c1) (hl : xs.length ≤ 1000000) :
    Calls Tryd.prog 14 #[.slice A0 xs.length c0, .slice A1 ys.length c1] w fun e w' => e = .returned (.int .i64 (cmpL xs ys)) ∧ ∃ m, w' = w.drewN m :=
  (tallyroomref20_Compare.calls _ A0 c0 xs A1 c1 ys _ w (Kd.C_of_reads h0) k0 (Kd.C_of_reads h1) k1 (ref_f xs ys hl)).mono fun e w' ⟨he, hd⟩ => ⟨he, hd.out⟩

/-- a row of texts in memory below B. -/
def RowB (w : World) (B : Nat) (v : Value) (xs : List ByteArray) : Prop := ∃ A c, v = .slice A xs.length c ∧ xs.length ≤ c ∧ RS w A xs.length xs ∧ ∀ ad, A = some ad → 0 < xs.length → ad.block < B
theorem RowB.fr {w w' : World} {B : Nat} {v : Value} {xs : List ByteArray} {F : List Nat} (h : RowB w B v xs) (hf : Fr F w w') (hd : ∀ k, k ∈ F → B ≤ k) : RowB w' B v xs := by
  obtain ⟨A, c, h1, h2, h3, h4⟩ := h
  exact ⟨A, c, h1, h2, h3.fr hf (fun ad e h0 hh => by have := h4 ad e h0; have := hd _ hh; omega), h4⟩
/-- the reference's list of rows: its own row, from base on; the rows in memory below B. -/
def MR (w : World) (B base : Nat) (v : Value) (L : List (List ByteArray)) : Prop := ∃ vals, w.ownsRow base 29 1 v L.length vals ∧ ∀ i (h : i < L.length), ∃ u, vals[i]? = some u ∧ RowB w B u L[i]
theorem MR.fr {w w' : World} {B base : Nat} {v : Value} {L : List (List ByteArray)} {F : List Nat} (h : MR w B base v L) (hf : Fr F w w') (hd : ∀ k, k ∈ F → B ≤ k) (hv : ∀ g, v.ownBlock = some g → g ∉ F) : MR w' B base v L := by
  obtain ⟨vals, h1, h2⟩ := h
  refine ⟨vals, own_fr h1 hf hv, fun i hi => ?_⟩
  obtain ⟨u, h3, h4⟩ := h2 i hi
  exact ⟨u, h3, h4.fr hf hd⟩
theorem MR.cell {w : World} {B base : Nat} {A : Option Addr} {n c : Nat} {L : List (List ByteArray)} (h : MR w B base (.slice A n c) L) (i : Nat) (hi : i < L.length) :
    ∃ ad, A = some ad ∧ ∃ Ai ci, w.cell? (ad.add i) = some (.slice Ai L[i].length ci) ∧ L[i].length ≤ ci ∧ RS w Ai L[i].length L[i] := by
  obtain ⟨vals, h1, h2⟩ := h
  rcases h1.2 with ⟨e, h0⟩ | ⟨g, cap, cur, e, hb, hg, hc, hm, hs, ht⟩
  · omega
  · obtain ⟨u, h3, Ai, ci, rfl, h4, h5, _⟩ := h2 i hi
    obtain ⟨rfl, -, -⟩ : A = some ⟨g, 0, none⟩ ∧ True ∧ True := by simp only [Value.slice.injEq] at e; exact ⟨e.1, trivial, trivial⟩
    refine ⟨_, rfl, Ai, ci, ?_, h4, h5⟩
    have e2 : (⟨g, 0, none⟩ : Addr).add i = ⟨g, i, none⟩ := by unfold Addr.add; split <;> simp_all
    rw [e2, cellB hg i, ← h3, ← ht, List.getElem?_take_of_lt (by omega)]
    simp
theorem MR.form {w : World} {B base : Nat} {v : Value} {L : List (List ByteArray)} (h : MR w B base v L) : ∃ A c, v = .slice A L.length c ∧ L.length ≤ c := by
  obtain ⟨vals, h1, _⟩ := h
  exact own_form h1
theorem MR.lt {w : World} {B base : Nat} {v : Value} {L : List (List ByteArray)} (h : MR w B base v L) : ∀ g, v.ownBlock = some g → base ≤ g ∧ g < w.heap.size := by
  obtain ⟨vals, h1, _⟩ := h
  exact fun g e => World.ownsRow.lt h1 g e
theorem posL_first {L : List (List ByteArray)} {xs : List ByteArray} {k : Nat} (hk : k < L.length) (h : L[k] = xs) (hb : ∀ j (hj : j < L.length), j < k → L[j] ≠ xs) : posL L xs = some k := by
  induction L generalizing k with
  | nil => simp at hk
  | cons x L ih =>
    cases k with
    | zero => simp at h; simp [posL, h]
    | succ k =>
      have h0 := hb 0 (by simp) (by omega)
      simp at h0
      simp only [posL]
      rw [if_neg (fun e => h0 e.symm), ih (by simpa using hk) (by simpa using h) (fun j hj hjk => by have := hb (j + 1) (by simpa using hj) (by omega); simpa using this)]
      rfl
theorem app_one_b (W : World) (ty : TypeId) (base : Nat) (lv : Value) (n : Nat) (vals : List Value) (v : Value) (g : Nat) (HO : W.ownsRow base 29 1 lv n vals) (hg : W.heap[g]? = some (.cells #[v] 29 (0, 0))) (hv : v.oneCell' = true) (hn : n ≤ 100000) (hb : base ≤ W.heap.size) :
    ∃ v' w', (Builtin.append_ #[22, 22] ty #[lv, .slice (some ⟨g, 0, none⟩) 1 1]).run Tryd.prog W = .ok v' w' ∧ w'.ownsRow base 29 1 v' (n + 1) (vals ++ [v]) ∧ W.grownBy w' lv.ownBlock ∧ (v'.ownBlock = lv.ownBlock ∨ v'.ownBlock = some W.heap.size) := by
  obtain ⟨i0, hi, hz0, hz1, hz2⟩ := info_parts info29
  obtain ⟨v1, w1, hr, h2, h3, _, h5⟩ := run_append_own_at (P := Tryd.prog) W base 22 ty 29 i0 (.slice none 0 0) 1 24 Tryd.underlying22 hi hz0 hz1 hz2 rfl (by omega) lv n vals HO ⟨g, 0, none⟩ 1 1 [v] (by simp)
    (by
      intro j u hu
      match j, hu with
      | 0, hu =>
        simp at hu; subst hu
        have := cellB hg 0
        simpa [Addr.add] using this)
    (by intro u hu; simp at hu; subst hu; exact hv) (by simp only [maxLen]; omega) (by omega) hb
  exact ⟨v1, w1, hr, h2, h3, h5⟩

set_option maxRecDepth 100000 in
set_option maxHeartbeats 4000000 in
theorem ROf_q {w : World} {B base : Nat} {v : Value} {L : List (List ByteArray)} (h : MR w B base v L) (hBb : B ≤ base) (hbs : base ≤ w.heap.size) (A : Option Addr) (c : Nat) (xs : List ByteArray) (hx : RowB w B (.slice A xs.length c) xs) (most : Int) (hL : L.length ≤ 1000) (hxl : xs.length ≤ 1000) (hrl : ∀ x, x ∈ L → x.length ≤ 1000) :
    Calls Tryd.prog 12 #[v, .slice A xs.length c, .int .i64 most] w fun e w' => ∃ v', e = .returned (.tuple #[v', .int .i64 (ofN most L xs)]) ∧ MR w' B base v' (ofL most L xs) ∧ Fr v.ownBlock.toList w w' ∧ (v'.ownBlock = v.ownBlock ∨ ∃ g, v'.ownBlock = some g ∧ w.heap.size ≤ g) := by
  obtain ⟨Am, cm, rfl, hcm⟩ := h.form
  have H := Lib.hid h; clear h
  have HX := Lib.hid hx; clear hx
  have HCM := Lib.hid hcm; clear hcm
  have HBB := Lib.hid hBb; clear hBb
  have HBS := Lib.hid hbs; clear hbs
  go_enter Tryd.func12, Tryd.ntmps12
  go_wp2_with fail
  go_loopw [8] (fun iv wr => ∃ k : Nat, iv = .int .i64 k ∧ k ≤ L.length ∧ Hid ((∃ n, wr = w.drewN n) ∧ ∀ j (hj : j < L.length), j < k → L[j] ≠ xs)) (fun iv _ => L.length - (intOf iv).toNat)
  case atStart => exact ⟨0, rfl, Nat.zero_le _, ⟨0, rfl⟩, fun j hj h => absurd h (Nat.not_lt_zero j)⟩
  case round =>
    obtain ⟨k, rfl, hk, HW⟩ := hrel
    have FW : Hid (Fr [] w wr) := by obtain ⟨⟨n, hn⟩, _⟩ := HW.out; rw [hn]; exact (Fr.refl [] w).drewN n
    have HM : Hid (MR wr B base (.slice Am L.length cm) L) := H.out.fr FW.out (by simp) (by simp)
    have HXr : Hid (RowB wr B (.slice A xs.length c) xs) := HX.out.fr FW.out (by simp)
    by_cases hlt : k < L.length
    · have hki : (k : Int) < L.length := by omega
      obtain ⟨ad, rfl, Ai, ci, hcell, hci, hRi⟩ := HM.out.cell k hlt
      obtain ⟨A', c', e, hkx, hRx, _⟩ := HXr.out
      obtain ⟨rfl, rfl⟩ : A = A' ∧ c = c' := by simpa using e
      have hyl := hrl L[k] (List.getElem_mem hlt)
      obtain ⟨ys, hys⟩ : ∃ ys, Hid (ys = L[k]) := ⟨_, Lib.hid rfl⟩
      rw [← hys.out] at hcell hci hRi hyl
      have HRI := Lib.hid hRi; have HRX := Lib.hid hRx; have HCI := Lib.hid hci; have HKX := Lib.hid hkx
      clear hRi hRx hci hkx e
      cases hb : decide (ys = xs) with
      | true =>
        have HBd := Lib.hid hb; clear hb
        have hpos : Hid (posL L xs = some k) := Lib.hid (posL_first hlt (by rw [← hys.out]; simpa using HBd.out) HW.out.2)
        have eN : Hid (ofN most L xs = (k : Int) + 1) := by show _ = _; unfold ofN; rw [hpos.out]
        have eL : Hid (ofL most L xs = L) := by show _ = _; unfold ofL; rw [hpos.out]
        go_wp2_with fail
        refine (Same_r wr Ai ci ys A c xs HRI.out HCI.out HRX.out HKX.out (by omega) true HBd.out).mono ?_
        rintro e w5 ⟨rfl, m, rfl⟩
        go_wp2_with fail
        go_ret2
        refine ⟨.slice (some ad) L.length cm, by rw [eN.out]; rfl, by rw [eL.out]; exact HM.out.fr ((Fr.refl [] wr).drewN m) (by simp) (by simp), (FW.out.mono (by simp)).drewN m, .inl rfl⟩
      | false =>
        have HBd := Lib.hid hb; clear hb
        go_wp2_with fail
        refine (Same_r wr Ai ci ys A c xs HRI.out HCI.out HRX.out HKX.out (by omega) false HBd.out).mono ?_
        rintro e w5 ⟨rfl, m, rfl⟩
        go_wp2_with fail
        go_roundw
        case rel =>
          refine ⟨k + 1, by go_num, by omega, ?_, fun j hj hjk => ?_⟩
          · obtain ⟨⟨n, hn⟩, _⟩ := HW.out
            exact ⟨n + m, by rw [hn, World.drewN_drewN]⟩
          · by_cases e : j < k
            · exact HW.out.2 j hj e
            · obtain rfl : j = k := by omega
              rw [← hys.out]; simpa using HBd.out
        case measure => simp [intOf]; omega
    · obtain rfl : k = L.length := by omega
      have hpos : Hid (posL L xs = none) := Lib.hid (posL_none.2 (fun hm => by
        obtain ⟨i, hi, e⟩ := List.mem_iff_getElem.1 hm
        exact HW.out.2 i hi hi e))
      by_cases hf : most ≤ L.length
      · have eN : Hid (ofN most L xs = 0) := by show _ = _; unfold ofN; rw [hpos.out]; exact if_pos hf
        have eL : Hid (ofL most L xs = L) := by show _ = _; unfold ofL; rw [hpos.out]; exact if_pos hf
        have hd : decide (most ≤ (L.length : Int)) = true := by simpa using hf
        go_wp2_with fail
        go_ret2
        refine ⟨.slice Am L.length cm, by rw [eN.out]; rfl, by rw [eL.out]; exact HM.out, FW.out.mono (by simp), .inl rfl⟩
      · have eN : Hid (ofN most L xs = (L.length : Int) + 1) := by show _ = _; unfold ofN; rw [hpos.out]; exact if_neg hf
        have eL : Hid (ofL most L xs = L ++ [xs]) := by show _ = _; unfold ofL; rw [hpos.out]; exact if_neg hf
        have hd : decide (most ≤ (L.length : Int)) = false := by simpa using hf
        obtain ⟨vals, ho, hrows⟩ := HM.out
        have hvl : vals.length = L.length := by have := ho.1; simpa using this
        have HO : Hid (wr.ownsRow base 29 1 (.slice Am L.length cm) vals.length vals) := Lib.hid (by rw [hvl]; exact ho)
        have HVL := Lib.hid hvl; have HROWS := Lib.hid hrows
        have hvl2 : vals.length ≤ 1000 := by omega
        clear ho hvl hrows
        go_wp2_with (at_builtin; go_loud (refine print_append (w0 := wr) base rfl _ _ 22 29 (.slice none 0 0) 24 rfl Tryd.underlying22 info29 rfl (by decide) (.slice Am L.length cm) vals (.slice A xs.length c) rfl rfl rfl HO.out (Below.refl _ _) (Nat.le_trans HBS.out FW.out.size) (by omega) ?_))
        intro v4 w4 k1 k2 k3 k4
        have K1 : Hid (w4.ownsRow base 29 1 v4 (vals ++ [Value.slice A xs.length c]).length (vals ++ [Value.slice A xs.length c])) := Lib.hid (by rw [List.length_append]; exact k1)
        have K3 : Hid (wr.grownBy w4 (Value.slice Am L.length cm).ownBlock) := k3
        have K4 := Lib.hid k4
        clear k1 k2 k3 k4
        go_wp2_with fail
        go_ret2
        have FG : Hid (Fr (Value.slice Am L.length cm).ownBlock.toList wr w4) := Fr.grown (Fr.refl _ _) K3.out (fun g e => .inl (by rw [e]; simp))
        have hlt := HM.out.lt
        refine ⟨v4, by rw [eN.out]; rfl, ?_, (FW.out.mono (by simp)).trans FG.out, ?_⟩
        · rw [eL.out]
          refine ⟨vals ++ [.slice A xs.length c], ?_, fun i hi => ?_⟩
          · have := K1.out
            rw [List.length_append, HVL.out] at this
            rw [List.length_append]; exact this
          · rw [List.length_append, List.length_singleton] at hi
            have hB : ∀ k, k ∈ (Value.slice Am L.length cm).ownBlock.toList → B ≤ k := fun k hk => by
              simp only [Option.mem_toList] at hk
              have := (hlt k hk).1; have := HBB.out; omega
            by_cases hil : i < L.length
            · obtain ⟨u, h1, h2⟩ := HROWS.out i hil
              refine ⟨u, by rw [List.getElem?_append_left (by rw [HVL.out]; exact hil)]; exact h1, ?_⟩
              rw [List.getElem_append_left hil]
              exact h2.fr FG.out hB
            · obtain rfl : i = L.length := by omega
              refine ⟨.slice A xs.length c, by rw [← HVL.out]; simp, ?_⟩
              rw [List.getElem_append_right (Nat.le_refl _)]
              simp only [Nat.sub_self, List.getElem_cons_zero]
              exact HXr.out.fr FG.out hB
        · rcases K4.out with h | ⟨b, h1, h2⟩
          · exact .inl h
          · exact .inr ⟨b, h1, Nat.le_trans FW.out.size h2⟩
end Go.Proofs.YtkmfgacfccgdcaaDoor.Sr
set_option linter.unusedVariables false
set_option linter.unusedSimpArgs false
namespace Go.Proofs.YtkmfgacfccgdcaaDoor.Sr
open Go.RowKit Go.Proofs.YtkmfgacfccgdcaaDoor.B0 Go.Proofs.YtkmfgacfccgdcaaDoor.Ps Go.Proofs.YtkmfgacfccgdcaaDoorW.PrintWords

theorem sorted_eq {α : Type} {lt : α → α → Prop} (hirr : ∀ a, ¬ lt a a) (htr : ∀ a b c, lt a b → lt b c → lt a c) : ∀ (X Y : List α), X.Pairwise lt → Y.Pairwise lt → (∀ a, a ∈ X ↔ a ∈ Y) → X = Y
  | [], [], _, _, _ => rfl
  | [], y :: Y, _, _, h => by have := (h y).2 (by simp); simp at this
  | x :: X, [], _, _, h => by have := (h x).1 (by simp); simp at this
  | x :: X, y :: Y, hX, hY, h => by
    rw [List.pairwise_cons] at hX hY
    have hxy : x = y := by
      have h1 := (h x).1 (by simp)
      have h2 := (h y).2 (by simp)
      rcases List.mem_cons.1 h1 with e | e
      · exact e
      · rcases List.mem_cons.1 h2 with e2 | e2
        · exact e2.symm
        · exact absurd (htr _ _ _ (hX.1 y e2) (hY.1 x e)) (hirr x)
    subst hxy
    congr 1
    refine sorted_eq hirr htr X Y hX.2 hY.2 (fun a => ?_)
    constructor
    · intro ha
      rcases List.mem_cons.1 ((h a).1 (List.mem_cons_of_mem _ ha)) with e | e
      · subst e; exact absurd (hX.1 a ha) (hirr a)
      · exact e
    · intro ha
      rcases List.mem_cons.1 ((h a).2 (List.mem_cons_of_mem _ ha)) with e | e
      · subst e; exact absurd (hY.1 a ha) (hirr a)
      · exact e
theorem ordered_rows {L : List (List ByteArray)} {X : List Int} (h : Ordered L X) : (X.map (rowN L)).Pairwise (fun a b => cmpL a b < 0) ∧ ∀ y, y ∈ X.map (rowN L) ↔ y ∈ L := by
  refine ⟨by rw [List.pairwise_map]; exact h.2, fun y => ?_⟩
  rw [List.mem_map]
  constructor
  · rintro ⟨a, ha, rfl⟩
    obtain ⟨i, hi, rfl⟩ := upN_mem (h.1.mem_iff.1 ha)
    rw [rowN_at L i hi]; exact List.getElem_mem hi
  · intro hy
    obtain ⟨i, hi, rfl⟩ := List.mem_iff_getElem.1 hy
    refine ⟨(i : Int) + 1, h.1.mem_iff.2 ?_, rowN_at L i hi⟩
    simp only [upN, List.mem_map, List.mem_range]
    exact ⟨i, hi, rfl⟩
theorem ordered_same {L M : List (List ByteArray)} {X Y : List Int} (hX : Ordered L X) (hY : Ordered M Y) (h : ∀ y, y ∈ L ↔ y ∈ M) : X.map (rowN L) = Y.map (rowN M) := by
  obtain ⟨h1, h2⟩ := ordered_rows hX
  obtain ⟨h3, h4⟩ := ordered_rows hY
  refine sorted_eq (lt := fun a b => cmpL a b < 0) (fun a => by rw [cmpL_eq.2 rfl]; omega) (fun a b c => cmpL_lt_trans) _ _ h1 h3 (fun a => ?_)
  rw [h2, h4, h]
theorem mem_ofL {L : List (List ByteArray)} {x y : List ByteArray} (hL : (L.length : Int) < 100) : y ∈ ofL 100 L x ↔ y ∈ L ∨ y = x := by
  rcases ofL_cases 100 L x with ⟨i, hp, _, e⟩ | ⟨_, hm, _, _⟩ | ⟨_, _, _, e⟩
  · rw [e]
    constructor
    · exact .inl
    · rintro (h | rfl)
      · exact h
      · exact List.mem_of_getElem? (posL_some hp)
  · omega
  · rw [e, List.mem_append, List.mem_singleton]
def ofS (L : List (List ByteArray)) (x : List ByteArray) : List (List ByteArray) := if x.length ≤ 16 then ofL 100 L x else L
/-- L holds what P told up to k, but for what is too long. -/
def InS (L : List (List ByteArray)) (P : Nat → List ByteArray) (k : Nat) : Prop := L.length ≤ k ∧ ∀ y, y ∈ L ↔ ∃ i, i < k ∧ P i = y ∧ y.length ≤ 16
theorem InS.nil (P : Nat → List ByteArray) : InS [] P 0 := ⟨Nat.le_refl _, fun y => by simp⟩
theorem InS.step {L : List (List ByteArray)} {P : Nat → List ByteArray} {k : Nat} (h : InS L P k) (hk : k < 100) : InS (ofS L (P k)) P (k + 1) := by
  obtain ⟨h1, h2⟩ := h
  have ext : ∀ y, (∃ i, i < k + 1 ∧ P i = y ∧ y.length ≤ 16) ↔ (∃ i, i < k ∧ P i = y ∧ y.length ≤ 16) ∨ (P k = y ∧ y.length ≤ 16) := by
    intro y
    constructor
    · rintro ⟨i, hi, e, hl⟩
      by_cases hik : i = k
      · subst hik; exact .inr ⟨e, hl⟩
      · exact .inl ⟨i, by omega, e, hl⟩
    · rintro (⟨i, hi, e, hl⟩ | ⟨e, hl⟩)
      · exact ⟨i, by omega, e, hl⟩
      · exact ⟨k, by omega, e, hl⟩
  unfold ofS
  split
  · rename_i hs
    refine ⟨?_, fun y => ?_⟩
    · rcases ofL_cases 100 L (P k) with ⟨_, _, _, e⟩ | ⟨_, _, _, e⟩ | ⟨_, _, _, e⟩
      · rw [e]; omega
      · rw [e]; omega
      · rw [e]; simp; omega
    · rw [mem_ofL (by omega), ext, h2]
      constructor
      · rintro (h | rfl)
        · exact .inl h
        · exact .inr ⟨rfl, hs⟩
      · rintro (h | ⟨h, _⟩)
        · exact .inl h
        · exact .inr h.symm
  · rename_i hs
    refine ⟨by omega, fun y => ?_⟩
    rw [ext, h2]
    constructor
    · exact .inl
    · rintro (h | ⟨rfl, h⟩)
      · exact h
      · exact absurd h hs
theorem InS.short {L : List (List ByteArray)} {P : Nat → List ByteArray} {k : Nat} (h : InS L P k) : ∀ x, x ∈ L → x.length ≤ 16 := fun x hx => by obtain ⟨i, _, _, h3⟩ := (h.2 x).1 hx; exact h3
def turn (n b i : Nat) : Nat := (n - 1 - i + b) % n
theorem turn_lt {n b i : Nat} (h : i < n) : turn n b i < n := Nat.mod_lt _ (by omega)
theorem turn_turn {n b j : Nat} (h : j < n) : turn n b (turn n b j) = j := by
  unfold turn
  have h1 : (n - 1 - j + b) % n < n := Nat.mod_lt _ (by omega)
  have h2 := Nat.div_add_mod (n - 1 - j + b) n
  generalize hm : (n - 1 - j + b) % n = m at *
  generalize hq : (n - 1 - j + b) / n = q at *
  -- n - 1 - m + b = j + n * q
  have h3 : n - 1 - m + b = j + n * q := by omega
  rw [h3, Nat.add_mul_mod_self_left, Nat.mod_eq_of_lt h]
theorem InS.same {L M : List (List ByteArray)} {l : List (List ByteArray)} {b : Nat} (h : InS L (fun i => l.getD i []) l.length) (k : InS M (fun i => l.getD (turn l.length b i) []) l.length) : ∀ y, y ∈ L ↔ y ∈ M := by
  intro y
  rw [h.2, k.2]
  constructor
  · rintro ⟨i, hi, e, hl⟩
    exact ⟨turn l.length b i, turn_lt hi, by simp only [turn_turn hi]; exact e, hl⟩
  · rintro ⟨i, hi, e, hl⟩
    exact ⟨turn l.length b i, turn_lt hi, e, hl⟩
end Go.Proofs.YtkmfgacfccgdcaaDoor.Sr
set_option linter.unusedVariables false
set_option linter.unusedSimpArgs false
namespace Go.Proofs.YtkmfgacfccgdcaaDoor.Sr
open Go.RowKit Go.Proofs.YtkmfgacfccgdcaaDoor.B0 Go.Proofs.YtkmfgacfccgdcaaDoor.Ps Go.Proofs.YtkmfgacfccgdcaaDoorW.PrintWords Go.Proofs.YtkmfgacfccgdcaaDoorW.PrintLast Go.Proofs.YtkmfgacfccgdcaaDoor.Bld

set_option maxHeartbeats 1000000 in
theorem Of_nil (A : Option Addr) (n c : Nat) (w : World) : Calls Tryd.prog 8 #[.pointer none, .slice A n c] w fun e w' => e = .returned (.tuple #[.int .i64 0, .int .i64 3]) ∧ w = w' := by
  go_enter Tryd.func8, Tryd.ntmps8
  go_wp2_with fail
  go_ret2
  exact ⟨rfl, rfl⟩
set_option maxHeartbeats 1000000 in
theorem Labels_nil (w : World) : Calls Tryd.prog 10 #[.pointer none, .int .i64 0] w fun e w' => e = .returned (.tuple #[.slice none 0 0, .bool false]) ∧ w = w' := by
  go_enter Tryd.func10, Tryd.ntmps10
  go_wp2_with fail
  go_ret2
  exact ⟨rfl, rfl⟩
set_option maxHeartbeats 1000000 in
theorem Len_nil (w : World) : Calls Tryd.prog 11 #[.pointer none] w fun e w' => e = .returned (.int .i64 0) ∧ w = w' := by
  go_enter Tryd.func11, Tryd.ntmps11
  go_wp2_with fail
  go_ret
  exact ⟨rfl, rfl⟩
set_option maxHeartbeats 1000000 in
theorem Order_nil (hN : SortN) (w : World) : Calls Tryd.prog 13 #[.pointer none] w fun e w' => e = .returned (.slice none 0 0) ∧ Below w.heap.size w w' := by
  go_enter Tryd.func13, Tryd.ntmps13
  go_wp2_with fail
  refine (Len_nil _).mono ?_
  rintro e w1 ⟨rfl, rfl⟩
  go_wp2_with fail
  go_loopw [7, 3] (fun iv ov wr => iv = .int .i64 0 ∧ ov = .slice none 0 0 ∧ Hid (Below w.heap.size w wr)) (fun iv _ _ => 0)
  case atStart => exact ⟨rfl, rfl, (Below.refl _ _).alloc (Nat.le_refl _) _⟩
  case round =>
    obtain ⟨rfl, rfl, HW⟩ := hrel
    go_wp2_with fail
    refine (hN none 0 _ _).mono ?_
    rintro e w2 ⟨rfl, rfl⟩
    go_wp2_with fail
    go_ret
    exact ⟨rfl, HW.out⟩
theorem SCmp_r (w : World) (A0 : Option Addr) (c0 : Nat) (xs : List ByteArray) (A1 : Option Addr) (c1 : Nat) (ys : List ByteArray) (h0 : RS w A0 xs.length xs) (k0 : xs.length ≤ c0) (h1 : RS w A1 ys.length ys) (k1 : ys.length ≤ c1) (hl : xs.length ≤ 1000000) :
    Calls Tryd.prog 15 #[.slice A0 xs.length c0, .slice A1 ys.length c1] w fun e w' => e = .returned (.int .i64 (cmpL xs ys)) ∧ ∃ m, w' = w.drewN m :=
  (series_Compare.calls _ A0 c0 xs A1 c1 ys _ w (Kd.C_of_reads h0) k0 (Kd.C_of_reads h1) k1 (slc_f xs ys hl)).mono fun e w' ⟨he, hd⟩ => ⟨he, hd.out⟩
set_option maxHeartbeats 1000000 in
theorem Of_long {w : World} {t : Nat} {most : Int} {L : List (List ByteArray)} {fp : List Nat} (h : TA w t most L fp) (A : Option Addr) (n c : Nat) (hn : 16 < n) :
    Calls Tryd.prog 8 #[.pointer (some ⟨t, 0, none⟩), .slice A n c] w fun e w' => e = .returned (.tuple #[.int .i64 0, .int .i64 2]) ∧ w = w' := by
  have hni : (16 : Int) < n := by omega
  clear h
  go_enter Tryd.func8, Tryd.ntmps8
  go_wp2_with fail
  go_ret2
  exact ⟨rfl, rfl⟩
/-- Of, whatever the row's length, at a table of a hundred: its answer is not looked at. -/
theorem Of_any {w : World} {t : Nat} {L : List (List ByteArray)} {fp : List Nat} (h : TA w t 100 L fp) (A : Option Addr) (c : Nat) (xs : List ByteArray) (hr : RS w A xs.length xs) (hb : tot xs ≤ 1048576) (ht : tabP w) (hL : L.length ≤ 1000) :
    Calls Tryd.prog 8 #[.pointer (some ⟨t, 0, none⟩), .slice A xs.length c] w fun e w' => (∃ n f, e = .returned (.tuple #[.int .i64 n, .int .i64 f])) ∧ ∃ fp', TA w' t 100 (ofS L xs) fp' ∧ Fr fp w w' ∧ (∀ k, k ∈ fp' → k ∈ fp ∨ w.heap.size ≤ k) := by
  unfold ofS
  by_cases hx : xs.length ≤ 16
  · rw [if_pos hx]
    exact (Of_q h A c xs hr hx hb ht hL).mono fun e w' ⟨he, hh⟩ => ⟨⟨_, _, he⟩, hh⟩
  · rw [if_neg hx]
    exact (Of_long h A xs.length c (by omega)).mono fun e w' ⟨he, hw⟩ => ⟨⟨_, _, he⟩, fp, hw ▸ h, hw ▸ (Fr.refl _ _), fun k hk => .inl hk⟩
/-- letters, and texts. -/
def tot1 (xs : List ByteArray) : Nat := (xs.map fun s => s.size + 1).sum
theorem tot_le1 : ∀ xs : List ByteArray, tot xs + xs.length ≤ tot1 xs
  | [] => by simp [tot, tot1]
  | x :: xs => by have := tot_le1 xs; simp [tot, tot1] at this ⊢; omega
theorem sum_le1 : ∀ l : List (List ByteArray), (l.map tot).sum ≤ (l.map tot1).sum
  | [] => by simp
  | x :: l => by have := sum_le1 l; have := tot_le1 x; simp at *; omega
end Go.Proofs.YtkmfgacfccgdcaaDoor.Sr
