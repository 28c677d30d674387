/- forest: value.Compare and what it calls, as Calls. forest: value.Compare, span.Compare, as Calls. forest: slices.CompareFunc of attributes, span.Compare, as Calls. forest: span.Compare, as a Call; its order. -/
import Derived.Test.YtamcchdblglfoaaMgForestKeeps3
import Derived.Test.YtamcchdblglfoaaMgForestKeeps4
import Derived.Test.YtamcchdblglfoaaMgForestKeeps1
import Derived.Test.YtamcchdblglfoaaMgForestKeeps5
import Derived.Test.YtamcchdblglfoaaWTab
import Derived.Deep.QuietTactic
import Derived.BigQuiet
import Derived.WalkLawsBesides
import Derived.WalkSpells
set_option linter.unusedVariables false
set_option linter.unusedSimpArgs false
namespace Go.Proofs.Ytamcchdblglfoaa.Ft
open Go.RowKit Go.Proofs.Ytamcchdblglfoaa.B0 Go.Proofs.Ytamcchdblglfoaa.Pf Go.Proofs.YtamcchdblglfoaaW.PrintWords Go.Proofs.YtamcchdblglfoaaW.PrintLast Go.Proofs.Ytamcchdblglfoaa.By

/-- what lay ahead lies; the draws go on. -/
structure DB (w w' : World) : Prop where
  below : Below w.heap.size w w'
  dr : w.drawn ≤ w'.drawn
theorem DB.refl (w : World) : DB w w := ⟨Below.refl _ _, Nat.le_refl _⟩
theorem DB.trans {a b c : World} (h : DB a b) (k : DB b c) : DB a c := ⟨h.below.trans (k.below.mono h.below.size), Nat.le_trans h.dr k.dr⟩
theorem DB.alloc {a b : World} (h : DB a b) (o : Obj) : DB a (b.alloc o) := ⟨h.below.alloc h.below.size _, h.dr⟩
theorem DB.drewN {a b : World} (h : DB a b) (n : Nat) : DB a (b.drewN n) := ⟨pw_below_drewN h.below n, Nat.le_trans h.dr (Nat.le_add_right _ _)⟩
theorem DB.of_drawn {a b : World} (h : Drawn0 a b) : DB a b := by
  obtain ⟨n, rfl⟩ := h.out
  exact (DB.refl a).drewN n
theorem cmpI_f (a b : Int) : cmp_Compare_int.f a b = some (cI a b) := by
  unfold cmp_Compare_int.f cmp_isNaN_int.f cI
  simp only [Option.bind_some, bne_self_eq_false, Bool.false_eq_true, if_false]
  split
  · rfl
  · split <;> rfl
theorem cmpU_f (a b : Int) : cmp_Compare_uint64.f a b = some (cI a b) := by
  unfold cmp_Compare_uint64.f cmp_isNaN_uint64.f cI
  simp only [Option.bind_some, bne_self_eq_false, Bool.false_eq_true, if_false]
  split
  · rfl
  · split <;> rfl
theorem CmpI_c (a b : Int) (w : World) : Calls Try.prog 58 #[.int .i64 a, .int .i64 b] w fun e w' => e = .returned (.int .i64 (cI a b)) ∧ DB w w' :=
  (cmp_Compare_int.calls a b _ w (cmpI_f a b)).mono fun e w' h => ⟨h.1, DB.of_drawn h.2⟩
theorem CmpU_c (a b : Int) (w : World) : Calls Try.prog 56 #[.int .u64 a, .int .u64 b] w fun e w' => e = .returned (.int .i64 (cI a b)) ∧ DB w w' :=
  (cmp_Compare_uint64.calls a b _ w (cmpU_f a b)).mono fun e w' h => ⟨h.1, DB.of_drawn h.2⟩
theorem CmpS_c (a b : ByteArray) (w : World) : Calls Try.prog 57 #[.string a, .string b] w fun e w' => e = .returned (.int .i64 (cB a b)) ∧ DB w w' :=
  (Try.strings_Compare a b w).mono fun e w' h => ⟨h.1, by rw [h.2]; exact DB.refl _⟩

def orL : List Int → Int
  | [] => 0
  | x :: l => orI x (orL l)
theorem rd_at (l : List Int) (i : Nat) (x : Int) (r : List Int) (h : l.drop i = x :: r) : rd l (i : Int) = x := by
  unfold rd
  rw [Int.toNat_natCast]
  have : l[i]? = some x := by have := congrArg List.head? h; rw [List.head?_drop] at this; exact this
  rw [List.getD_eq_getElem?_getD, this]; rfl
theorem or_l (l : List Int) (hl : l.length ≤ 1000) : ∀ (r : List Int) (i : Nat), l.drop i = r → ∃ k, cmp_Or_int.l0 k 0 l (l.length : Int) (i : Int) = some (orL r) := by
  intro r
  induction r with
  | nil =>
    intro i h
    refine ⟨1, ?_⟩
    have : l.length ≤ i := List.drop_eq_nil_iff.1 h
    simp only [cmp_Or_int.l0]
    rw [if_neg (by omega)]
    rfl
  | cons y r ih =>
    intro i h
    have hi : i < l.length := by
      rcases Nat.lt_or_ge i l.length with hh | hh
      · exact hh
      · rw [List.drop_eq_nil_iff.2 hh] at h; cases h
    have hd : l.drop (i + 1) = r := by
      rw [← List.drop_drop, h]; rfl
    obtain ⟨k, hk⟩ := ih (i + 1) hd
    refine ⟨k + 1, ?_⟩
    have e1 : wrap64 ((i : Int) + 1) = ((i + 1 : Nat) : Int) := by unfold wrap64; omega
    have e2 := rd_at l i y r h
    simp only [cmp_Or_int.l0, orL, orI]
    simp only [e1, e2]
    have hz : (0 : Int) ≤ (i : Int) := by omega
    have hlt : (i : Int) < (l.length : Int) := by omega
    rw [show ((i + 1 : Nat) : Int) = (i : Int) + 1 from rfl] at hk
    by_cases hy : y = 0
    · subst hy
      simp [hz, hlt, hi, hk]
    · simp [hz, hlt, hi, hy]
theorem Or_c (A : Option Addr) (c : Nat) (l : List Int) (w : World) (h : Kd.C (Kd.int .i64) w A l.length l) (hc : l.length ≤ c) (hl : l.length ≤ 1000) :
    Calls Try.prog 55 #[.slice A l.length c] w fun e w' => e = .returned (.int .i64 (orL l)) ∧ DB w w' := by
  obtain ⟨k, hk⟩ := or_l l hl l 0 rfl
  exact (cmp_Or_int.calls k A c l _ w h hc hk).mono fun e w' h => ⟨h.1, DB.of_drawn h.2⟩
theorem lit_C (W : World) (t : Nat) (l : List Int) (n : Nat) (hn : l.length = n) (cs : Array Value) (hcs : cs = (l.map fun x => Value.int .i64 x).toArray) (hl : l.length ≤ 1000) : Kd.C (Kd.int .i64) (W.alloc (.cells cs t)) (some ⟨W.heap.size, 0, none⟩) n l := by
  subst hn hcs
  have h1 := own_lit W 0 t .i64 l (Nat.zero_le _) (by omega)
  have h2 : (Kd.int .i64).R t (W.alloc (.cells (nums .i64 l).toArray t)) 0 (fun _ => True) (.slice (some ⟨W.heap.size, 0, none⟩) l.length l.length) l := Kd.R_of_own h1 (fun _ _ => trivial)
  obtain ⟨A, c, e1, _, hC⟩ := Kd.R_reads h2
  obtain ⟨rfl, _, _⟩ := Value.slice.inj e1
  exact hC

set_option maxHeartbeats 4000000 in
set_option maxRecDepth 100000 in
theorem isNaN_s (x : ByteArray) (w : World) : Calls Try.prog 99 #[.string x] w fun e w' => e = .returned (.bool false) ∧ w = w' := by
  go_enter Try.func99, Try.ntmps99
  go_wp2_with fail
  go_ret
  exact ⟨rfl, rfl⟩
set_option maxHeartbeats 4000000 in
set_option maxRecDepth 100000 in
theorem isNaN_l (x : Int) (w : World) : Calls Try.prog 98 #[.int .i64 x] w fun e w' => e = .returned (.bool false) ∧ w = w' := by
  go_enter Try.func98, Try.ntmps98
  go_wp2_with fail
  go_ret
  exact ⟨rfl, rfl⟩
set_option maxHeartbeats 4000000 in
set_option maxRecDepth 100000 in
theorem CmpL_c (a b : Int) (w : World) : Calls Try.prog 83 #[.int .i64 a, .int .i64 b] w fun e w' => e = .returned (.int .i64 (cI a b)) ∧ DB w w' := by
  obtain ⟨r, hr⟩ : ∃ r, Hid (cI a b = r) := ⟨_, Lib.hid rfl⟩
  rw [hr.out]
  by_cases h1 : a < b
  · have hr1 : r = -1 := by rw [← hr.out]; simp [cI, h1]
    subst hr1
    have f1 : decide (a < b) = true := decide_eq_true h1
    go_enter Try.func83, Try.ntmps83
    go_wp2_with (first | (go_at_call 98; refine (isNaN_l a _).mono ?_; rintro e w' ⟨rfl, rfl⟩) | (go_at_call 98; refine (isNaN_l b _).mono ?_; rintro e w' ⟨rfl, rfl⟩))
    go_ret
    exact ⟨rfl, DB.refl _⟩
  · have f1 : decide (a < b) = false := decide_eq_false h1
    by_cases h2 : b < a
    · have hr1 : r = 1 := by rw [← hr.out]; simp [cI, h1, h2]
      subst hr1
      have f2 : decide (b < a) = true := decide_eq_true h2
      go_enter Try.func83, Try.ntmps83
      go_wp2_with (first | (go_at_call 98; refine (isNaN_l a _).mono ?_; rintro e w' ⟨rfl, rfl⟩) | (go_at_call 98; refine (isNaN_l b _).mono ?_; rintro e w' ⟨rfl, rfl⟩))
      go_ret
      exact ⟨rfl, DB.refl _⟩
    · have hr1 : r = 0 := by rw [← hr.out]; simp [cI, h1, h2]
      subst hr1
      have f2 : decide (b < a) = false := decide_eq_false h2
      go_enter Try.func83, Try.ntmps83
      go_wp2_with (first | (go_at_call 98; refine (isNaN_l a _).mono ?_; rintro e w' ⟨rfl, rfl⟩) | (go_at_call 98; refine (isNaN_l b _).mono ?_; rintro e w' ⟨rfl, rfl⟩))
      go_ret
      exact ⟨rfl, DB.refl _⟩
theorem cB_less (a b : ByteArray) : cB a b = if Op.bytesLess a.toList b.toList = true then -1 else if Op.bytesLess b.toList a.toList = true then 1 else 0 := by
  unfold cB
  rw [ByteArray.toList_eq, ByteArray.toList_eq]
  generalize a.data.toList = x
  generalize b.data.toList = y
  induction x generalizing y with
  | nil => cases y <;> simp [Lib.compareBytes, Op.bytesLess]
  | cons u x ih =>
    cases y with
    | nil => simp [Lib.compareBytes, Op.bytesLess]
    | cons v y =>
      rw [Lib.compareBytes, ih y]
      simp only [Op.bytesLess]
      by_cases h1 : u < v
      · simp [h1]
      · by_cases h2 : v < u
        · have : u ≠ v := fun e => by subst e; exact absurd h2 (UInt8.lt_irrefl _)
          simp [h1, h2, this]
        · have : u = v := UInt8.le_antisymm (UInt8.not_lt.1 h2) (UInt8.not_lt.1 h1)
          subst this
          simp [h1]
set_option maxHeartbeats 4000000 in
set_option maxRecDepth 100000 in
theorem CmpB_c (a b : ByteArray) (w : World) : Calls Try.prog 84 #[.string a, .string b] w fun e w' => e = .returned (.int .i64 (cB a b)) ∧ DB w w' := by
  obtain ⟨r, hr⟩ : ∃ r, Hid (cB a b = r) := ⟨_, Lib.hid rfl⟩
  have hc := cB_less a b
  rw [hr.out] at hc ⊢
  cases h1 : Op.bytesLess a.toList b.toList with
  | true =>
    have hr1 : r = -1 := by rw [hc]; simp [h1]
    subst hr1
    clear hc
    go_enter Try.func84, Try.ntmps84
    go_wp2_with (first | (go_at_call 99; refine (isNaN_s a _).mono ?_; rintro e w' ⟨rfl, rfl⟩) | (go_at_call 99; refine (isNaN_s b _).mono ?_; rintro e w' ⟨rfl, rfl⟩))
    go_ret
    exact ⟨rfl, DB.refl _⟩
  | false =>
    cases h2 : Op.bytesLess b.toList a.toList with
    | true =>
      have hr1 : r = 1 := by rw [hc]; simp [h1, h2]
      subst hr1
      clear hc
      have h3 : (a.toList == b.toList) = false := beq_of_less h2
      go_enter Try.func84, Try.ntmps84
      go_wp2_with (first | (go_at_call 99; refine (isNaN_s a _).mono ?_; rintro e w' ⟨rfl, rfl⟩) | (go_at_call 99; refine (isNaN_s b _).mono ?_; rintro e w' ⟨rfl, rfl⟩))
      go_ret
      exact ⟨rfl, DB.refl _⟩
    | false =>
      have hr1 : r = 0 := by rw [hc]; simp [h1, h2]
      subst hr1
      clear hc
      have h3 : (a.toList == b.toList) = true := by rw [bl_total h1 h2]; simp
      go_enter Try.func84, Try.ntmps84
      go_wp2_with (first | (go_at_call 99; refine (isNaN_s a _).mono ?_; rintro e w' ⟨rfl, rfl⟩) | (go_at_call 99; refine (isNaN_s b _).mono ?_; rintro e w' ⟨rfl, rfl⟩))
      go_ret
      exact ⟨rfl, DB.refl _⟩
end Go.Proofs.Ytamcchdblglfoaa.Ft
set_option linter.unusedVariables false
set_option linter.unusedSimpArgs false
namespace Go.Proofs.Ytamcchdblglfoaa.Ft
open Go.RowKit Go.Proofs.Ytamcchdblglfoaa.B0 Go.Proofs.Ytamcchdblglfoaa.Pf Go.Proofs.YtamcchdblglfoaaW.PrintWords Go.Proofs.YtamcchdblglfoaaW.PrintLast Go.Proofs.Ytamcchdblglfoaa.By

abbrev Va := S121
abbrev At := S123
abbrev Sp := S44
def cmpV (x y : Va) : Int := orI (cI x.f0 y.f0) (orI (cI x.f1 y.f1) (cB x.f2 y.f2))
def cmpA (x y : At) : Int := orI (cB x.f0 y.f0) (cmpV x.f1 y.f1)
theorem orL3 (a b c : Int) : orL [a, b, c] = orI a (orI b c) := by simp only [orL, orI_r0]
theorem orL2 (a b : Int) : orL [a, b] = orI a b := by simp only [orL, orI_r0]
def T61_1 : Bool × List (List Nat × List Nat) := (true, [([], []), ([0], [0]), ([], []), ([2], [2]), ([1, 3], [1, 3]), ([], []), ([5], [5]), ([], []), ([7], [7]), ([6, 8, 4], [6, 8]), ([], []), ([10], [10]), ([], []), ([12], [12]), ([11, 13, 9], [11, 13]), ([4, 9, 14], [4, 9, 14]), ([15, 14], [15]), ([16, 16, 0, 1, 2, 3, 4, 5, 6, 7, 8, 9, 10, 11, 12, 13, 14, 15, 16], [16])])
def B61_1 : List Nat := [0, 1, 0, 4, 15, 0, 32, 0, 128, 511, 0, 1024, 0, 4096, 16383, 32767, 65535, 131071]
theorem tab61_1 : rtab .any (opsOf Try.f61 1) = T61_1 := by kernel_rfl
theorem bits61_1 : waitsOk T61_1.2 B61_1 = true := by kernel_rfl
def T60_1 : Bool × List (List Nat × List Nat) := (true, [([], []), ([0], [0]), ([], []), ([2], [2]), ([1, 3], [1, 3]), ([], []), ([5], [5]), ([], []), ([7], [7]), ([6, 8, 4], [6, 8]), ([4, 9], [4, 9]), ([10, 9], [10]), ([11, 11, 0, 1, 2, 3, 4, 5, 6, 7, 8, 9, 10, 11], [11])])
def B60_1 : List Nat := [0, 1, 0, 4, 15, 0, 32, 0, 128, 511, 1023, 2047, 4095]
theorem tab60_1 : rtab .any (opsOf Try.f60 1) = T60_1 := by kernel_rfl
theorem bits60_1 : waitsOk T60_1.2 B60_1 = true := by kernel_rfl
set_option maxHeartbeats 4000000 in
set_option maxRecDepth 100000 in
theorem VCmp_c (x y : Va) (w : World) :
    Calls Try.prog 61 #[.agg #[.int .i64 x.f0, .int .i64 x.f1, .string x.f2], .agg #[.int .i64 y.f0, .int .i64 y.f1, .string y.f2]] w fun e w' => e = .returned (.int .i64 (cmpV x y)) ∧ DB w w' := by
  obtain ⟨x0, x1, x2⟩ := x
  obtain ⟨y0, y1, y2⟩ := y
  obtain ⟨w1, hw1⟩ : ∃ w1, Hid ((w.alloc (.cells #[.int .i64 x0, .int .i64 x1, .string x2] 121)).alloc (.cells #[.int .i64 y0, .int .i64 y1, .string y2] 121) = w1) := ⟨_, Lib.hid rfl⟩
  obtain ⟨R, hR⟩ : ∃ R, Hid (w.heap.size = R) := ⟨_, Lib.hid rfl⟩
  have HB : Hid (DB w w1) := by rw [← hw1.out]; exact ((DB.refl _).alloc _).alloc _
  have h2 : w1.heap[R + 1]? = some (.cells #[.int .i64 y0, .int .i64 y1, .string y2] 121 (0, 0)) := by
    rw [← hw1.out, ← hR.out]
    have := allocN (w.alloc (.cells #[.int .i64 x0, .int .i64 x1, .string x2] 121)) (.cells #[.int .i64 y0, .int .i64 y1, .string y2] 121)
    rw [size_alloc] at this; exact this
  have h1 : w1.heap[R]? = some (.cells #[.int .i64 x0, .int .i64 x1, .string x2] 121 (0, 0)) := by
    rw [← hw1.out, ← hR.out]; exact (allocO _ _ (by simp)).trans (allocN _ _)
  have EC : Hid (∀ w', Below w1.heap.size w1 w' → w'.cell? ⟨R, 0, none⟩ = some (.int .i64 x0) ∧ w'.cell? ⟨R, 1, none⟩ = some (.int .i64 x1) ∧ w'.cell? ⟨R, 2, none⟩ = some (.string x2) ∧ w'.cell? ⟨R + 1, 0, none⟩ = some (.int .i64 y0) ∧ w'.cell? ⟨R + 1, 1, none⟩ = some (.int .i64 y1) ∧ w'.cell? ⟨R + 1, 2, none⟩ = some (.string y2)) := fun w' h =>
    ⟨pw_cell_below h (by rw [cellB h1]; rfl), pw_cell_below h (by rw [cellB h1]; rfl), pw_cell_below h (by rw [cellB h1]; rfl), pw_cell_below h (by rw [cellB h2]; rfl), pw_cell_below h (by rw [cellB h2]; rfl), pw_cell_below h (by rw [cellB h2]; rfl)⟩
  clear h1 h2
  go_enter Try.func61, Try.ntmps61
  go_upto_region 1 with fail
  rw [hw1.out, hR.out]
  refine start_ (n := 18) (S := (fun w' => DB w1 w')) (ds := []) #[false, false, false, false, false, false, false, false, false, false, false, false, false, false, false, false, false, false] (by kernel_rfl) (by rfl) (by rfl) ((DB.refl w1).drewN 1) (fun hHeld => ?_); refine with_tabW tab61_1 bits61_1 (fun HT_ HW_ => ?_)
  refine pure_ (i := 0) (N := some 5) (v := ?_) (a' := ?_) #[true, false, false, false, false, false, false, false, false, false, false, false, false, false, false, false, false, false] rfl rfl (any_of HT_.out (by kernel_rfl)) (fun _ _ _ h => h) (Or.inl ⟨by rfl, ?_⟩) ?_ ?_
  rotate_left
  · intro w'
    go_simp
    with_reducible rfl
  rotate_left
  · simp only [Act.put, List.setIfInBounds_toArray, List.set_cons_zero, List.set_cons_succ]
    rfl
  refine take_ (i := 1) (N := some 6) (v := ?_) (a' := ?_) #[true, true, false, false, false, false, false, false, false, false, false, false, false, false, false, false, false, false] rfl rfl (take_ofW HT_.out HW_.out (by kernel_rfl)) (fun _ _ _ h => h) (Or.inl ⟨by rfl, ?_⟩) hHeld ?_ ?_
  rotate_left
  · rintro w' hS; obtain ⟨s1, s2, s3, s4, s5, s6⟩ := EC.out w' hS.below
    go_simp
    with_reducible rfl
  rotate_left
  · simp only [Act.put, List.setIfInBounds_toArray, List.set_cons_zero, List.set_cons_succ]
    rfl
  refine pure_ (i := 2) (N := some 7) (v := ?_) (a' := ?_) #[true, true, true, false, false, false, false, false, false, false, false, false, false, false, false, false, false, false] rfl rfl (any_of HT_.out (by kernel_rfl)) (fun _ _ _ h => h) (Or.inl ⟨by rfl, ?_⟩) ?_ ?_
  rotate_left
  · intro w'
    go_simp
    with_reducible rfl
  rotate_left
  · simp only [Act.put, List.setIfInBounds_toArray, List.set_cons_zero, List.set_cons_succ]
    rfl
  refine take_ (i := 3) (N := some 8) (v := ?_) (a' := ?_) #[true, true, true, true, false, false, false, false, false, false, false, false, false, false, false, false, false, false] rfl rfl (take_ofW HT_.out HW_.out (by kernel_rfl)) (fun _ _ _ h => h) (Or.inl ⟨by rfl, ?_⟩) hHeld ?_ ?_
  rotate_left
  · rintro w' hS; obtain ⟨s1, s2, s3, s4, s5, s6⟩ := EC.out w' hS.below
    go_simp
    with_reducible rfl
  rotate_left
  · simp only [Act.put, List.setIfInBounds_toArray, List.set_cons_zero, List.set_cons_succ]
    rfl
  refine pure_ (i := 5) (N := some 10) (v := ?_) (a' := ?_) #[true, true, true, true, false, true, false, false, false, false, false, false, false, false, false, false, false, false] rfl rfl (any_of HT_.out (by kernel_rfl)) (fun _ _ _ h => h) (Or.inl ⟨by rfl, ?_⟩) ?_ ?_
  rotate_left
  · intro w'
    go_simp
    with_reducible rfl
  rotate_left
  · simp only [Act.put, List.setIfInBounds_toArray, List.set_cons_zero, List.set_cons_succ]
    rfl
  refine take_ (i := 6) (N := some 11) (v := ?_) (a' := ?_) #[true, true, true, true, false, true, true, false, false, false, false, false, false, false, false, false, false, false] rfl rfl (take_ofW HT_.out HW_.out (by kernel_rfl)) (fun _ _ _ h => h) (Or.inl ⟨by rfl, ?_⟩) hHeld ?_ ?_
  rotate_left
  · rintro w' hS; obtain ⟨s1, s2, s3, s4, s5, s6⟩ := EC.out w' hS.below
    go_simp
    with_reducible rfl
  rotate_left
  · simp only [Act.put, List.setIfInBounds_toArray, List.set_cons_zero, List.set_cons_succ]
    rfl
  refine pure_ (i := 7) (N := some 12) (v := ?_) (a' := ?_) #[true, true, true, true, false, true, true, true, false, false, false, false, false, false, false, false, false, false] rfl rfl (any_of HT_.out (by kernel_rfl)) (fun _ _ _ h => h) (Or.inl ⟨by rfl, ?_⟩) ?_ ?_
  rotate_left
  · intro w'
    go_simp
    with_reducible rfl
  rotate_left
  · simp only [Act.put, List.setIfInBounds_toArray, List.set_cons_zero, List.set_cons_succ]
    rfl
  refine take_ (i := 8) (N := some 13) (v := ?_) (a' := ?_) #[true, true, true, true, false, true, true, true, true, false, false, false, false, false, false, false, false, false] rfl rfl (take_ofW HT_.out HW_.out (by kernel_rfl)) (fun _ _ _ h => h) (Or.inl ⟨by rfl, ?_⟩) hHeld ?_ ?_
  rotate_left
  · rintro w' hS; obtain ⟨s1, s2, s3, s4, s5, s6⟩ := EC.out w' hS.below
    go_simp
    with_reducible rfl
  rotate_left
  · simp only [Act.put, List.setIfInBounds_toArray, List.set_cons_zero, List.set_cons_succ]
    rfl
  refine pure_ (i := 10) (N := some 15) (v := ?_) (a' := ?_) #[true, true, true, true, false, true, true, true, true, false, true, false, false, false, false, false, false, false] rfl rfl (any_of HT_.out (by kernel_rfl)) (fun _ _ _ h => h) (Or.inl ⟨by rfl, ?_⟩) ?_ ?_
  rotate_left
  · intro w'
    go_simp
    with_reducible rfl
  rotate_left
  · simp only [Act.put, List.setIfInBounds_toArray, List.set_cons_zero, List.set_cons_succ]
    rfl
  refine take_ (i := 11) (N := some 16) (v := ?_) (a' := ?_) #[true, true, true, true, false, true, true, true, true, false, true, true, false, false, false, false, false, false] rfl rfl (take_ofW HT_.out HW_.out (by kernel_rfl)) (fun _ _ _ h => h) (Or.inl ⟨by rfl, ?_⟩) hHeld ?_ ?_
  rotate_left
  · rintro w' hS; obtain ⟨s1, s2, s3, s4, s5, s6⟩ := EC.out w' hS.below
    go_simp
    with_reducible rfl
  rotate_left
  · simp only [Act.put, List.setIfInBounds_toArray, List.set_cons_zero, List.set_cons_succ]
    rfl
  refine pure_ (i := 12) (N := some 17) (v := ?_) (a' := ?_) #[true, true, true, true, false, true, true, true, true, false, true, true, true, false, false, false, false, false] rfl rfl (any_of HT_.out (by kernel_rfl)) (fun _ _ _ h => h) (Or.inl ⟨by rfl, ?_⟩) ?_ ?_
  rotate_left
  · intro w'
    go_simp
    with_reducible rfl
  rotate_left
  · simp only [Act.put, List.setIfInBounds_toArray, List.set_cons_zero, List.set_cons_succ]
    rfl
  refine take_ (i := 13) (N := some 18) (v := ?_) (a' := ?_) #[true, true, true, true, false, true, true, true, true, false, true, true, true, true, false, false, false, false] rfl rfl (take_ofW HT_.out HW_.out (by kernel_rfl)) (fun _ _ _ h => h) (Or.inl ⟨by rfl, ?_⟩) hHeld ?_ ?_
  rotate_left
  · rintro w' hS; obtain ⟨s1, s2, s3, s4, s5, s6⟩ := EC.out w' hS.below
    go_simp
    with_reducible rfl
  rotate_left
  · simp only [Act.put, List.setIfInBounds_toArray, List.set_cons_zero, List.set_cons_succ]
    rfl
  refine one_ (i := 4) (N := some 9) #[true, true, true, true, true, true, true, true, true, false, true, true, true, true, false, false, false, false] rfl rfl (one_of HT_.out (by kernel_rfl)) (by decide) (fun K hK => ?_)
  rw [if_pos (by rfl)]
  go_simp
  go_at_call 58; refine (CmpI_c _ _ _).mono ?_; rintro e w5 ⟨rfl, hb⟩
  refine hK.out _ _ (hHeld.trans hb) (fun hHeld => ?_)
  clear hK K
  refine one_ (i := 9) (N := some 14) #[true, true, true, true, true, true, true, true, true, true, true, true, true, true, false, false, false, false] rfl rfl (one_of HT_.out (by kernel_rfl)) (by decide) (fun K hK => ?_)
  rw [if_pos (by rfl)]
  go_simp
  go_at_call 83; refine (CmpL_c _ _ _).mono ?_; rintro e w6 ⟨rfl, hb⟩
  refine hK.out _ _ (hHeld.trans hb) (fun hHeld => ?_)
  clear hK K
  refine one_ (i := 14) (N := some 19) #[true, true, true, true, true, true, true, true, true, true, true, true, true, true, true, false, false, false] rfl rfl (one_of HT_.out (by kernel_rfl)) (by decide) (fun K hK => ?_)
  rw [if_pos (by rfl)]
  go_simp
  go_at_call 84; refine (CmpB_c _ _ _).mono ?_; rintro e w7 ⟨rfl, hb⟩
  refine hK.out _ _ (hHeld.trans hb) (fun hHeld => ?_)
  clear hK K
  refine one_ (i := 15) (N := some 20) #[true, true, true, true, true, true, true, true, true, true, true, true, true, true, true, true, false, false] rfl rfl (one_of HT_.out (by kernel_rfl)) (by decide) (fun K hK => ?_)
  rw [if_pos (by rfl)]
  go_simp
  refine hK.out _ _ (hHeld.alloc _) (fun hHeld => ?_)
  clear hK K
  refine one_ (i := 16) (N := some 21) #[true, true, true, true, true, true, true, true, true, true, true, true, true, true, true, true, true, false] rfl rfl (one_of HT_.out (by kernel_rfl)) (by decide) (fun K hK => ?_)
  rw [if_pos (by rfl)]
  go_simp
  go_at_call 55; refine (Or_c (some ⟨w7.heap.size, 0, none⟩) 3 [cI x0 y0, cI x1 y1, cB x2 y2] _ (lit_C w7 3 _ 3 rfl _ rfl (by simp)) (by simp) (by simp)).mono ?_; rintro e w8 ⟨rfl, hb⟩; have HB8 : Hid (DB w1 w8) := hHeld.trans hb
  refine hK.out _ _ HB8.out (fun hHeld => ?_)
  clear hK K
  refine pure_ (i := 17) (N := some 4) (v := ?_) (a' := ?_) #[true, true, true, true, true, true, true, true, true, true, true, true, true, true, true, true, true, true] rfl rfl (any_of HT_.out (by kernel_rfl)) (fun _ _ _ h => h) (Or.inl ⟨by rfl, ?_⟩) ?_ ?_
  rotate_left
  · intro w'
    go_simp
    with_reducible rfl
  rotate_left
  · simp only [Act.put, List.setIfInBounds_toArray, List.set_cons_zero, List.set_cons_succ]
    rfl
  refine done_ (done_of HT_.out (by kernel_rfl)) ?_
  clear HT_ HW_ hHeld
  go_wp2_with fail
  go_ret
  exact ⟨by rw [orL3]; rfl, HB.out.trans HB8.out⟩
set_option maxHeartbeats 4000000 in
set_option maxRecDepth 100000 in
theorem ACmp_c (x y : At) (w : World) :
    Calls Try.prog 60 #[.agg #[.string x.f0, .int .i64 x.f1.f0, .int .i64 x.f1.f1, .string x.f1.f2], .agg #[.string y.f0, .int .i64 y.f1.f0, .int .i64 y.f1.f1, .string y.f1.f2]] w fun e w' => e = .returned (.int .i64 (cmpA x y)) ∧ DB w w' := by
  obtain ⟨xk, xv⟩ := x
  obtain ⟨yk, yv⟩ := y
  obtain ⟨x0, x1, x2⟩ := xv
  obtain ⟨y0, y1, y2⟩ := yv
  obtain ⟨w1, hw1⟩ : ∃ w1, Hid ((w.alloc (.cells #[.string xk, .int .i64 x0, .int .i64 x1, .string x2] 123)).alloc (.cells #[.string yk, .int .i64 y0, .int .i64 y1, .string y2] 123) = w1) := ⟨_, Lib.hid rfl⟩
  obtain ⟨R, hR⟩ : ∃ R, Hid (w.heap.size = R) := ⟨_, Lib.hid rfl⟩
  have HB : Hid (DB w w1) := by rw [← hw1.out]; exact ((DB.refl _).alloc _).alloc _
  have h2 : w1.heap[R + 1]? = some (.cells #[.string yk, .int .i64 y0, .int .i64 y1, .string y2] 123 (0, 0)) := by
    rw [← hw1.out, ← hR.out]
    have := allocN (w.alloc (.cells #[.string xk, .int .i64 x0, .int .i64 x1, .string x2] 123)) (.cells #[.string yk, .int .i64 y0, .int .i64 y1, .string y2] 123)
    rw [size_alloc] at this; exact this
  have h1 : w1.heap[R]? = some (.cells #[.string xk, .int .i64 x0, .int .i64 x1, .string x2] 123 (0, 0)) := by
    rw [← hw1.out, ← hR.out]; exact (allocO _ _ (by simp)).trans (allocN _ _)
  have EC : Hid (∀ w', Below w1.heap.size w1 w' → w'.cell? ⟨R, 0, none⟩ = some (.string xk) ∧ w'.cell? ⟨R, 1, none⟩ = some (.int .i64 x0) ∧ w'.cell? ⟨R, 2, none⟩ = some (.int .i64 x1) ∧ w'.cell? ⟨R, 3, none⟩ = some (.string x2) ∧ w'.cell? ⟨R + 1, 0, none⟩ = some (.string yk) ∧ w'.cell? ⟨R + 1, 1, none⟩ = some (.int .i64 y0) ∧ w'.cell? ⟨R + 1, 2, none⟩ = some (.int .i64 y1) ∧ w'.cell? ⟨R + 1, 3, none⟩ = some (.string y2)) := fun w' h =>
    ⟨pw_cell_below h (by rw [cellB h1]; rfl), pw_cell_below h (by rw [cellB h1]; rfl), pw_cell_below h (by rw [cellB h1]; rfl), pw_cell_below h (by rw [cellB h1]; rfl), pw_cell_below h (by rw [cellB h2]; rfl), pw_cell_below h (by rw [cellB h2]; rfl), pw_cell_below h (by rw [cellB h2]; rfl), pw_cell_below h (by rw [cellB h2]; rfl)⟩
  clear h1 h2
  go_enter Try.func60, Try.ntmps60
  go_upto_region 1 with fail
  rw [hw1.out, hR.out]
  refine start_ (n := 13) (S := (fun w' => DB w1 w')) (ds := []) #[false, false, false, false, false, false, false, false, false, false, false, false, false] (by kernel_rfl) (by rfl) (by rfl) ((DB.refl w1).drewN 1) (fun hHeld => ?_); refine with_tabW tab60_1 bits60_1 (fun HT_ HW_ => ?_)
  refine pure_ (i := 0) (N := some 5) (v := ?_) (a' := ?_) #[true, false, false, false, false, false, false, false, false, false, false, false, false] rfl rfl (any_of HT_.out (by kernel_rfl)) (fun _ _ _ h => h) (Or.inl ⟨by rfl, ?_⟩) ?_ ?_
  rotate_left
  · intro w'
    go_simp
    with_reducible rfl
  rotate_left
  · simp only [Act.put, List.setIfInBounds_toArray, List.set_cons_zero, List.set_cons_succ]
    rfl
  refine take_ (i := 1) (N := some 6) (v := ?_) (a' := ?_) #[true, true, false, false, false, false, false, false, false, false, false, false, false] rfl rfl (take_ofW HT_.out HW_.out (by kernel_rfl)) (fun _ _ _ h => h) (Or.inl ⟨by rfl, ?_⟩) hHeld ?_ ?_
  rotate_left
  · rintro w' hS; obtain ⟨s1, s2, s3, s4, s5, s6, s7, s8⟩ := EC.out w' hS.below
    go_simp
    with_reducible rfl
  rotate_left
  · simp only [Act.put, List.setIfInBounds_toArray, List.set_cons_zero, List.set_cons_succ]
    rfl
  refine pure_ (i := 2) (N := some 7) (v := ?_) (a' := ?_) #[true, true, true, false, false, false, false, false, false, false, false, false, false] rfl rfl (any_of HT_.out (by kernel_rfl)) (fun _ _ _ h => h) (Or.inl ⟨by rfl, ?_⟩) ?_ ?_
  rotate_left
  · intro w'
    go_simp
    with_reducible rfl
  rotate_left
  · simp only [Act.put, List.setIfInBounds_toArray, List.set_cons_zero, List.set_cons_succ]
    rfl
  refine take_ (i := 3) (N := some 8) (v := ?_) (a' := ?_) #[true, true, true, true, false, false, false, false, false, false, false, false, false] rfl rfl (take_ofW HT_.out HW_.out (by kernel_rfl)) (fun _ _ _ h => h) (Or.inl ⟨by rfl, ?_⟩) hHeld ?_ ?_
  rotate_left
  · rintro w' hS; obtain ⟨s1, s2, s3, s4, s5, s6, s7, s8⟩ := EC.out w' hS.below
    go_simp
    with_reducible rfl
  rotate_left
  · simp only [Act.put, List.setIfInBounds_toArray, List.set_cons_zero, List.set_cons_succ]
    rfl
  refine pure_ (i := 5) (N := some 10) (v := ?_) (a' := ?_) #[true, true, true, true, false, true, false, false, false, false, false, false, false] rfl rfl (any_of HT_.out (by kernel_rfl)) (fun _ _ _ h => h) (Or.inl ⟨by rfl, ?_⟩) ?_ ?_
  rotate_left
  · intro w'
    go_simp
    with_reducible rfl
  rotate_left
  · simp only [Act.put, List.setIfInBounds_toArray, List.set_cons_zero, List.set_cons_succ]
    rfl
  refine take_ (i := 6) (N := some 11) (v := ?_) (a' := ?_) #[true, true, true, true, false, true, true, false, false, false, false, false, false] rfl rfl (take_ofW HT_.out HW_.out (by kernel_rfl)) (fun _ _ _ h => h) (Or.inl ⟨by rfl, ?_⟩) hHeld ?_ ?_
  rotate_left
  · rintro w' hS; obtain ⟨s1, s2, s3, s4, s5, s6, s7, s8⟩ := EC.out w' hS.below
    go_simp
    with_reducible rfl
  rotate_left
  · simp only [Act.put, List.setIfInBounds_toArray, List.set_cons_zero, List.set_cons_succ]
    rfl
  refine pure_ (i := 7) (N := some 12) (v := ?_) (a' := ?_) #[true, true, true, true, false, true, true, true, false, false, false, false, false] rfl rfl (any_of HT_.out (by kernel_rfl)) (fun _ _ _ h => h) (Or.inl ⟨by rfl, ?_⟩) ?_ ?_
  rotate_left
  · intro w'
    go_simp
    with_reducible rfl
  rotate_left
  · simp only [Act.put, List.setIfInBounds_toArray, List.set_cons_zero, List.set_cons_succ]
    rfl
  refine take_ (i := 8) (N := some 13) (v := ?_) (a' := ?_) #[true, true, true, true, false, true, true, true, true, false, false, false, false] rfl rfl (take_ofW HT_.out HW_.out (by kernel_rfl)) (fun _ _ _ h => h) (Or.inl ⟨by rfl, ?_⟩) hHeld ?_ ?_
  rotate_left
  · rintro w' hS; obtain ⟨s1, s2, s3, s4, s5, s6, s7, s8⟩ := EC.out w' hS.below
    go_simp
    with_reducible rfl
  rotate_left
  · simp only [Act.put, List.setIfInBounds_toArray, List.set_cons_zero, List.set_cons_succ]
    rfl
  refine one_ (i := 4) (N := some 9) #[true, true, true, true, true, true, true, true, true, false, false, false, false] rfl rfl (one_of HT_.out (by kernel_rfl)) (by decide) (fun K hK => ?_)
  rw [if_pos (by rfl)]
  go_simp
  go_at_call 57; refine (CmpS_c _ _ _).mono ?_; rintro e w5 ⟨rfl, hb⟩
  refine hK.out _ _ (hHeld.trans hb) (fun hHeld => ?_)
  clear hK K
  refine one_ (i := 9) (N := some 14) #[true, true, true, true, true, true, true, true, true, true, false, false, false] rfl rfl (one_of HT_.out (by kernel_rfl)) (by decide) (fun K hK => ?_)
  rw [if_pos (by rfl)]
  go_simp
  go_at_call 61; refine (VCmp_c ⟨x0, x1, x2⟩ ⟨y0, y1, y2⟩ _).mono ?_; rintro e w7 ⟨rfl, hb⟩
  refine hK.out _ _ (hHeld.trans hb) (fun hHeld => ?_)
  clear hK K
  refine one_ (i := 10) (N := some 15) #[true, true, true, true, true, true, true, true, true, true, true, false, false] rfl rfl (one_of HT_.out (by kernel_rfl)) (by decide) (fun K hK => ?_)
  rw [if_pos (by rfl)]
  go_simp
  refine hK.out _ _ (hHeld.alloc _) (fun hHeld => ?_)
  clear hK K
  refine one_ (i := 11) (N := some 16) #[true, true, true, true, true, true, true, true, true, true, true, true, false] rfl rfl (one_of HT_.out (by kernel_rfl)) (by decide) (fun K hK => ?_)
  rw [if_pos (by rfl)]
  go_simp
  go_at_call 55; refine (Or_c (some ⟨w7.heap.size, 0, none⟩) 2 [cB xk yk, cmpV ⟨x0, x1, x2⟩ ⟨y0, y1, y2⟩] _ (lit_C w7 3 _ 2 rfl _ rfl (by simp)) (by simp) (by simp)).mono ?_; rintro e w8 ⟨rfl, hb⟩; have HB8 : Hid (DB w1 w8) := hHeld.trans hb
  refine hK.out _ _ HB8.out (fun hHeld => ?_)
  clear hK K
  refine pure_ (i := 12) (N := some 4) (v := ?_) (a' := ?_) #[true, true, true, true, true, true, true, true, true, true, true, true, true] rfl rfl (any_of HT_.out (by kernel_rfl)) (fun _ _ _ h => h) (Or.inl ⟨by rfl, ?_⟩) ?_ ?_
  rotate_left
  · intro w'
    go_simp
    with_reducible rfl
  rotate_left
  · simp only [Act.put, List.setIfInBounds_toArray, List.set_cons_zero, List.set_cons_succ]
    rfl
  refine done_ (done_of HT_.out (by kernel_rfl)) ?_
  clear HT_ HW_ hHeld
  go_wp2_with fail
  go_ret
  exact ⟨by rw [orL2]; rfl, HB.out.trans HB8.out⟩
end Go.Proofs.Ytamcchdblglfoaa.Ft
set_option linter.unusedVariables false
set_option linter.unusedSimpArgs false
namespace Go.Proofs.Ytamcchdblglfoaa.Ft
open Go.RowKit Go.Proofs.Ytamcchdblglfoaa.B0 Go.Proofs.Ytamcchdblglfoaa.Pf Go.Proofs.YtamcchdblglfoaaW.PrintWords Go.Proofs.YtamcchdblglfoaaW.PrintLast Go.Proofs.Ytamcchdblglfoaa.By

theorem rdA_at (xs : List At) (i : Nat) (h : i < xs.length) : xs.drop i = rd_T123 xs (i : Int) :: xs.drop (i + 1) := by
  rw [List.drop_eq_getElem_cons h]
  congr 1
  unfold rd_T123; rw [show ((i : Int)).toNat = i from by omega, List.getD_eq_getElem?_getD, List.getElem?_eq_getElem h]; rfl
set_option maxHeartbeats 4000000 in
set_option maxRecDepth 100000 in
theorem CmpF_c (A B : Option Addr) (ca cb : Nat) (xs ys : List At) (w : World) (hx : Kd.C k123 w A xs.length xs) (hy : Kd.C k123 w B ys.length ys) :
    Calls Try.prog 59 #[.slice A xs.length ca, .slice B ys.length cb, .func (.func 60) #[] #[]] w fun e w' => e = .returned (.int .i64 (cmpLs cmpA xs ys)) ∧ DB w w' := by
  obtain ⟨n, hn⟩ : ∃ n, Hid (xs.length = n) := ⟨_, Lib.hid rfl⟩
  obtain ⟨m, hm⟩ : ∃ m, Hid (ys.length = m) := ⟨_, Lib.hid rfl⟩
  obtain ⟨R, hR⟩ : ∃ R, Hid (cmpLs cmpA xs ys = R) := ⟨_, Lib.hid rfl⟩
  rw [hn.out] at hx
  rw [hm.out] at hy
  rw [hn.out, hm.out, hR.out]
  have hbx : n ≤ 9223372036854775807 := Kd.C_max hx
  have hby : m ≤ 9223372036854775807 := Kd.C_max hy
  have HX := Lib.hid hx; have HY := Lib.hid hy; clear hx hy
  go_enter Try.func59, Try.ntmps59
  go_wp2_with fail
  go_loopw [13] (fun iv wr => ∃ i : Nat, iv = .int .i64 i ∧ i ≤ n ∧ Hid (DB w wr ∧ i ≤ m ∧ cmpLs cmpA (xs.drop i) (ys.drop i) = R)) (fun iv _ => n - (intOf iv).toNat)
  case atStart => exact ⟨0, rfl, Nat.zero_le _, DB.refl _, Nat.zero_le _, hR.out⟩
  case round =>
    obtain ⟨i, rfl, hi, HW⟩ := hrel
    by_cases hlt : i < n
    · have hki : (i : Int) < (n : Int) := by omega
      obtain ⟨ad, rfl, d0, d1, d2, d3⟩ := at_T123 (Kd.C_below HX.out HW.out.1.below) i (by omega) (by omega)
      have hx0 := Lib.hid (rdA_at xs i (by rw [hn.out]; exact hlt))
      obtain ⟨r, hr⟩ : ∃ r, Hid (rd_T123 xs i = r) := ⟨_, Lib.hid rfl⟩
      rw [hr.out] at d0 d1 d2 d3 hx0
      rw [show ((i : Int)).toNat = i from by omega] at d0 d1 d2 d3
      obtain ⟨qa, hqa⟩ : ∃ qa, Hid (ad.add (i * 4) = qa) := ⟨_, Lib.hid rfl⟩
      have hqo := hqa.out
      rw [hqa.out] at d0 d1 d2 d3
      by_cases hge : m ≤ i
      · have hgi : decide ((m : Int) ≤ (i : Int)) = true := decide_eq_true (by omega)
        have hgi' : decide (m ≤ i) = true := decide_eq_true hge
        have hR1 : Hid (R = 1) := by
          have h := HW.out.2.2
          rw [hx0.out, show ys.drop i = [] from List.drop_eq_nil_iff.2 (by rw [hm.out]; exact hge)] at h
          exact Lib.hid h.symm
        go_wp2_with fail
        go_ret
        exact ⟨by rw [hR1.out]; rfl, HW.out.1.alloc _⟩
      · have hgi : decide ((m : Int) ≤ (i : Int)) = false := decide_eq_false (by omega)
        have hgi' : decide (m ≤ i) = false := decide_eq_false hge
        have hmi : (i : Int) < (m : Int) := by omega
        obtain ⟨bd, rfl, e0, e1, e2, e3⟩ := at_T123 (Kd.C_below HY.out (HW.out.1.below.alloc HW.out.1.below.size (.cells #[.string r.f0, .int .i64 r.f1.f0, .int .i64 r.f1.f1, .string r.f1.f2] 123))) i (by omega) (by omega)
        have hy0 := Lib.hid (rdA_at ys i (by rw [hm.out]; omega))
        obtain ⟨q, hq⟩ : ∃ q, Hid (rd_T123 ys i = q) := ⟨_, Lib.hid rfl⟩
        rw [hq.out] at e0 e1 e2 e3 hy0
        rw [show ((i : Int)).toNat = i from by omega] at e0 e1 e2 e3
        obtain ⟨qb, hqb⟩ : ∃ qb, Hid (bd.add (i * 4) = qb) := ⟨_, Lib.hid rfl⟩
        have hqo' := hqb.out
        rw [hqb.out] at e0 e1 e2 e3
        have HS : Hid (orI (cmpA r q) (cmpLs cmpA (xs.drop (i + 1)) (ys.drop (i + 1))) = R) := by
          have h := HW.out.2.2
          rw [hx0.out, hy0.out] at h
          exact Lib.hid h
        go_wp2_with fail
        refine (ACmp_c r q _).mono ?_
        rintro e w2 ⟨rfl, hb2⟩
        have HB2 : Hid (DB w w2) := ((HW.out.1.alloc _).alloc _).trans hb2
        clear hb2
        obtain ⟨c, hc⟩ : ∃ c, Hid (cmpA r q = c) := ⟨_, Lib.hid rfl⟩
        rw [hc.out]
        by_cases hz : c = 0
        · have fz : (c != 0) = false := by rw [hz]; rfl
          have HZ := Lib.hid hz; clear hz
          go_wp2_with fail
          go_roundw
          case rel => exact ⟨i + 1, by go_num, by omega, HB2.out, by have := HW.out.2.1; omega, by have h := HS.out; rw [hc.out, HZ.out] at h; exact h⟩
          case measure => simp [intOf]; omega
        · have fz : (c != 0) = true := by simpa using hz
          have HZ : Hid (R = c) := by have h := HS.out; rw [hc.out] at h; unfold orI at h; rw [if_neg hz] at h; exact Lib.hid h.symm
          clear hz
          go_wp2_with fail
          go_ret
          exact ⟨by rw [HZ.out]; rfl, HB2.out⟩
    · obtain rfl : i = n := by omega
      by_cases hlm : i < m
      · have f1 : decide ((i : Int) < (m : Int)) = true := decide_eq_true (by omega)
        have f1' : decide (i < m) = true := decide_eq_true hlm
        have HZ : Hid (R = -1) := by
          have h := HW.out.2.2
          rw [List.drop_eq_nil_iff.2 (by rw [hn.out]; exact Nat.le_refl _), List.drop_eq_getElem_cons (by rw [hm.out]; exact hlm)] at h
          exact Lib.hid h.symm
        clear hlm
        go_wp2_with fail
        go_ret
        exact ⟨by rw [HZ.out]; rfl, HW.out.1⟩
      · have f1 : decide ((i : Int) < (m : Int)) = false := decide_eq_false (by omega)
        have f1' : decide (i < m) = false := decide_eq_false hlm
        have HZ : Hid (R = 0) := by
          have h := HW.out.2.2
          rw [show xs.drop i = [] from List.drop_eq_nil_iff.2 (by rw [hn.out]; exact Nat.le_refl _), show ys.drop i = [] from List.drop_eq_nil_iff.2 (by rw [hm.out]; omega)] at h
          exact Lib.hid h.symm
        clear hlm
        go_wp2_with fail
        go_ret
        exact ⟨by rw [HZ.out]; rfl, HW.out.1⟩
end Go.Proofs.Ytamcchdblglfoaa.Ft
set_option linter.unusedVariables false
set_option linter.unusedSimpArgs false
namespace Go.Proofs.Ytamcchdblglfoaa.Ft
open Go.RowKit Go.Proofs.Ytamcchdblglfoaa.B0 Go.Proofs.Ytamcchdblglfoaa.Pf Go.Proofs.YtamcchdblglfoaaW.PrintWords Go.Proofs.YtamcchdblglfoaaW.PrintLast Go.Proofs.Ytamcchdblglfoaa.By

def cmpSp (x y : Sp) : Int := orI (cI x.f0 y.f0) (orI (cI x.f1 y.f1) (orI (cI x.f2 y.f2) (orI (cB x.f3 y.f3) (orI (cB x.f4 y.f4) (orI (cI x.f5 y.f5) (orI (cI x.f6 y.f6) (orI (cI x.f7 y.f7) (orI (cI x.f8 y.f8) (cmpLs cmpA x.f9 y.f9)))))))))
def encV (x : Va) : List Int := [x.f0] ++ ([x.f1] ++ encB x.f2)
def encA (x : At) : List Int := encB x.f0 ++ encV x.f1
def encSp (x : Sp) : List Int := [x.f0] ++ ([x.f1] ++ ([x.f2] ++ (encB x.f3 ++ (encB x.f4 ++ ([x.f5] ++ ([x.f6] ++ ([x.f7] ++ ([x.f8] ++ (encL encA x.f9)))))))))
theorem codeV : CodeOf encV cmpV := CodeOf.pair CodeOf.int (CodeOf.pair CodeOf.int CodeOf.bytes (fun x : Va => x.f1) (fun x => x.f2)) (fun x : Va => x.f0) (fun x => x)
theorem codeA : CodeOf encA cmpA := CodeOf.pair CodeOf.bytes codeV (fun x : At => x.f0) (fun x => x.f1)
theorem codeSp : CodeOf encSp cmpSp := (CodeOf.pair CodeOf.int (CodeOf.pair CodeOf.int (CodeOf.pair CodeOf.int (CodeOf.pair CodeOf.bytes (CodeOf.pair CodeOf.bytes (CodeOf.pair CodeOf.int (CodeOf.pair CodeOf.int (CodeOf.pair CodeOf.int (CodeOf.pair CodeOf.int (CodeOf.of (CodeOf.list codeA) (fun x : Sp => x.f9)) (fun x : Sp => x.f8) (fun x : Sp => x)) (fun x : Sp => x.f7) (fun x : Sp => x)) (fun x : Sp => x.f6) (fun x : Sp => x)) (fun x : Sp => x.f5) (fun x : Sp => x)) (fun x : Sp => x.f4) (fun x : Sp => x)) (fun x : Sp => x.f3) (fun x : Sp => x)) (fun x : Sp => x.f2) (fun x : Sp => x)) (fun x : Sp => x.f1) (fun x : Sp => x)) (fun x : Sp => x.f0) (fun x : Sp => x))
theorem cmpV_zero {x y : Va} (h : cmpV x y = 0) : x = y := by
  unfold cmpV at h; rw [orI_zero, orI_zero, cI_zero, cI_zero] at h
  obtain ⟨h0, h1, h2⟩ := h
  have h2 := cB_zero h2
  cases x; cases y; simp_all
theorem cmpA_zero {x y : At} (h : cmpA x y = 0) : x = y := by
  unfold cmpA at h; rw [orI_zero] at h
  have h1 := cB_zero h.1; have h2 := cmpV_zero h.2
  cases x; cases y; simp_all
theorem cmpSp_zero {x y : Sp} (h : cmpSp x y = 0) : x = y := by
  unfold cmpSp at h
  simp only [orI_zero, cI_zero] at h
  obtain ⟨h0, h1, h2, h3, h4, h5, h6, h7, h8, h9⟩ := h
  have h3 := cB_zero h3; have h4 := cB_zero h4
  have h9 := encL_inj codeA (fun x y => cmpA_zero) _ _ h9
  cases x; cases y; simp_all
theorem orL10 (a b c d e f g h i j : Int) : orL [a, b, c, d, e, f, g, h, i, j] = orI a (orI b (orI c (orI d (orI e (orI f (orI g (orI h (orI i j)))))))) := by simp only [orL, orI_r0]
def T23_1 : Bool × List (List Nat × List Nat) := (true, [([], []), ([0], [0]), ([], []), ([2], [2]), ([1, 3], [1, 3]), ([], []), ([5], [5]), ([], []), ([7], [7]), ([6, 8, 4], [6, 8]), ([], []), ([10], [10]), ([], []), ([12], [12]), ([11, 13, 9], [11, 13]), ([], []), ([15], [15]), ([], []), ([17], [17]), ([16, 18, 14], [16, 18]), ([], []), ([20], [20]), ([], []), ([22], [22]), ([21, 23, 19], [21, 23]), ([], []), ([25], [25]), ([], []), ([27], [27]), ([26, 28, 24], [26, 28]), ([], []), ([30], [30]), ([], []), ([32], [32]), ([31, 33, 29], [31, 33]), ([], []), ([35], [35]), ([], []), ([37], [37]), ([36, 38, 34], [36, 38]), ([], []), ([40], [40]), ([], []), ([42], [42]), ([41, 43, 39], [41, 43]), ([], []), ([45], [45]), ([], []), ([47], [47]), ([46, 48, 44], [46, 48]), ([4, 9, 14, 19, 24, 29, 34, 39, 44, 49], [4, 9, 14, 19, 24, 29, 34, 39, 44, 49]), ([50, 49], [50]), ([51, 51, 0, 1, 2, 3, 4, 5, 6, 7, 8, 9, 10, 11, 12, 13, 14, 15, 16, 17, 18, 19, 20, 21, 22, 23, 24, 25, 26, 27, 28, 29, 30, 31, 32, 33, 34, 35, 36, 37, 38, 39, 40, 41, 42, 43, 44, 45, 46, 47, 48, 49, 50, 51], [51])])
def B23_1 : List Nat := [0, 1, 0, 4, 15, 0, 32, 0, 128, 511, 0, 1024, 0, 4096, 16383, 0, 32768, 0, 131072, 524287, 0, 1048576, 0, 4194304, 16777215, 0, 33554432, 0, 134217728, 536870911, 0, 1073741824, 0, 4294967296, 17179869183, 0, 34359738368, 0, 137438953472, 549755813887, 0, 1099511627776, 0, 4398046511104, 17592186044415, 0, 35184372088832, 0, 140737488355328, 562949953421311, 1125899906842623, 2251799813685247, 4503599627370495]
theorem tab23_1 : rtab .any (opsOf Try.f23 1) = T23_1 := by kernel_rfl
theorem bits23_1 : waitsOk T23_1.2 B23_1 = true := by kernel_rfl
set_option maxHeartbeats 8000000 in
set_option maxRecDepth 100000 in
theorem SCmp_c (x y : Sp) (A B : Option Addr) (ca cb : Nat) (w : World) (hx : Kd.C k123 w A x.f9.length x.f9) (hy : Kd.C k123 w B y.f9.length y.f9) :
    Calls Try.prog 23 #[.agg #[.int .u64 x.f0, .int .u64 x.f1, .int .u64 x.f2, .string x.f3, .string x.f4, .int .i64 x.f5, .int .i64 x.f6, .int .u64 x.f7, .int .u64 x.f8, .slice A x.f9.length ca], .agg #[.int .u64 y.f0, .int .u64 y.f1, .int .u64 y.f2, .string y.f3, .string y.f4, .int .i64 y.f5, .int .i64 y.f6, .int .u64 y.f7, .int .u64 y.f8, .slice B y.f9.length cb]] w fun e w' => e = .returned (.int .i64 (cmpSp x y)) ∧ DB w w' := by
  obtain ⟨x0, x1, x2, x3, x4, x5, x6, x7, x8, x9⟩ := x
  obtain ⟨y0, y1, y2, y3, y4, y5, y6, y7, y8, y9⟩ := y
  obtain ⟨n, hn⟩ : ∃ n, Hid (x9.length = n) := ⟨_, Lib.hid rfl⟩
  obtain ⟨m, hm⟩ : ∃ m, Hid (y9.length = m) := ⟨_, Lib.hid rfl⟩
  have HX := Lib.hid hx; have HY := Lib.hid hy; clear hx hy
  obtain ⟨r, hr⟩ : ∃ r, Hid (cmpLs cmpA x9 y9 = r) := ⟨_, Lib.hid rfl⟩
  have HF : Hid (∀ W, Below w.heap.size w W → Calls Try.prog 59 #[.slice A n ca, .slice B m cb, .func (.func 60) #[] #[]] W fun e w' => e = .returned (.int .i64 r) ∧ DB W w') := fun W hb => by
    have h := CmpF_c A B ca cb x9 y9 W (Kd.C_below HX.out hb) (Kd.C_below HY.out hb)
    rw [hn.out, hm.out, hr.out] at h; exact h
  show Calls _ _ #[.agg #[.int .u64 x0, .int .u64 x1, .int .u64 x2, .string x3, .string x4, .int .i64 x5, .int .i64 x6, .int .u64 x7, .int .u64 x8, .slice A x9.length ca], .agg #[.int .u64 y0, .int .u64 y1, .int .u64 y2, .string y3, .string y4, .int .i64 y5, .int .i64 y6, .int .u64 y7, .int .u64 y8, .slice B y9.length cb]] _ _
  rw [hn.out, hm.out]
  obtain ⟨w1, hw1⟩ : ∃ w1, Hid ((w.alloc (.cells #[.int .u64 x0, .int .u64 x1, .int .u64 x2, .string x3, .string x4, .int .i64 x5, .int .i64 x6, .int .u64 x7, .int .u64 x8, .slice A n ca] 44)).alloc (.cells #[.int .u64 y0, .int .u64 y1, .int .u64 y2, .string y3, .string y4, .int .i64 y5, .int .i64 y6, .int .u64 y7, .int .u64 y8, .slice B m cb] 44) = w1) := ⟨_, Lib.hid rfl⟩
  obtain ⟨R, hR⟩ : ∃ R, Hid (w.heap.size = R) := ⟨_, Lib.hid rfl⟩
  have HB : Hid (DB w w1) := by rw [← hw1.out]; exact ((DB.refl _).alloc _).alloc _
  have h2 : w1.heap[R + 1]? = some (.cells #[.int .u64 y0, .int .u64 y1, .int .u64 y2, .string y3, .string y4, .int .i64 y5, .int .i64 y6, .int .u64 y7, .int .u64 y8, .slice B m cb] 44 (0, 0)) := by
    rw [← hw1.out, ← hR.out]
    have := allocN (w.alloc (.cells #[.int .u64 x0, .int .u64 x1, .int .u64 x2, .string x3, .string x4, .int .i64 x5, .int .i64 x6, .int .u64 x7, .int .u64 x8, .slice A n ca] 44)) (.cells #[.int .u64 y0, .int .u64 y1, .int .u64 y2, .string y3, .string y4, .int .i64 y5, .int .i64 y6, .int .u64 y7, .int .u64 y8, .slice B m cb] 44)
    rw [size_alloc] at this; exact this
  have h1 : w1.heap[R]? = some (.cells #[.int .u64 x0, .int .u64 x1, .int .u64 x2, .string x3, .string x4, .int .i64 x5, .int .i64 x6, .int .u64 x7, .int .u64 x8, .slice A n ca] 44 (0, 0)) := by
    rw [← hw1.out, ← hR.out]; exact (allocO _ _ (by simp)).trans (allocN _ _)
  have EC : Hid (∀ w', Below w1.heap.size w1 w' → w'.cell? ⟨R, 0, none⟩ = some (.int .u64 x0) ∧ w'.cell? ⟨R, 1, none⟩ = some (.int .u64 x1) ∧ w'.cell? ⟨R, 2, none⟩ = some (.int .u64 x2) ∧ w'.cell? ⟨R, 3, none⟩ = some (.string x3) ∧ w'.cell? ⟨R, 4, none⟩ = some (.string x4) ∧ w'.cell? ⟨R, 5, none⟩ = some (.int .i64 x5) ∧ w'.cell? ⟨R, 6, none⟩ = some (.int .i64 x6) ∧ w'.cell? ⟨R, 7, none⟩ = some (.int .u64 x7) ∧ w'.cell? ⟨R, 8, none⟩ = some (.int .u64 x8) ∧ w'.cell? ⟨R, 9, none⟩ = some (.slice A n ca) ∧ w'.cell? ⟨R + 1, 0, none⟩ = some (.int .u64 y0) ∧ w'.cell? ⟨R + 1, 1, none⟩ = some (.int .u64 y1) ∧ w'.cell? ⟨R + 1, 2, none⟩ = some (.int .u64 y2) ∧ w'.cell? ⟨R + 1, 3, none⟩ = some (.string y3) ∧ w'.cell? ⟨R + 1, 4, none⟩ = some (.string y4) ∧ w'.cell? ⟨R + 1, 5, none⟩ = some (.int .i64 y5) ∧ w'.cell? ⟨R + 1, 6, none⟩ = some (.int .i64 y6) ∧ w'.cell? ⟨R + 1, 7, none⟩ = some (.int .u64 y7) ∧ w'.cell? ⟨R + 1, 8, none⟩ = some (.int .u64 y8) ∧ w'.cell? ⟨R + 1, 9, none⟩ = some (.slice B m cb)) := fun w' h =>
    ⟨pw_cell_below h (by rw [cellB h1]; rfl), pw_cell_below h (by rw [cellB h1]; rfl), pw_cell_below h (by rw [cellB h1]; rfl), pw_cell_below h (by rw [cellB h1]; rfl), pw_cell_below h (by rw [cellB h1]; rfl), pw_cell_below h (by rw [cellB h1]; rfl), pw_cell_below h (by rw [cellB h1]; rfl), pw_cell_below h (by rw [cellB h1]; rfl), pw_cell_below h (by rw [cellB h1]; rfl), pw_cell_below h (by rw [cellB h1]; rfl), pw_cell_below h (by rw [cellB h2]; rfl), pw_cell_below h (by rw [cellB h2]; rfl), pw_cell_below h (by rw [cellB h2]; rfl), pw_cell_below h (by rw [cellB h2]; rfl), pw_cell_below h (by rw [cellB h2]; rfl), pw_cell_below h (by rw [cellB h2]; rfl), pw_cell_below h (by rw [cellB h2]; rfl), pw_cell_below h (by rw [cellB h2]; rfl), pw_cell_below h (by rw [cellB h2]; rfl), pw_cell_below h (by rw [cellB h2]; rfl)⟩
  clear h1 h2
  go_enter Try.func23, Try.ntmps23
  go_upto_region 1 with fail
  rw [hw1.out, hR.out]
  refine start_ (n := 53) (S := (fun w' => DB w1 w')) (ds := []) #[false, false, false, false, false, false, false, false, false, false, false, false, false, false, false, false, false, false, false, false, false, false, false, false, false, false, false, false, false, false, false, false, false, false, false, false, false, false, false, false, false, false, false, false, false, false, false, false, false, false, false, false, false] (by kernel_rfl) (by rfl) (by rfl) ((DB.refl w1).drewN 1) (fun hHeld => ?_); refine with_tabW tab23_1 bits23_1 (fun HT_ HW_ => ?_)
  refine pure_ (i := 0) (N := some 5) (v := ?_) (a' := ?_) #[true, false, false, false, false, false, false, false, false, false, false, false, false, false, false, false, false, false, false, false, false, false, false, false, false, false, false, false, false, false, false, false, false, false, false, false, false, false, false, false, false, false, false, false, false, false, false, false, false, false, false, false, false] rfl rfl (any_of HT_.out (by kernel_rfl)) (fun _ _ _ h => h) (Or.inl ⟨by rfl, ?_⟩) ?_ ?_
  rotate_left
  · intro w'
    go_simp
    with_reducible rfl
  rotate_left
  · simp only [Act.put, List.setIfInBounds_toArray, List.set_cons_zero, List.set_cons_succ]
    rfl
  refine take_ (i := 1) (N := some 6) (v := ?_) (a' := ?_) #[true, true, false, false, false, false, false, false, false, false, false, false, false, false, false, false, false, false, false, false, false, false, false, false, false, false, false, false, false, false, false, false, false, false, false, false, false, false, false, false, false, false, false, false, false, false, false, false, false, false, false, false, false] rfl rfl (take_ofW HT_.out HW_.out (by kernel_rfl)) (fun _ _ _ h => h) (Or.inl ⟨by rfl, ?_⟩) hHeld ?_ ?_
  rotate_left
  · rintro w' hS; obtain ⟨s0, s1, s2, s3, s4, s5, s6, s7, s8, s9, s10, s11, s12, s13, s14, s15, s16, s17, s18, s19⟩ := EC.out w' hS.below
    go_simp
    with_reducible rfl
  rotate_left
  · simp only [Act.put, List.setIfInBounds_toArray, List.set_cons_zero, List.set_cons_succ]
    rfl
  refine pure_ (i := 2) (N := some 7) (v := ?_) (a' := ?_) #[true, true, true, false, false, false, false, false, false, false, false, false, false, false, false, false, false, false, false, false, false, false, false, false, false, false, false, false, false, false, false, false, false, false, false, false, false, false, false, false, false, false, false, false, false, false, false, false, false, false, false, false, false] rfl rfl (any_of HT_.out (by kernel_rfl)) (fun _ _ _ h => h) (Or.inl ⟨by rfl, ?_⟩) ?_ ?_
  rotate_left
  · intro w'
    go_simp
    with_reducible rfl
  rotate_left
  · simp only [Act.put, List.setIfInBounds_toArray, List.set_cons_zero, List.set_cons_succ]
    rfl
  refine take_ (i := 3) (N := some 8) (v := ?_) (a' := ?_) #[true, true, true, true, false, false, false, false, false, false, false, false, false, false, false, false, false, false, false, false, false, false, false, false, false, false, false, false, false, false, false, false, false, false, false, false, false, false, false, false, false, false, false, false, false, false, false, false, false, false, false, false, false] rfl rfl (take_ofW HT_.out HW_.out (by kernel_rfl)) (fun _ _ _ h => h) (Or.inl ⟨by rfl, ?_⟩) hHeld ?_ ?_
  rotate_left
  · rintro w' hS; obtain ⟨s0, s1, s2, s3, s4, s5, s6, s7, s8, s9, s10, s11, s12, s13, s14, s15, s16, s17, s18, s19⟩ := EC.out w' hS.below
    go_simp
    with_reducible rfl
  rotate_left
  · simp only [Act.put, List.setIfInBounds_toArray, List.set_cons_zero, List.set_cons_succ]
    rfl
  refine pure_ (i := 5) (N := some 10) (v := ?_) (a' := ?_) #[true, true, true, true, false, true, false, false, false, false, false, false, false, false, false, false, false, false, false, false, false, false, false, false, false, false, false, false, false, false, false, false, false, false, false, false, false, false, false, false, false, false, false, false, false, false, false, false, false, false, false, false, false] rfl rfl (any_of HT_.out (by kernel_rfl)) (fun _ _ _ h => h) (Or.inl ⟨by rfl, ?_⟩) ?_ ?_
  rotate_left
  · intro w'
    go_simp
    with_reducible rfl
  rotate_left
  · simp only [Act.put, List.setIfInBounds_toArray, List.set_cons_zero, List.set_cons_succ]
    rfl
  refine take_ (i := 6) (N := some 11) (v := ?_) (a' := ?_) #[true, true, true, true, false, true, true, false, false, false, false, false, false, false, false, false, false, false, false, false, false, false, false, false, false, false, false, false, false, false, false, false, false, false, false, false, false, false, false, false, false, false, false, false, false, false, false, false, false, false, false, false, false] rfl rfl (take_ofW HT_.out HW_.out (by kernel_rfl)) (fun _ _ _ h => h) (Or.inl ⟨by rfl, ?_⟩) hHeld ?_ ?_
  rotate_left
  · rintro w' hS; obtain ⟨s0, s1, s2, s3, s4, s5, s6, s7, s8, s9, s10, s11, s12, s13, s14, s15, s16, s17, s18, s19⟩ := EC.out w' hS.below
    go_simp
    with_reducible rfl
  rotate_left
  · simp only [Act.put, List.setIfInBounds_toArray, List.set_cons_zero, List.set_cons_succ]
    rfl
  refine pure_ (i := 7) (N := some 12) (v := ?_) (a' := ?_) #[true, true, true, true, false, true, true, true, false, false, false, false, false, false, false, false, false, false, false, false, false, false, false, false, false, false, false, false, false, false, false, false, false, false, false, false, false, false, false, false, false, false, false, false, false, false, false, false, false, false, false, false, false] rfl rfl (any_of HT_.out (by kernel_rfl)) (fun _ _ _ h => h) (Or.inl ⟨by rfl, ?_⟩) ?_ ?_
  rotate_left
  · intro w'
    go_simp
    with_reducible rfl
  rotate_left
  · simp only [Act.put, List.setIfInBounds_toArray, List.set_cons_zero, List.set_cons_succ]
    rfl
  refine take_ (i := 8) (N := some 13) (v := ?_) (a' := ?_) #[true, true, true, true, false, true, true, true, true, false, false, false, false, false, false, false, false, false, false, false, false, false, false, false, false, false, false, false, false, false, false, false, false, false, false, false, false, false, false, false, false, false, false, false, false, false, false, false, false, false, false, false, false] rfl rfl (take_ofW HT_.out HW_.out (by kernel_rfl)) (fun _ _ _ h => h) (Or.inl ⟨by rfl, ?_⟩) hHeld ?_ ?_
  rotate_left
  · rintro w' hS; obtain ⟨s0, s1, s2, s3, s4, s5, s6, s7, s8, s9, s10, s11, s12, s13, s14, s15, s16, s17, s18, s19⟩ := EC.out w' hS.below
    go_simp
    with_reducible rfl
  rotate_left
  · simp only [Act.put, List.setIfInBounds_toArray, List.set_cons_zero, List.set_cons_succ]
    rfl
  refine pure_ (i := 10) (N := some 15) (v := ?_) (a' := ?_) #[true, true, true, true, false, true, true, true, true, false, true, false, false, false, false, false, false, false, false, false, false, false, false, false, false, false, false, false, false, false, false, false, false, false, false, false, false, false, false, false, false, false, false, false, false, false, false, false, false, false, false, false, false] rfl rfl (any_of HT_.out (by kernel_rfl)) (fun _ _ _ h => h) (Or.inl ⟨by rfl, ?_⟩) ?_ ?_
  rotate_left
  · intro w'
    go_simp
    with_reducible rfl
  rotate_left
  · simp only [Act.put, List.setIfInBounds_toArray, List.set_cons_zero, List.set_cons_succ]
    rfl
  refine take_ (i := 11) (N := some 16) (v := ?_) (a' := ?_) #[true, true, true, true, false, true, true, true, true, false, true, true, false, false, false, false, false, false, false, false, false, false, false, false, false, false, false, false, false, false, false, false, false, false, false, false, false, false, false, false, false, false, false, false, false, false, false, false, false, false, false, false, false] rfl rfl (take_ofW HT_.out HW_.out (by kernel_rfl)) (fun _ _ _ h => h) (Or.inl ⟨by rfl, ?_⟩) hHeld ?_ ?_
  rotate_left
  · rintro w' hS; obtain ⟨s0, s1, s2, s3, s4, s5, s6, s7, s8, s9, s10, s11, s12, s13, s14, s15, s16, s17, s18, s19⟩ := EC.out w' hS.below
    go_simp
    with_reducible rfl
  rotate_left
  · simp only [Act.put, List.setIfInBounds_toArray, List.set_cons_zero, List.set_cons_succ]
    rfl
  refine pure_ (i := 12) (N := some 17) (v := ?_) (a' := ?_) #[true, true, true, true, false, true, true, true, true, false, true, true, true, false, false, false, false, false, false, false, false, false, false, false, false, false, false, false, false, false, false, false, false, false, false, false, false, false, false, false, false, false, false, false, false, false, false, false, false, false, false, false, false] rfl rfl (any_of HT_.out (by kernel_rfl)) (fun _ _ _ h => h) (Or.inl ⟨by rfl, ?_⟩) ?_ ?_
  rotate_left
  · intro w'
    go_simp
    with_reducible rfl
  rotate_left
  · simp only [Act.put, List.setIfInBounds_toArray, List.set_cons_zero, List.set_cons_succ]
    rfl
  refine take_ (i := 13) (N := some 18) (v := ?_) (a' := ?_) #[true, true, true, true, false, true, true, true, true, false, true, true, true, true, false, false, false, false, false, false, false, false, false, false, false, false, false, false, false, false, false, false, false, false, false, false, false, false, false, false, false, false, false, false, false, false, false, false, false, false, false, false, false] rfl rfl (take_ofW HT_.out HW_.out (by kernel_rfl)) (fun _ _ _ h => h) (Or.inl ⟨by rfl, ?_⟩) hHeld ?_ ?_
  rotate_left
  · rintro w' hS; obtain ⟨s0, s1, s2, s3, s4, s5, s6, s7, s8, s9, s10, s11, s12, s13, s14, s15, s16, s17, s18, s19⟩ := EC.out w' hS.below
    go_simp
    with_reducible rfl
  rotate_left
  · simp only [Act.put, List.setIfInBounds_toArray, List.set_cons_zero, List.set_cons_succ]
    rfl
  refine pure_ (i := 15) (N := some 20) (v := ?_) (a' := ?_) #[true, true, true, true, false, true, true, true, true, false, true, true, true, true, false, true, false, false, false, false, false, false, false, false, false, false, false, false, false, false, false, false, false, false, false, false, false, false, false, false, false, false, false, false, false, false, false, false, false, false, false, false, false] rfl rfl (any_of HT_.out (by kernel_rfl)) (fun _ _ _ h => h) (Or.inl ⟨by rfl, ?_⟩) ?_ ?_
  rotate_left
  · intro w'
    go_simp
    with_reducible rfl
  rotate_left
  · simp only [Act.put, List.setIfInBounds_toArray, List.set_cons_zero, List.set_cons_succ]
    rfl
  refine take_ (i := 16) (N := some 21) (v := ?_) (a' := ?_) #[true, true, true, true, false, true, true, true, true, false, true, true, true, true, false, true, true, false, false, false, false, false, false, false, false, false, false, false, false, false, false, false, false, false, false, false, false, false, false, false, false, false, false, false, false, false, false, false, false, false, false, false, false] rfl rfl (take_ofW HT_.out HW_.out (by kernel_rfl)) (fun _ _ _ h => h) (Or.inl ⟨by rfl, ?_⟩) hHeld ?_ ?_
  rotate_left
  · rintro w' hS; obtain ⟨s0, s1, s2, s3, s4, s5, s6, s7, s8, s9, s10, s11, s12, s13, s14, s15, s16, s17, s18, s19⟩ := EC.out w' hS.below
    go_simp
    with_reducible rfl
  rotate_left
  · simp only [Act.put, List.setIfInBounds_toArray, List.set_cons_zero, List.set_cons_succ]
    rfl
  refine pure_ (i := 17) (N := some 22) (v := ?_) (a' := ?_) #[true, true, true, true, false, true, true, true, true, false, true, true, true, true, false, true, true, true, false, false, false, false, false, false, false, false, false, false, false, false, false, false, false, false, false, false, false, false, false, false, false, false, false, false, false, false, false, false, false, false, false, false, false] rfl rfl (any_of HT_.out (by kernel_rfl)) (fun _ _ _ h => h) (Or.inl ⟨by rfl, ?_⟩) ?_ ?_
  rotate_left
  · intro w'
    go_simp
    with_reducible rfl
  rotate_left
  · simp only [Act.put, List.setIfInBounds_toArray, List.set_cons_zero, List.set_cons_succ]
    rfl
  refine take_ (i := 18) (N := some 23) (v := ?_) (a' := ?_) #[true, true, true, true, false, true, true, true, true, false, true, true, true, true, false, true, true, true, true, false, false, false, false, false, false, false, false, false, false, false, false, false, false, false, false, false, false, false, false, false, false, false, false, false, false, false, false, false, false, false, false, false, false] rfl rfl (take_ofW HT_.out HW_.out (by kernel_rfl)) (fun _ _ _ h => h) (Or.inl ⟨by rfl, ?_⟩) hHeld ?_ ?_
  rotate_left
  · rintro w' hS; obtain ⟨s0, s1, s2, s3, s4, s5, s6, s7, s8, s9, s10, s11, s12, s13, s14, s15, s16, s17, s18, s19⟩ := EC.out w' hS.below
    go_simp
    with_reducible rfl
  rotate_left
  · simp only [Act.put, List.setIfInBounds_toArray, List.set_cons_zero, List.set_cons_succ]
    rfl
  refine pure_ (i := 20) (N := some 25) (v := ?_) (a' := ?_) #[true, true, true, true, false, true, true, true, true, false, true, true, true, true, false, true, true, true, true, false, true, false, false, false, false, false, false, false, false, false, false, false, false, false, false, false, false, false, false, false, false, false, false, false, false, false, false, false, false, false, false, false, false] rfl rfl (any_of HT_.out (by kernel_rfl)) (fun _ _ _ h => h) (Or.inl ⟨by rfl, ?_⟩) ?_ ?_
  rotate_left
  · intro w'
    go_simp
    with_reducible rfl
  rotate_left
  · simp only [Act.put, List.setIfInBounds_toArray, List.set_cons_zero, List.set_cons_succ]
    rfl
  refine take_ (i := 21) (N := some 26) (v := ?_) (a' := ?_) #[true, true, true, true, false, true, true, true, true, false, true, true, true, true, false, true, true, true, true, false, true, true, false, false, false, false, false, false, false, false, false, false, false, false, false, false, false, false, false, false, false, false, false, false, false, false, false, false, false, false, false, false, false] rfl rfl (take_ofW HT_.out HW_.out (by kernel_rfl)) (fun _ _ _ h => h) (Or.inl ⟨by rfl, ?_⟩) hHeld ?_ ?_
  rotate_left
  · rintro w' hS; obtain ⟨s0, s1, s2, s3, s4, s5, s6, s7, s8, s9, s10, s11, s12, s13, s14, s15, s16, s17, s18, s19⟩ := EC.out w' hS.below
    go_simp
    with_reducible rfl
  rotate_left
  · simp only [Act.put, List.setIfInBounds_toArray, List.set_cons_zero, List.set_cons_succ]
    rfl
  refine pure_ (i := 22) (N := some 27) (v := ?_) (a' := ?_) #[true, true, true, true, false, true, true, true, true, false, true, true, true, true, false, true, true, true, true, false, true, true, true, false, false, false, false, false, false, false, false, false, false, false, false, false, false, false, false, false, false, false, false, false, false, false, false, false, false, false, false, false, false] rfl rfl (any_of HT_.out (by kernel_rfl)) (fun _ _ _ h => h) (Or.inl ⟨by rfl, ?_⟩) ?_ ?_
  rotate_left
  · intro w'
    go_simp
    with_reducible rfl
  rotate_left
  · simp only [Act.put, List.setIfInBounds_toArray, List.set_cons_zero, List.set_cons_succ]
    rfl
  refine take_ (i := 23) (N := some 28) (v := ?_) (a' := ?_) #[true, true, true, true, false, true, true, true, true, false, true, true, true, true, false, true, true, true, true, false, true, true, true, true, false, false, false, false, false, false, false, false, false, false, false, false, false, false, false, false, false, false, false, false, false, false, false, false, false, false, false, false, false] rfl rfl (take_ofW HT_.out HW_.out (by kernel_rfl)) (fun _ _ _ h => h) (Or.inl ⟨by rfl, ?_⟩) hHeld ?_ ?_
  rotate_left
  · rintro w' hS; obtain ⟨s0, s1, s2, s3, s4, s5, s6, s7, s8, s9, s10, s11, s12, s13, s14, s15, s16, s17, s18, s19⟩ := EC.out w' hS.below
    go_simp
    with_reducible rfl
  rotate_left
  · simp only [Act.put, List.setIfInBounds_toArray, List.set_cons_zero, List.set_cons_succ]
    rfl
  refine pure_ (i := 25) (N := some 30) (v := ?_) (a' := ?_) #[true, true, true, true, false, true, true, true, true, false, true, true, true, true, false, true, true, true, true, false, true, true, true, true, false, true, false, false, false, false, false, false, false, false, false, false, false, false, false, false, false, false, false, false, false, false, false, false, false, false, false, false, false] rfl rfl (any_of HT_.out (by kernel_rfl)) (fun _ _ _ h => h) (Or.inl ⟨by rfl, ?_⟩) ?_ ?_
  rotate_left
  · intro w'
    go_simp
    with_reducible rfl
  rotate_left
  · simp only [Act.put, List.setIfInBounds_toArray, List.set_cons_zero, List.set_cons_succ]
    rfl
  refine take_ (i := 26) (N := some 31) (v := ?_) (a' := ?_) #[true, true, true, true, false, true, true, true, true, false, true, true, true, true, false, true, true, true, true, false, true, true, true, true, false, true, true, false, false, false, false, false, false, false, false, false, false, false, false, false, false, false, false, false, false, false, false, false, false, false, false, false, false] rfl rfl (take_ofW HT_.out HW_.out (by kernel_rfl)) (fun _ _ _ h => h) (Or.inl ⟨by rfl, ?_⟩) hHeld ?_ ?_
  rotate_left
  · rintro w' hS; obtain ⟨s0, s1, s2, s3, s4, s5, s6, s7, s8, s9, s10, s11, s12, s13, s14, s15, s16, s17, s18, s19⟩ := EC.out w' hS.below
    go_simp
    with_reducible rfl
  rotate_left
  · simp only [Act.put, List.setIfInBounds_toArray, List.set_cons_zero, List.set_cons_succ]
    rfl
  refine pure_ (i := 27) (N := some 32) (v := ?_) (a' := ?_) #[true, true, true, true, false, true, true, true, true, false, true, true, true, true, false, true, true, true, true, false, true, true, true, true, false, true, true, true, false, false, false, false, false, false, false, false, false, false, false, false, false, false, false, false, false, false, false, false, false, false, false, false, false] rfl rfl (any_of HT_.out (by kernel_rfl)) (fun _ _ _ h => h) (Or.inl ⟨by rfl, ?_⟩) ?_ ?_
  rotate_left
  · intro w'
    go_simp
    with_reducible rfl
  rotate_left
  · simp only [Act.put, List.setIfInBounds_toArray, List.set_cons_zero, List.set_cons_succ]
    rfl
  refine take_ (i := 28) (N := some 33) (v := ?_) (a' := ?_) #[true, true, true, true, false, true, true, true, true, false, true, true, true, true, false, true, true, true, true, false, true, true, true, true, false, true, true, true, true, false, false, false, false, false, false, false, false, false, false, false, false, false, false, false, false, false, false, false, false, false, false, false, false] rfl rfl (take_ofW HT_.out HW_.out (by kernel_rfl)) (fun _ _ _ h => h) (Or.inl ⟨by rfl, ?_⟩) hHeld ?_ ?_
  rotate_left
  · rintro w' hS; obtain ⟨s0, s1, s2, s3, s4, s5, s6, s7, s8, s9, s10, s11, s12, s13, s14, s15, s16, s17, s18, s19⟩ := EC.out w' hS.below
    go_simp
    with_reducible rfl
  rotate_left
  · simp only [Act.put, List.setIfInBounds_toArray, List.set_cons_zero, List.set_cons_succ]
    rfl
  refine pure_ (i := 30) (N := some 35) (v := ?_) (a' := ?_) #[true, true, true, true, false, true, true, true, true, false, true, true, true, true, false, true, true, true, true, false, true, true, true, true, false, true, true, true, true, false, true, false, false, false, false, false, false, false, false, false, false, false, false, false, false, false, false, false, false, false, false, false, false] rfl rfl (any_of HT_.out (by kernel_rfl)) (fun _ _ _ h => h) (Or.inl ⟨by rfl, ?_⟩) ?_ ?_
  rotate_left
  · intro w'
    go_simp
    with_reducible rfl
  rotate_left
  · simp only [Act.put, List.setIfInBounds_toArray, List.set_cons_zero, List.set_cons_succ]
    rfl
  refine take_ (i := 31) (N := some 36) (v := ?_) (a' := ?_) #[true, true, true, true, false, true, true, true, true, false, true, true, true, true, false, true, true, true, true, false, true, true, true, true, false, true, true, true, true, false, true, true, false, false, false, false, false, false, false, false, false, false, false, false, false, false, false, false, false, false, false, false, false] rfl rfl (take_ofW HT_.out HW_.out (by kernel_rfl)) (fun _ _ _ h => h) (Or.inl ⟨by rfl, ?_⟩) hHeld ?_ ?_
  rotate_left
  · rintro w' hS; obtain ⟨s0, s1, s2, s3, s4, s5, s6, s7, s8, s9, s10, s11, s12, s13, s14, s15, s16, s17, s18, s19⟩ := EC.out w' hS.below
    go_simp
    with_reducible rfl
  rotate_left
  · simp only [Act.put, List.setIfInBounds_toArray, List.set_cons_zero, List.set_cons_succ]
    rfl
  refine pure_ (i := 32) (N := some 37) (v := ?_) (a' := ?_) #[true, true, true, true, false, true, true, true, true, false, true, true, true, true, false, true, true, true, true, false, true, true, true, true, false, true, true, true, true, false, true, true, true, false, false, false, false, false, false, false, false, false, false, false, false, false, false, false, false, false, false, false, false] rfl rfl (any_of HT_.out (by kernel_rfl)) (fun _ _ _ h => h) (Or.inl ⟨by rfl, ?_⟩) ?_ ?_
  rotate_left
  · intro w'
    go_simp
    with_reducible rfl
  rotate_left
  · simp only [Act.put, List.setIfInBounds_toArray, List.set_cons_zero, List.set_cons_succ]
    rfl
  refine take_ (i := 33) (N := some 38) (v := ?_) (a' := ?_) #[true, true, true, true, false, true, true, true, true, false, true, true, true, true, false, true, true, true, true, false, true, true, true, true, false, true, true, true, true, false, true, true, true, true, false, false, false, false, false, false, false, false, false, false, false, false, false, false, false, false, false, false, false] rfl rfl (take_ofW HT_.out HW_.out (by kernel_rfl)) (fun _ _ _ h => h) (Or.inl ⟨by rfl, ?_⟩) hHeld ?_ ?_
  rotate_left
  · rintro w' hS; obtain ⟨s0, s1, s2, s3, s4, s5, s6, s7, s8, s9, s10, s11, s12, s13, s14, s15, s16, s17, s18, s19⟩ := EC.out w' hS.below
    go_simp
    with_reducible rfl
  rotate_left
  · simp only [Act.put, List.setIfInBounds_toArray, List.set_cons_zero, List.set_cons_succ]
    rfl
  refine pure_ (i := 35) (N := some 40) (v := ?_) (a' := ?_) #[true, true, true, true, false, true, true, true, true, false, true, true, true, true, false, true, true, true, true, false, true, true, true, true, false, true, true, true, true, false, true, true, true, true, false, true, false, false, false, false, false, false, false, false, false, false, false, false, false, false, false, false, false] rfl rfl (any_of HT_.out (by kernel_rfl)) (fun _ _ _ h => h) (Or.inl ⟨by rfl, ?_⟩) ?_ ?_
  rotate_left
  · intro w'
    go_simp
    with_reducible rfl
  rotate_left
  · simp only [Act.put, List.setIfInBounds_toArray, List.set_cons_zero, List.set_cons_succ]
    rfl
  refine take_ (i := 36) (N := some 41) (v := ?_) (a' := ?_) #[true, true, true, true, false, true, true, true, true, false, true, true, true, true, false, true, true, true, true, false, true, true, true, true, false, true, true, true, true, false, true, true, true, true, false, true, true, false, false, false, false, false, false, false, false, false, false, false, false, false, false, false, false] rfl rfl (take_ofW HT_.out HW_.out (by kernel_rfl)) (fun _ _ _ h => h) (Or.inl ⟨by rfl, ?_⟩) hHeld ?_ ?_
  rotate_left
  · rintro w' hS; obtain ⟨s0, s1, s2, s3, s4, s5, s6, s7, s8, s9, s10, s11, s12, s13, s14, s15, s16, s17, s18, s19⟩ := EC.out w' hS.below
    go_simp
    with_reducible rfl
  rotate_left
  · simp only [Act.put, List.setIfInBounds_toArray, List.set_cons_zero, List.set_cons_succ]
    rfl
  refine pure_ (i := 37) (N := some 42) (v := ?_) (a' := ?_) #[true, true, true, true, false, true, true, true, true, false, true, true, true, true, false, true, true, true, true, false, true, true, true, true, false, true, true, true, true, false, true, true, true, true, false, true, true, true, false, false, false, false, false, false, false, false, false, false, false, false, false, false, false] rfl rfl (any_of HT_.out (by kernel_rfl)) (fun _ _ _ h => h) (Or.inl ⟨by rfl, ?_⟩) ?_ ?_
  rotate_left
  · intro w'
    go_simp
    with_reducible rfl
  rotate_left
  · simp only [Act.put, List.setIfInBounds_toArray, List.set_cons_zero, List.set_cons_succ]
    rfl
  refine take_ (i := 38) (N := some 43) (v := ?_) (a' := ?_) #[true, true, true, true, false, true, true, true, true, false, true, true, true, true, false, true, true, true, true, false, true, true, true, true, false, true, true, true, true, false, true, true, true, true, false, true, true, true, true, false, false, false, false, false, false, false, false, false, false, false, false, false, false] rfl rfl (take_ofW HT_.out HW_.out (by kernel_rfl)) (fun _ _ _ h => h) (Or.inl ⟨by rfl, ?_⟩) hHeld ?_ ?_
  rotate_left
  · rintro w' hS; obtain ⟨s0, s1, s2, s3, s4, s5, s6, s7, s8, s9, s10, s11, s12, s13, s14, s15, s16, s17, s18, s19⟩ := EC.out w' hS.below
    go_simp
    with_reducible rfl
  rotate_left
  · simp only [Act.put, List.setIfInBounds_toArray, List.set_cons_zero, List.set_cons_succ]
    rfl
  refine pure_ (i := 40) (N := some 45) (v := ?_) (a' := ?_) #[true, true, true, true, false, true, true, true, true, false, true, true, true, true, false, true, true, true, true, false, true, true, true, true, false, true, true, true, true, false, true, true, true, true, false, true, true, true, true, false, true, false, false, false, false, false, false, false, false, false, false, false, false] rfl rfl (any_of HT_.out (by kernel_rfl)) (fun _ _ _ h => h) (Or.inl ⟨by rfl, ?_⟩) ?_ ?_
  rotate_left
  · intro w'
    go_simp
    with_reducible rfl
  rotate_left
  · simp only [Act.put, List.setIfInBounds_toArray, List.set_cons_zero, List.set_cons_succ]
    rfl
  refine take_ (i := 41) (N := some 46) (v := ?_) (a' := ?_) #[true, true, true, true, false, true, true, true, true, false, true, true, true, true, false, true, true, true, true, false, true, true, true, true, false, true, true, true, true, false, true, true, true, true, false, true, true, true, true, false, true, true, false, false, false, false, false, false, false, false, false, false, false] rfl rfl (take_ofW HT_.out HW_.out (by kernel_rfl)) (fun _ _ _ h => h) (Or.inl ⟨by rfl, ?_⟩) hHeld ?_ ?_
  rotate_left
  · rintro w' hS; obtain ⟨s0, s1, s2, s3, s4, s5, s6, s7, s8, s9, s10, s11, s12, s13, s14, s15, s16, s17, s18, s19⟩ := EC.out w' hS.below
    go_simp
    with_reducible rfl
  rotate_left
  · simp only [Act.put, List.setIfInBounds_toArray, List.set_cons_zero, List.set_cons_succ]
    rfl
  refine pure_ (i := 42) (N := some 47) (v := ?_) (a' := ?_) #[true, true, true, true, false, true, true, true, true, false, true, true, true, true, false, true, true, true, true, false, true, true, true, true, false, true, true, true, true, false, true, true, true, true, false, true, true, true, true, false, true, true, true, false, false, false, false, false, false, false, false, false, false] rfl rfl (any_of HT_.out (by kernel_rfl)) (fun _ _ _ h => h) (Or.inl ⟨by rfl, ?_⟩) ?_ ?_
  rotate_left
  · intro w'
    go_simp
    with_reducible rfl
  rotate_left
  · simp only [Act.put, List.setIfInBounds_toArray, List.set_cons_zero, List.set_cons_succ]
    rfl
  refine take_ (i := 43) (N := some 48) (v := ?_) (a' := ?_) #[true, true, true, true, false, true, true, true, true, false, true, true, true, true, false, true, true, true, true, false, true, true, true, true, false, true, true, true, true, false, true, true, true, true, false, true, true, true, true, false, true, true, true, true, false, false, false, false, false, false, false, false, false] rfl rfl (take_ofW HT_.out HW_.out (by kernel_rfl)) (fun _ _ _ h => h) (Or.inl ⟨by rfl, ?_⟩) hHeld ?_ ?_
  rotate_left
  · rintro w' hS; obtain ⟨s0, s1, s2, s3, s4, s5, s6, s7, s8, s9, s10, s11, s12, s13, s14, s15, s16, s17, s18, s19⟩ := EC.out w' hS.below
    go_simp
    with_reducible rfl
  rotate_left
  · simp only [Act.put, List.setIfInBounds_toArray, List.set_cons_zero, List.set_cons_succ]
    rfl
  refine pure_ (i := 45) (N := some 50) (v := ?_) (a' := ?_) #[true, true, true, true, false, true, true, true, true, false, true, true, true, true, false, true, true, true, true, false, true, true, true, true, false, true, true, true, true, false, true, true, true, true, false, true, true, true, true, false, true, true, true, true, false, true, false, false, false, false, false, false, false] rfl rfl (any_of HT_.out (by kernel_rfl)) (fun _ _ _ h => h) (Or.inl ⟨by rfl, ?_⟩) ?_ ?_
  rotate_left
  · intro w'
    go_simp
    with_reducible rfl
  rotate_left
  · simp only [Act.put, List.setIfInBounds_toArray, List.set_cons_zero, List.set_cons_succ]
    rfl
  refine take_ (i := 46) (N := some 51) (v := ?_) (a' := ?_) #[true, true, true, true, false, true, true, true, true, false, true, true, true, true, false, true, true, true, true, false, true, true, true, true, false, true, true, true, true, false, true, true, true, true, false, true, true, true, true, false, true, true, true, true, false, true, true, false, false, false, false, false, false] rfl rfl (take_ofW HT_.out HW_.out (by kernel_rfl)) (fun _ _ _ h => h) (Or.inl ⟨by rfl, ?_⟩) hHeld ?_ ?_
  rotate_left
  · rintro w' hS; obtain ⟨s0, s1, s2, s3, s4, s5, s6, s7, s8, s9, s10, s11, s12, s13, s14, s15, s16, s17, s18, s19⟩ := EC.out w' hS.below
    go_simp
    with_reducible rfl
  rotate_left
  · simp only [Act.put, List.setIfInBounds_toArray, List.set_cons_zero, List.set_cons_succ]
    rfl
  refine pure_ (i := 47) (N := some 52) (v := ?_) (a' := ?_) #[true, true, true, true, false, true, true, true, true, false, true, true, true, true, false, true, true, true, true, false, true, true, true, true, false, true, true, true, true, false, true, true, true, true, false, true, true, true, true, false, true, true, true, true, false, true, true, true, false, false, false, false, false] rfl rfl (any_of HT_.out (by kernel_rfl)) (fun _ _ _ h => h) (Or.inl ⟨by rfl, ?_⟩) ?_ ?_
  rotate_left
  · intro w'
    go_simp
    with_reducible rfl
  rotate_left
  · simp only [Act.put, List.setIfInBounds_toArray, List.set_cons_zero, List.set_cons_succ]
    rfl
  refine take_ (i := 48) (N := some 53) (v := ?_) (a' := ?_) #[true, true, true, true, false, true, true, true, true, false, true, true, true, true, false, true, true, true, true, false, true, true, true, true, false, true, true, true, true, false, true, true, true, true, false, true, true, true, true, false, true, true, true, true, false, true, true, true, true, false, false, false, false] rfl rfl (take_ofW HT_.out HW_.out (by kernel_rfl)) (fun _ _ _ h => h) (Or.inl ⟨by rfl, ?_⟩) hHeld ?_ ?_
  rotate_left
  · rintro w' hS; obtain ⟨s0, s1, s2, s3, s4, s5, s6, s7, s8, s9, s10, s11, s12, s13, s14, s15, s16, s17, s18, s19⟩ := EC.out w' hS.below
    go_simp
    with_reducible rfl
  rotate_left
  · simp only [Act.put, List.setIfInBounds_toArray, List.set_cons_zero, List.set_cons_succ]
    rfl
  refine one_ (i := 4) (N := some 9) #[true, true, true, true, true, true, true, true, true, false, true, true, true, true, false, true, true, true, true, false, true, true, true, true, false, true, true, true, true, false, true, true, true, true, false, true, true, true, true, false, true, true, true, true, false, true, true, true, true, false, false, false, false] rfl rfl (one_of HT_.out (by kernel_rfl)) (by decide) (fun K hK => ?_)
  rw [if_pos (by rfl)]
  go_simp
  go_at_call 56; refine (CmpU_c _ _ _).mono ?_; rintro e v0 ⟨rfl, hb⟩
  refine hK.out _ _ (hHeld.trans hb) (fun hHeld => ?_)
  clear hK K
  refine one_ (i := 9) (N := some 14) #[true, true, true, true, true, true, true, true, true, true, true, true, true, true, false, true, true, true, true, false, true, true, true, true, false, true, true, true, true, false, true, true, true, true, false, true, true, true, true, false, true, true, true, true, false, true, true, true, true, false, false, false, false] rfl rfl (one_of HT_.out (by kernel_rfl)) (by decide) (fun K hK => ?_)
  rw [if_pos (by rfl)]
  go_simp
  go_at_call 56; refine (CmpU_c _ _ _).mono ?_; rintro e v1 ⟨rfl, hb⟩
  refine hK.out _ _ (hHeld.trans hb) (fun hHeld => ?_)
  clear hK K
  refine one_ (i := 14) (N := some 19) #[true, true, true, true, true, true, true, true, true, true, true, true, true, true, true, true, true, true, true, false, true, true, true, true, false, true, true, true, true, false, true, true, true, true, false, true, true, true, true, false, true, true, true, true, false, true, true, true, true, false, false, false, false] rfl rfl (one_of HT_.out (by kernel_rfl)) (by decide) (fun K hK => ?_)
  rw [if_pos (by rfl)]
  go_simp
  go_at_call 56; refine (CmpU_c _ _ _).mono ?_; rintro e v2 ⟨rfl, hb⟩
  refine hK.out _ _ (hHeld.trans hb) (fun hHeld => ?_)
  clear hK K
  refine one_ (i := 19) (N := some 24) #[true, true, true, true, true, true, true, true, true, true, true, true, true, true, true, true, true, true, true, true, true, true, true, true, false, true, true, true, true, false, true, true, true, true, false, true, true, true, true, false, true, true, true, true, false, true, true, true, true, false, false, false, false] rfl rfl (one_of HT_.out (by kernel_rfl)) (by decide) (fun K hK => ?_)
  rw [if_pos (by rfl)]
  go_simp
  go_at_call 57; refine (CmpS_c _ _ _).mono ?_; rintro e v3 ⟨rfl, hb⟩
  refine hK.out _ _ (hHeld.trans hb) (fun hHeld => ?_)
  clear hK K
  refine one_ (i := 24) (N := some 29) #[true, true, true, true, true, true, true, true, true, true, true, true, true, true, true, true, true, true, true, true, true, true, true, true, true, true, true, true, true, false, true, true, true, true, false, true, true, true, true, false, true, true, true, true, false, true, true, true, true, false, false, false, false] rfl rfl (one_of HT_.out (by kernel_rfl)) (by decide) (fun K hK => ?_)
  rw [if_pos (by rfl)]
  go_simp
  go_at_call 57; refine (CmpS_c _ _ _).mono ?_; rintro e v4 ⟨rfl, hb⟩
  refine hK.out _ _ (hHeld.trans hb) (fun hHeld => ?_)
  clear hK K
  refine one_ (i := 29) (N := some 34) #[true, true, true, true, true, true, true, true, true, true, true, true, true, true, true, true, true, true, true, true, true, true, true, true, true, true, true, true, true, true, true, true, true, true, false, true, true, true, true, false, true, true, true, true, false, true, true, true, true, false, false, false, false] rfl rfl (one_of HT_.out (by kernel_rfl)) (by decide) (fun K hK => ?_)
  rw [if_pos (by rfl)]
  go_simp
  go_at_call 58; refine (CmpI_c _ _ _).mono ?_; rintro e v5 ⟨rfl, hb⟩
  refine hK.out _ _ (hHeld.trans hb) (fun hHeld => ?_)
  clear hK K
  refine one_ (i := 34) (N := some 39) #[true, true, true, true, true, true, true, true, true, true, true, true, true, true, true, true, true, true, true, true, true, true, true, true, true, true, true, true, true, true, true, true, true, true, true, true, true, true, true, false, true, true, true, true, false, true, true, true, true, false, false, false, false] rfl rfl (one_of HT_.out (by kernel_rfl)) (by decide) (fun K hK => ?_)
  rw [if_pos (by rfl)]
  go_simp
  go_at_call 58; refine (CmpI_c _ _ _).mono ?_; rintro e v6 ⟨rfl, hb⟩
  refine hK.out _ _ (hHeld.trans hb) (fun hHeld => ?_)
  clear hK K
  refine one_ (i := 39) (N := some 44) #[true, true, true, true, true, true, true, true, true, true, true, true, true, true, true, true, true, true, true, true, true, true, true, true, true, true, true, true, true, true, true, true, true, true, true, true, true, true, true, true, true, true, true, true, false, true, true, true, true, false, false, false, false] rfl rfl (one_of HT_.out (by kernel_rfl)) (by decide) (fun K hK => ?_)
  rw [if_pos (by rfl)]
  go_simp
  go_at_call 56; refine (CmpU_c _ _ _).mono ?_; rintro e v7 ⟨rfl, hb⟩
  refine hK.out _ _ (hHeld.trans hb) (fun hHeld => ?_)
  clear hK K
  refine one_ (i := 44) (N := some 49) #[true, true, true, true, true, true, true, true, true, true, true, true, true, true, true, true, true, true, true, true, true, true, true, true, true, true, true, true, true, true, true, true, true, true, true, true, true, true, true, true, true, true, true, true, true, true, true, true, true, false, false, false, false] rfl rfl (one_of HT_.out (by kernel_rfl)) (by decide) (fun K hK => ?_)
  rw [if_pos (by rfl)]
  go_simp
  go_at_call 56; refine (CmpU_c _ _ _).mono ?_; rintro e v8 ⟨rfl, hb⟩
  refine hK.out _ _ (hHeld.trans hb) (fun hHeld => ?_)
  clear hK K
  refine one_ (i := 49) (N := some 54) #[true, true, true, true, true, true, true, true, true, true, true, true, true, true, true, true, true, true, true, true, true, true, true, true, true, true, true, true, true, true, true, true, true, true, true, true, true, true, true, true, true, true, true, true, true, true, true, true, true, true, false, false, false] rfl rfl (one_of HT_.out (by kernel_rfl)) (by decide) (fun K hK => ?_)
  rw [if_pos (by rfl)]
  go_simp
  go_at_call 59; refine (HF.out _ (HB.out.trans hHeld).below).mono ?_; rintro e v9 ⟨rfl, hb⟩
  refine hK.out _ _ (hHeld.trans hb) (fun hHeld => ?_)
  clear hK K
  refine one_ (i := 50) (N := some 55) #[true, true, true, true, true, true, true, true, true, true, true, true, true, true, true, true, true, true, true, true, true, true, true, true, true, true, true, true, true, true, true, true, true, true, true, true, true, true, true, true, true, true, true, true, true, true, true, true, true, true, true, false, false] rfl rfl (one_of HT_.out (by kernel_rfl)) (by decide) (fun K hK => ?_)
  rw [if_pos (by rfl)]
  go_simp
  refine hK.out _ _ (hHeld.alloc _) (fun hHeld => ?_)
  clear hK K
  refine one_ (i := 51) (N := some 56) #[true, true, true, true, true, true, true, true, true, true, true, true, true, true, true, true, true, true, true, true, true, true, true, true, true, true, true, true, true, true, true, true, true, true, true, true, true, true, true, true, true, true, true, true, true, true, true, true, true, true, true, true, false] rfl rfl (one_of HT_.out (by kernel_rfl)) (by decide) (fun K hK => ?_)
  rw [if_pos (by rfl)]
  go_simp
  go_at_call 55; refine (Or_c (some ⟨v9.heap.size, 0, none⟩) 10 [cI x0 y0, cI x1 y1, cI x2 y2, cB x3 y3, cB x4 y4, cI x5 y5, cI x6 y6, cI x7 y7, cI x8 y8, r] _ (lit_C v9 3 _ 10 rfl _ rfl (by simp)) (by simp) (by simp)).mono ?_; rintro e vo ⟨rfl, hb⟩; have HB8 : Hid (DB w1 vo) := hHeld.trans hb
  refine hK.out _ _ HB8.out (fun hHeld => ?_)
  clear hK K
  refine pure_ (i := 52) (N := some 4) (v := ?_) (a' := ?_) #[true, true, true, true, true, true, true, true, true, true, true, true, true, true, true, true, true, true, true, true, true, true, true, true, true, true, true, true, true, true, true, true, true, true, true, true, true, true, true, true, true, true, true, true, true, true, true, true, true, true, true, true, true] rfl rfl (any_of HT_.out (by kernel_rfl)) (fun _ _ _ h => h) (Or.inl ⟨by rfl, ?_⟩) ?_ ?_
  rotate_left
  · intro w'
    go_simp
    with_reducible rfl
  rotate_left
  · simp only [Act.put, List.setIfInBounds_toArray, List.set_cons_zero, List.set_cons_succ]
    rfl
  refine done_ (done_of HT_.out (by kernel_rfl)) ?_
  clear HT_ HW_ hHeld
  go_wp2_with fail
  go_ret
  exact ⟨by rw [orL10, ← hr.out]; rfl, HB.out.trans HB8.out⟩
end Go.Proofs.Ytamcchdblglfoaa.Ft
