/- ExemplarPlays: the law's walk. -/
import Derived.Test.YtbedoahkpdpmeaaExR
import Derived.LoopTactic
set_option linter.unusedVariables false
set_option linter.unusedSimpArgs false
namespace Go.Proofs.Ytbedoahkpdpmeaa.exemplarPlays
open Go.RowKit Go.Proofs.Ytbedoahkpdpmeaa.B0 Go.Proofs.Ytbedoahkpdpmeaa.Pe Go.Proofs.YtbedoahkpdpmeaaW.PrintWords Go.Proofs.YtbedoahkpdpmeaaW.PrintLast Go.Proofs.Ytbedoahkpdpmeaa.Ex

attribute [local go_sem high] eqA31 eqA32
/-- the best of the first j. -/
def bst (l : List S32) (j : Nat) : List One := bestF ((l.take j).map toE)
theorem bst_snoc {l : List S32} {j : Nat} {y : S32} (h : l[j]? = some y) (m : Nat) : putX m ((bst l j).take m) (toE y) = (bst l (j + 1)).take m := by
  unfold bst
  rw [put_best, List.take_add_one, h]; simp
theorem cells_of {w : World} {ad : Addr} {l : List S32} (h : Kd.C k32 w (some ad) l.length l) {j : Nat} {y : S32} (hy : l[j]? = some y) :
    w.cell? (ad.add (j * 4)) = some (.int .u64 y.f0) ∧ w.cell? ⟨(ad.add (j * 4)).block, (ad.add (j * 4)).off + 1, none⟩ = some (.int .u64 y.f1) ∧ w.cell? ⟨(ad.add (j * 4)).block, (ad.add (j * 4)).off + 2, none⟩ = some (.int .u64 y.f2) ∧ w.cell? ⟨(ad.add (j * 4)).block, (ad.add (j * 4)).off + 3, none⟩ = some (.bool y.f3) := by
  have hj := (List.getElem?_eq_some_iff.1 hy).1
  obtain ⟨ad', e', x⟩ := at_T32 h (j : Int) (by omega) (by omega)
  cases e'
  rw [rdR hy] at x
  simpa only [Int.toNat_natCast] using x
theorem some_of {w : World} {A : Option Addr} {l : List S32} (h : Kd.C k32 w A l.length l) (hl : 0 < l.length) : ∃ ad, A = some ad := by
  obtain ⟨ad, e, _⟩ := at_T32 h 0 (by omega) (by omega)
  exact ⟨ad, e⟩
theorem u8_wf {a : Int} (h : (Lit.int .u8 a).wf = true) : 0 ≤ a ∧ a < 256 := by
  have h : IntKind.u8.min ≤ a ∧ a ≤ IntKind.u8.max := by simpa [Lit.wf] using h
  rw [show IntKind.u8.min = 0 from by decide, show IntKind.u8.max = 255 from by decide] at h
  omega

theorem bst_all {l l' : List Rf} (hl : l'.length = l.length) (h : ∀ z, z ∈ l' ↔ z ∈ l) : bst l' l.length = bst l l.length := by
  unfold bst
  rw [List.take_of_length_le (by omega), List.take_length]
  refine bestF_perm fun z => ?_
  simp only [List.mem_map]
  exact ⟨fun ⟨a, ha, e⟩ => ⟨a, (h a).1 ha, e⟩, fun ⟨a, ha, e⟩ => ⟨a, (h a).2 ha, e⟩⟩
theorem bst_len (l : List Rf) (j m : Nat) : ((bst l j).take m).length ≤ m := by rw [List.length_take]; omega
theorem Best_n {w : World} {A : Option Addr} {c n : Nat} {L : List Rf} (m : Int) (h0 : 0 ≤ m) (hL : L.length ≤ 60) (h : Kd.C k32 w A L.length L) (hc : L.length ≤ c) (hn : n ≤ L.length) :
    Calls Try.prog 11 #[.slice A n c, .int .i64 m] w fun e w' => ∃ A' c' R, e = .returned (.slice A' R.length c') ∧ R.length ≤ c' ∧ Hid (R = ((bst L n).take m.toNat).map toR) ∧ Kd.C k32 w' A' R.length R ∧ Below w.heap.size w w' := by
  have hl : (L.take n).length = n := by rw [List.length_take]; omega
  have := Best_r m h0 (L := L.take n) (w := w) (A := A) (c := c) (by omega) (Kd.C_take h hn) (by omega)
  rw [hl] at this
  exact this.mono fun e w' ⟨A', c', h1, h2, h3, h4⟩ => ⟨A', c', _, h1, h2, rfl, h3, h4⟩

def T3_14 : Bool × List (List Nat × List Nat) := (true, [([], []), ([], []), ([], []), ([1, 2], [1, 2]), ([3], [3]), ([0, 4], [0, 4]), ([5], [5]), ([6, 5], [6]), ([7], [7]), ([7], [7]), ([7], [7]), ([10, 7], [7, 10]), ([11, 7], [7, 11]), ([7], [7]), ([12, 13, 7], [7, 12, 13]), ([7], [7]), ([15, 7], [7, 15]), ([14, 16, 7], [7, 14, 16]), ([7], [7]), ([18, 7], [7, 18]), ([17, 19, 7], [7, 17, 19]), ([9, 20, 7], [7, 9, 20]), ([21, 7], [7, 21]), ([8, 22, 7, 7], [7, 8, 22]), ([23, 7], [7, 23]), ([7, 24], [7, 24]), ([25, 23], [25]), ([26], [26]), ([27, 26, 26], [26, 27]), ([26], [26]), ([26], [26]), ([30, 26], [26, 30]), ([29, 31, 26], [26, 29, 31]), ([26], [26]), ([32, 33, 28, 26], [26, 32, 33]), ([28, 34, 34, 26], [26, 28, 34]), ([35, 26], [26, 35]), ([26, 36], [26, 36])])
def B3_14 : List Nat := [0, 0, 0, 6, 14, 31, 63, 127, 255, 255, 255, 1279, 3327, 255, 15615, 255, 33023, 130303, 255, 262399, 1047807, 2096895, 4194047, 8388607, 16777215, 33554431, 67108863, 134217727, 268435455, 134217727, 134217727, 1207959551, 3892314111, 134217727, 17179869183, 34359738367, 68719476735, 137438953471]
theorem tab3_14 : rtab .any (opsOf Try.f3 14) = T3_14 := by kernel_rfl
theorem bits3_14 : waitsOk T3_14.2 B3_14 = true := by kernel_rfl
set_option maxRecDepth 100000 in
set_option maxHeartbeats 1500000 in
theorem exemplarPlays_walk (w : World) (a0 : Int) (w0 : (Lit.int .i64 a0).wf = true) (A1 : Option Addr) (c1 : Nat) (l1 : List S32) (C1 : Kd.C k32 w A1 l1.length l1) (hc1 : l1.length ≤ c1) (m1 : l1.length ≤ maxLen) (W1 : ∀ x ∈ l1, W32 x) (a2 : Int) (w2 : (Lit.int .u8 a2).wf = true) :
    Calls Try.prog 3 #[.int .i64 a0, .slice A1 l1.length c1, .int .u8 a2] w fun e w' => e = .returned (.bool true) ∧ Below w.heap.size w w' := by
  have K1 := Lib.hid C1; clear C1
  have b2 := u8_wf w2
  clear w0 w2 W1
  unfold maxLen at m1
  obtain ⟨b20, b21⟩ := b2
  go_enter Try.func3, Try.ntmps3
  go_wp2_with fail
  refine (alive21 w).mono ?_
  rintro e wa ⟨rfl, hBa⟩
  have HBa := Lib.hid hBa; clear hBa
  by_cases h60 : (60 : Int) < l1.length
  · go_wp2_with fail
    go_ret
    exact ⟨rfl, HBa.out⟩
  by_cases hlo : a0 < 0
  · go_wp2_with fail
    refine (New_no a0 wa (.inl hlo)).mono ?_
    rintro e wb ⟨rfl, rfl⟩
    go_wp2_with fail
    refine (New_no a0 wa (.inl hlo)).mono ?_
    rintro e wb ⟨rfl, rfl⟩
    go_wp2_with fail
    go_ret
    exact ⟨rfl, HBa.out⟩
  by_cases hhi : 16 < a0
  · go_wp2_with fail
    refine (New_no a0 wa (.inr hhi)).mono ?_
    rintro e wb ⟨rfl, rfl⟩
    go_wp2_with fail
    refine (New_no a0 wa (.inr hhi)).mono ?_
    rintro e wb ⟨rfl, rfl⟩
    go_wp2_with fail
    go_ret
    exact ⟨rfl, HBa.out⟩
  have h0 : 0 ≤ a0 := by omega
  have h16 : a0 ≤ 16 := by omega
  go_wp2_with fail
  refine (New_1 a0 wa h0 h16).mono ?_
  rintro e wb ⟨p, rfl, hK1, hBb⟩
  have HK1 := Lib.hid hK1; have HBb := Lib.hid hBb; clear hK1 hBb
  go_wp2_with fail
  refine (New_2 HK1.out a0 h0 h16).mono ?_
  rintro e wc ⟨q, rfl, hK2, hBc⟩
  have HK2 := Lib.hid hK2; have HBc := Lib.hid hBc; clear hK2 hBc
  have HB0 := Lib.hid (HBa.out.trans ((HBb.out.trans (HBc.out.mono HBb.out.size)).mono HBa.out.size))
  obtain ⟨B, hB⟩ : ∃ B, Hid (B = wa.heap.size) := ⟨_, rfl⟩
  rw [← hB.out] at HK2
  have hBw : Hid (w.heap.size ≤ B) := by have := HBa.out.size; have := hB.out; show _ ≤ _; omega
  have hBc : Hid (B ≤ wc.heap.size) := by have := HBb.out.size; have := HBc.out.size; have := hB.out; show _ ≤ _; omega
  clear HBb HBc HBa HK1 hB
  obtain ⟨by', hby⟩ : ∃ b : Nat, Hid (a2 = (b : Int)) := ⟨a2.toNat, by show a2 = _; omega⟩
  obtain ⟨lr, hlr⟩ : ∃ lr, Hid (lr = rot l1 by') := ⟨_, rfl⟩
  go_wp2_with fail
  go_loopw [11] (fun iv wr => ∃ j : Nat, iv = .int .i64 j ∧ j ≤ l1.length ∧ Hid (K2 wr B p a0 ((bst l1 j).take a0.toNat) q a0 ((bst lr j).take a0.toNat)) ∧ Hid (Below w.heap.size w wr) ∧ Hid (B ≤ wr.heap.size)) (fun iv _ => l1.length - (intOf iv).toNat)
  case atStart => exact ⟨0, rfl, Nat.zero_le _, by simpa [bst, bestF] using HK2, HB0, hBc⟩
  case round =>
    obtain ⟨j, rfl, hj, HK, HB, hBr⟩ := hrel
    by_cases hjl : j < l1.length
    · have hji : (j : Int) < l1.length := by omega
      obtain ⟨k, hk⟩ : ∃ k, Hid (k = idx l1.length by' j) := ⟨_, rfl⟩
      have hkl : k < l1.length := by rw [hk.out]; exact idx_lt _ hjl
      obtain ⟨x, hx⟩ : ∃ x, l1[j]? = some x := ⟨_, List.getElem?_eq_getElem hjl⟩
      obtain ⟨y, hy⟩ : ∃ y, l1[k]? = some y := ⟨_, List.getElem?_eq_getElem hkl⟩
      obtain ⟨X, HX⟩ : ∃ X, Hid (X = (bst l1 (j + 1)).take a0.toNat) := ⟨_, rfl⟩
      have HP1 : Hid (putX a0.toNat ((bst l1 j).take a0.toNat) (toE x) = X) := by rw [HX.out]; exact bst_snoc hx _
      have HP2 : Hid (putX a0.toNat ((bst lr j).take a0.toNat) (toE y) = (bst lr (j + 1)).take a0.toNat) := bst_snoc (by rw [hlr.out]; exact rot_at hjl (by rw [← hk.out]; exact hy)) _
      obtain ⟨ad, rfl⟩ := some_of K1.out (by omega)
      have E8 : Hid (∀ w', Below w.heap.size w w' → (w'.cell? (ad.add (j * 4)) = some (.int .u64 x.f0) ∧ w'.cell? ⟨(ad.add (j * 4)).block, (ad.add (j * 4)).off + 1, none⟩ = some (.int .u64 x.f1) ∧ w'.cell? ⟨(ad.add (j * 4)).block, (ad.add (j * 4)).off + 2, none⟩ = some (.int .u64 x.f2) ∧ w'.cell? ⟨(ad.add (j * 4)).block, (ad.add (j * 4)).off + 3, none⟩ = some (.bool x.f3)) ∧ (w'.cell? (ad.add (k * 4)) = some (.int .u64 y.f0) ∧ w'.cell? ⟨(ad.add (k * 4)).block, (ad.add (k * 4)).off + 1, none⟩ = some (.int .u64 y.f1) ∧ w'.cell? ⟨(ad.add (k * 4)).block, (ad.add (k * 4)).off + 2, none⟩ = some (.int .u64 y.f2) ∧ w'.cell? ⟨(ad.add (k * 4)).block, (ad.add (k * 4)).off + 3, none⟩ = some (.bool y.f3))) := fun w' hB => ⟨cells_of (Kd.C_below K1.out hB) hx, cells_of (Kd.C_below K1.out hB) hy⟩
      have HIX : Hid (((l1.length : Int) - 1 - j + a2) % l1.length = (k : Int)) := by show _ = _; rw [hby.out, hk.out]; exact idx_int hjl
      clear hx hy
      have HKd := Lib.hid (HK.out.below (Below_drewN (Below.refl wr.heap.size wr) 1) (Nat.le_refl _))
      have HBd : Hid (Below w.heap.size w (wr.drewN 1)) := Below_drewN HB.out 1
      have hPl : X.length ≤ 60 := by rw [HX.out]; exact Nat.le_trans (bst_len _ _ _) (by omega)
      go_wp2_with fail
      have z1 : IntKind.i64.wrap ((l1.length : Int) - 1) = (l1.length : Int) - 1 := by rw [IntKind.wrap_i64]; omega
      have z2 : IntKind.i64.wrap ((l1.length : Int) - 1 - j) = (l1.length : Int) - 1 - j := by rw [IntKind.wrap_i64]; omega
      have z3 : IntKind.i64.wrap ((l1.length : Int) - 1 - j + a2) = (l1.length : Int) - 1 - j + a2 := by rw [IntKind.wrap_i64]; omega
      have z4 : ((l1.length : Int) - 1 - j + a2).tmod l1.length = (k : Int) := by rw [Int.tmod_eq_emod_of_nonneg (by omega)]; exact HIX.out
      have z5 : ((l1.length : Int) - 1 - j + a2) % l1.length = (k : Int) := HIX.out
      have z6 : IntKind.i64.wrap ((j : Int) + 1) = (j : Int) + 1 := by rw [IntKind.wrap_i64]; omega
      have z7 : ((j : Int) + 1).toNat = j + 1 := by omega
      have z8 : (k : Int) < l1.length := by omega
      have z9 : (0 : Int) ≤ k := by omega
      have za : (0 : Int) ≤ (j : Int) + 1 := by omega
      have zb : (j : Int) + 1 ≤ (c1 : Int) := by omega
      have zc : ¬ (l1 = []) := by rintro rfl; simp at hjl
      have ze : IntKind.i64.wrap a2 = a2 := by rw [IntKind.wrap_i64]; omega
      have zd : IntKind.i64.wrap (k : Int) = k := by rw [IntKind.wrap_i64]; omega
      refine start_ (n := 38) (S := (fun w' => (w'.cell? (ad.add (j * 4)) = some (.int .u64 x.f0) ∧ w'.cell? ⟨(ad.add (j * 4)).block, (ad.add (j * 4)).off + 1, none⟩ = some (.int .u64 x.f1) ∧ w'.cell? ⟨(ad.add (j * 4)).block, (ad.add (j * 4)).off + 2, none⟩ = some (.int .u64 x.f2) ∧ w'.cell? ⟨(ad.add (j * 4)).block, (ad.add (j * 4)).off + 3, none⟩ = some (.bool x.f3)) ∧ (w'.cell? (ad.add (k * 4)) = some (.int .u64 y.f0) ∧ w'.cell? ⟨(ad.add (k * 4)).block, (ad.add (k * 4)).off + 1, none⟩ = some (.int .u64 y.f1) ∧ w'.cell? ⟨(ad.add (k * 4)).block, (ad.add (k * 4)).off + 2, none⟩ = some (.int .u64 y.f2) ∧ w'.cell? ⟨(ad.add (k * 4)).block, (ad.add (k * 4)).off + 3, none⟩ = some (.bool y.f3)))) (ds := []) #[false, false, false, false, false, false, false, false, false, false, false, false, false, false, false, false, false, false, false, false, false, false, false, false, false, false, false, false, false, false, false, false, false, false, false, false, false, false] (by kernel_rfl) rfl rfl (E8.out _ HBd.out) (fun hHeld => ?_); refine with_tabW tab3_14 bits3_14 (fun HT_ HW_ => ?_)
      refine pure_ (i := 0) (N := some 51) (v := ?_) (a' := ?_) #[true, false, false, false, false, false, false, false, false, false, false, false, false, false, false, false, false, false, false, false, false, false, false, false, false, false, false, false, false, false, false, false, false, false, false, false, false, false] rfl rfl (any_of HT_.out (by kernel_rfl)) (fun _ _ _ h => h) (Or.inl ⟨by rfl, ?_⟩) ?_ ?_
      rotate_left
      · intro w'
        go_simp
        with_reducible rfl
      rotate_left
      · simp only [Act.put, List.setIfInBounds_toArray, List.set_cons_zero, List.set_cons_succ]
        rfl
      refine pure_ (i := 1) (N := some 52) (v := ?_) (a' := ?_) #[true, true, false, false, false, false, false, false, false, false, false, false, false, false, false, false, false, false, false, false, false, false, false, false, false, false, false, false, false, false, false, false, false, false, false, false, false, false] rfl rfl (any_of HT_.out (by kernel_rfl)) (fun _ _ _ h => h) (Or.inl ⟨by rfl, ?_⟩) ?_ ?_
      rotate_left
      · intro w'
        go_simp
        with_reducible rfl
      rotate_left
      · simp only [Act.put, List.setIfInBounds_toArray, List.set_cons_zero, List.set_cons_succ]
        rfl
      refine pure_ (i := 2) (N := some 53) (v := ?_) (a' := ?_) #[true, true, true, false, false, false, false, false, false, false, false, false, false, false, false, false, false, false, false, false, false, false, false, false, false, false, false, false, false, false, false, false, false, false, false, false, false, false] rfl rfl (any_of HT_.out (by kernel_rfl)) (fun _ _ _ h => h) (Or.inl ⟨by rfl, ?_⟩) ?_ ?_
      rotate_left
      · intro w'
        go_simp
        with_reducible rfl
      rotate_left
      · simp only [Act.put, List.setIfInBounds_toArray, List.set_cons_zero, List.set_cons_succ]
        rfl
      refine pure_ (i := 3) (N := some 54) (v := ?_) (a' := ?_) #[true, true, true, true, false, false, false, false, false, false, false, false, false, false, false, false, false, false, false, false, false, false, false, false, false, false, false, false, false, false, false, false, false, false, false, false, false, false] rfl rfl (any_of HT_.out (by kernel_rfl)) (fun _ _ _ h => h) (Or.inl ⟨by rfl, ?_⟩) ?_ ?_
      rotate_left
      · intro w'
        go_simp
        with_reducible rfl
      rotate_left
      · simp only [Act.put, List.setIfInBounds_toArray, List.set_cons_zero, List.set_cons_succ]
        rfl
      refine take_ (i := 4) (N := some 55) (v := ?_) (a' := ?_) #[true, true, true, true, true, false, false, false, false, false, false, false, false, false, false, false, false, false, false, false, false, false, false, false, false, false, false, false, false, false, false, false, false, false, false, false, false, false] rfl rfl (take_ofW HT_.out HW_.out (by kernel_rfl)) (fun _ _ _ h => h) (Or.inl ⟨by rfl, ?_⟩) hHeld ?_ ?_
      rotate_left
      · rintro w' ⟨⟨s0, s1, s2, s3⟩, s4, s5, s6, s7⟩
        go_simp
        with_reducible rfl
      rotate_left
      · simp only [Act.put, List.setIfInBounds_toArray, List.set_cons_zero, List.set_cons_succ]
        rfl
      refine one_ (i := 5) (N := some 56) #[true, true, true, true, true, true, false, false, false, false, false, false, false, false, false, false, false, false, false, false, false, false, false, false, false, false, false, false, false, false, false, false, false, false, false, false, false, false] rfl rfl (one_of HT_.out (by kernel_rfl)) (by decide) (fun K hK => ?_)
      rw [if_pos (by rfl)]
      go_simp
      go_at_call 8; refine (Put_2 (w := wr.drewN 1) HKd.out hBr.out (toE x)).mono ?_; rintro e w2 ⟨rfl, hK2, hB2⟩; rw [HP1.out] at hK2; have HK2 := Lib.hid hK2; have HB2 : Hid (Below w.heap.size w w2) := HBd.out.trans (hB2.mono hBw.out); have hS2 : Hid (B ≤ w2.heap.size) := Nat.le_trans hBr.out hB2.size; clear hK2 hB2
      refine hK.out _ _ (E8.out _ HB2.out) (fun hHeld => ?_)
      clear hK K
      refine pure_ (i := 6) (N := some 57) (v := ?_) (a' := ?_) #[true, true, true, true, true, true, true, false, false, false, false, false, false, false, false, false, false, false, false, false, false, false, false, false, false, false, false, false, false, false, false, false, false, false, false, false, false, false] rfl rfl (any_of HT_.out (by kernel_rfl)) (fun _ _ _ h => h) (Or.inl ⟨by rfl, ?_⟩) ?_ ?_
      rotate_left
      · intro w'
        go_simp
        with_reducible rfl
      rotate_left
      · simp only [Act.put, List.setIfInBounds_toArray, List.set_cons_zero, List.set_cons_succ]
        rfl
      refine pure_ (i := 7) (N := some 58) (v := ?_) (a' := ?_) #[true, true, true, true, true, true, true, true, false, false, false, false, false, false, false, false, false, false, false, false, false, false, false, false, false, false, false, false, false, false, false, false, false, false, false, false, false, false] rfl rfl (any_of HT_.out (by kernel_rfl)) (fun _ _ _ h => h) (Or.inl ⟨by rfl, ?_⟩) ?_ ?_
      rotate_left
      · intro w'
        go_simp
        with_reducible rfl
      rotate_left
      · simp only [Act.put, List.setIfInBounds_toArray, List.set_cons_zero, List.set_cons_succ]
        rfl
      refine pure_ (i := 8) (N := some 59) (v := ?_) (a' := ?_) #[true, true, true, true, true, true, true, true, true, false, false, false, false, false, false, false, false, false, false, false, false, false, false, false, false, false, false, false, false, false, false, false, false, false, false, false, false, false] rfl rfl (any_of HT_.out (by kernel_rfl)) (fun _ _ _ h => h) (Or.inl ⟨by rfl, ?_⟩) ?_ ?_
      rotate_left
      · intro w'
        go_simp
        with_reducible rfl
      rotate_left
      · simp only [Act.put, List.setIfInBounds_toArray, List.set_cons_zero, List.set_cons_succ]
        rfl
      refine pure_ (i := 9) (N := some 60) (v := ?_) (a' := ?_) #[true, true, true, true, true, true, true, true, true, true, false, false, false, false, false, false, false, false, false, false, false, false, false, false, false, false, false, false, false, false, false, false, false, false, false, false, false, false] rfl rfl (any_of HT_.out (by kernel_rfl)) (fun _ _ _ h => h) (Or.inl ⟨by rfl, ?_⟩) ?_ ?_
      rotate_left
      · intro w'
        go_simp
        with_reducible rfl
      rotate_left
      · simp only [Act.put, List.setIfInBounds_toArray, List.set_cons_zero, List.set_cons_succ]
        rfl
      refine pure_ (i := 10) (N := some 61) (v := ?_) (a' := ?_) #[true, true, true, true, true, true, true, true, true, true, true, false, false, false, false, false, false, false, false, false, false, false, false, false, false, false, false, false, false, false, false, false, false, false, false, false, false, false] rfl rfl (any_of HT_.out (by kernel_rfl)) (fun _ _ _ h => h) (Or.inl ⟨by rfl, ?_⟩) ?_ ?_
      rotate_left
      · intro w'
        go_simp
        with_reducible rfl
      rotate_left
      · simp only [Act.put, List.setIfInBounds_toArray, List.set_cons_zero, List.set_cons_succ]
        rfl
      refine pure_ (i := 11) (N := some 62) (v := ?_) (a' := ?_) #[true, true, true, true, true, true, true, true, true, true, true, true, false, false, false, false, false, false, false, false, false, false, false, false, false, false, false, false, false, false, false, false, false, false, false, false, false, false] rfl rfl (any_of HT_.out (by kernel_rfl)) (fun _ _ _ h => h) (Or.inl ⟨by rfl, ?_⟩) ?_ ?_
      rotate_left
      · intro w'
        go_simp
        with_reducible rfl
      rotate_left
      · simp only [Act.put, List.setIfInBounds_toArray, List.set_cons_zero, List.set_cons_succ]
        rfl
      refine pure_ (i := 12) (N := some 63) (v := ?_) (a' := ?_) #[true, true, true, true, true, true, true, true, true, true, true, true, true, false, false, false, false, false, false, false, false, false, false, false, false, false, false, false, false, false, false, false, false, false, false, false, false, false] rfl rfl (any_of HT_.out (by kernel_rfl)) (fun _ _ _ h => h) (Or.inl ⟨by rfl, ?_⟩) ?_ ?_
      rotate_left
      · intro w'
        go_simp
        with_reducible rfl
      rotate_left
      · simp only [Act.put, List.setIfInBounds_toArray, List.set_cons_zero, List.set_cons_succ]
        rfl
      refine pure_ (i := 13) (N := some 64) (v := ?_) (a' := ?_) #[true, true, true, true, true, true, true, true, true, true, true, true, true, true, false, false, false, false, false, false, false, false, false, false, false, false, false, false, false, false, false, false, false, false, false, false, false, false] rfl rfl (any_of HT_.out (by kernel_rfl)) (fun _ _ _ h => h) (Or.inl ⟨by rfl, ?_⟩) ?_ ?_
      rotate_left
      · intro w'
        go_simp
        with_reducible rfl
      rotate_left
      · simp only [Act.put, List.setIfInBounds_toArray, List.set_cons_zero, List.set_cons_succ]
        rfl
      refine pure_ (i := 14) (N := some 65) (v := ?_) (a' := ?_) #[true, true, true, true, true, true, true, true, true, true, true, true, true, true, true, false, false, false, false, false, false, false, false, false, false, false, false, false, false, false, false, false, false, false, false, false, false, false] rfl rfl (any_of HT_.out (by kernel_rfl)) (fun _ _ _ h => h) (Or.inl ⟨by rfl, ?_⟩) ?_ ?_
      rotate_left
      · intro w'
        go_simp
        with_reducible rfl
      rotate_left
      · simp only [Act.put, List.setIfInBounds_toArray, List.set_cons_zero, List.set_cons_succ]
        rfl
      refine pure_ (i := 15) (N := some 66) (v := ?_) (a' := ?_) #[true, true, true, true, true, true, true, true, true, true, true, true, true, true, true, true, false, false, false, false, false, false, false, false, false, false, false, false, false, false, false, false, false, false, false, false, false, false] rfl rfl (any_of HT_.out (by kernel_rfl)) (fun _ _ _ h => h) (Or.inl ⟨by rfl, ?_⟩) ?_ ?_
      rotate_left
      · intro w'
        go_simp
        with_reducible rfl
      rotate_left
      · simp only [Act.put, List.setIfInBounds_toArray, List.set_cons_zero, List.set_cons_succ]
        rfl
      refine pure_ (i := 16) (N := some 67) (v := ?_) (a' := ?_) #[true, true, true, true, true, true, true, true, true, true, true, true, true, true, true, true, true, false, false, false, false, false, false, false, false, false, false, false, false, false, false, false, false, false, false, false, false, false] rfl rfl (any_of HT_.out (by kernel_rfl)) (fun _ _ _ h => h) (Or.inl ⟨by rfl, ?_⟩) ?_ ?_
      rotate_left
      · intro w'
        go_simp
        with_reducible rfl
      rotate_left
      · simp only [Act.put, List.setIfInBounds_toArray, List.set_cons_zero, List.set_cons_succ]
        rfl
      refine pure_ (i := 17) (N := some 68) (v := ?_) (a' := ?_) #[true, true, true, true, true, true, true, true, true, true, true, true, true, true, true, true, true, true, false, false, false, false, false, false, false, false, false, false, false, false, false, false, false, false, false, false, false, false] rfl rfl (any_of HT_.out (by kernel_rfl)) (fun _ _ _ h => h) (Or.inl ⟨by rfl, ?_⟩) ?_ ?_
      rotate_left
      · intro w'
        go_simp
        with_reducible rfl
      rotate_left
      · simp only [Act.put, List.setIfInBounds_toArray, List.set_cons_zero, List.set_cons_succ]
        rfl
      refine pure_ (i := 18) (N := some 69) (v := ?_) (a' := ?_) #[true, true, true, true, true, true, true, true, true, true, true, true, true, true, true, true, true, true, true, false, false, false, false, false, false, false, false, false, false, false, false, false, false, false, false, false, false, false] rfl rfl (any_of HT_.out (by kernel_rfl)) (fun _ _ _ h => h) (Or.inl ⟨by rfl, ?_⟩) ?_ ?_
      rotate_left
      · intro w'
        go_simp
        with_reducible rfl
      rotate_left
      · simp only [Act.put, List.setIfInBounds_toArray, List.set_cons_zero, List.set_cons_succ]
        rfl
      refine pure_ (i := 19) (N := some 70) (v := ?_) (a' := ?_) #[true, true, true, true, true, true, true, true, true, true, true, true, true, true, true, true, true, true, true, true, false, false, false, false, false, false, false, false, false, false, false, false, false, false, false, false, false, false] rfl rfl (any_of HT_.out (by kernel_rfl)) (fun _ _ _ h => h) (Or.inl ⟨by rfl, ?_⟩) ?_ ?_
      rotate_left
      · intro w'
        go_simp
        with_reducible rfl
      rotate_left
      · simp only [Act.put, List.setIfInBounds_toArray, List.set_cons_zero, List.set_cons_succ]
        rfl
      refine pure_ (i := 20) (N := some 71) (v := ?_) (a' := ?_) #[true, true, true, true, true, true, true, true, true, true, true, true, true, true, true, true, true, true, true, true, true, false, false, false, false, false, false, false, false, false, false, false, false, false, false, false, false, false] rfl rfl (any_of HT_.out (by kernel_rfl)) (fun _ _ _ h => h) (Or.inl ⟨by rfl, ?_⟩) ?_ ?_
      rotate_left
      · intro w'
        go_simp
        with_reducible rfl
      rotate_left
      · simp only [Act.put, List.setIfInBounds_toArray, List.set_cons_zero, List.set_cons_succ]
        rfl
      refine pure_ (i := 21) (N := some 72) (v := ?_) (a' := ?_) #[true, true, true, true, true, true, true, true, true, true, true, true, true, true, true, true, true, true, true, true, true, true, false, false, false, false, false, false, false, false, false, false, false, false, false, false, false, false] rfl rfl (any_of HT_.out (by kernel_rfl)) (fun _ _ _ h => h) (Or.inl ⟨by rfl, ?_⟩) ?_ ?_
      rotate_left
      · intro w'
        go_simp
        with_reducible rfl
      rotate_left
      · simp only [Act.put, List.setIfInBounds_toArray, List.set_cons_zero, List.set_cons_succ]
        rfl
      refine take_ (i := 22) (N := some 73) (v := ?_) (a' := ?_) #[true, true, true, true, true, true, true, true, true, true, true, true, true, true, true, true, true, true, true, true, true, true, true, false, false, false, false, false, false, false, false, false, false, false, false, false, false, false] rfl rfl (take_ofW HT_.out HW_.out (by kernel_rfl)) (fun _ _ _ h => h) (Or.inl ⟨by rfl, ?_⟩) hHeld ?_ ?_
      rotate_left
      · rintro w' ⟨⟨s0, s1, s2, s3⟩, s4, s5, s6, s7⟩
        go_simp
        with_reducible rfl
      rotate_left
      · simp only [Act.put, List.setIfInBounds_toArray, List.set_cons_zero, List.set_cons_succ]
        rfl
      refine one_ (i := 23) (N := some 74) #[true, true, true, true, true, true, true, true, true, true, true, true, true, true, true, true, true, true, true, true, true, true, true, true, false, false, false, false, false, false, false, false, false, false, false, false, false, false] rfl rfl (one_of HT_.out (by kernel_rfl)) (by decide) (fun K hK => ?_)
      rw [if_pos (by rfl)]
      go_simp
      go_at_call 8; refine (Put_2 HK2.out.swap hS2.out (toE y)).mono ?_; rintro e w3 ⟨rfl, hK3, hB3⟩; rw [HP2.out] at hK3; have HK3 := Lib.hid hK3.swap; have HB3 : Hid (Below w.heap.size w w3) := HB2.out.trans (hB3.mono hBw.out); have hS3 : Hid (B ≤ w3.heap.size) := Nat.le_trans hS2.out hB3.size; clear hK3 hB3
      refine hK.out _ _ (E8.out _ HB3.out) (fun hHeld => ?_)
      clear hK K
      refine pure_ (i := 24) (N := some 75) (v := ?_) (a' := ?_) #[true, true, true, true, true, true, true, true, true, true, true, true, true, true, true, true, true, true, true, true, true, true, true, true, true, false, false, false, false, false, false, false, false, false, false, false, false, false] rfl rfl (any_of HT_.out (by kernel_rfl)) (fun _ _ _ h => h) (Or.inl ⟨by rfl, ?_⟩) ?_ ?_
      rotate_left
      · intro w'
        go_simp
        with_reducible rfl
      rotate_left
      · simp only [Act.put, List.setIfInBounds_toArray, List.set_cons_zero, List.set_cons_succ]
        rfl
      refine pure_ (i := 25) (N := some 76) (v := ?_) (a' := ?_) #[true, true, true, true, true, true, true, true, true, true, true, true, true, true, true, true, true, true, true, true, true, true, true, true, true, true, false, false, false, false, false, false, false, false, false, false, false, false] rfl rfl (any_of HT_.out (by kernel_rfl)) (fun _ _ _ h => h) (Or.inl ⟨by rfl, ?_⟩) ?_ ?_
      rotate_left
      · intro w'
        go_simp
        with_reducible rfl
      rotate_left
      · simp only [Act.put, List.setIfInBounds_toArray, List.set_cons_zero, List.set_cons_succ]
        rfl
      refine pure_ (i := 26) (N := some 77) (v := ?_) (a' := ?_) #[true, true, true, true, true, true, true, true, true, true, true, true, true, true, true, true, true, true, true, true, true, true, true, true, true, true, true, false, false, false, false, false, false, false, false, false, false, false] rfl rfl (any_of HT_.out (by kernel_rfl)) (fun _ _ _ h => h) (Or.inl ⟨by rfl, ?_⟩) ?_ ?_
      rotate_left
      · intro w'
        go_simp
        with_reducible rfl
      rotate_left
      · simp only [Act.put, List.setIfInBounds_toArray, List.set_cons_zero, List.set_cons_succ]
        rfl
      refine pure_ (i := 27) (N := some 78) (v := ?_) (a' := ?_) #[true, true, true, true, true, true, true, true, true, true, true, true, true, true, true, true, true, true, true, true, true, true, true, true, true, true, true, true, false, false, false, false, false, false, false, false, false, false] rfl rfl (any_of HT_.out (by kernel_rfl)) (fun _ _ _ h => h) (Or.inl ⟨by rfl, ?_⟩) ?_ ?_
      rotate_left
      · intro w'
        go_simp
        with_reducible rfl
      rotate_left
      · simp only [Act.put, List.setIfInBounds_toArray, List.set_cons_zero, List.set_cons_succ]
        rfl
      refine pure_ (i := 29) (N := some 80) (v := ?_) (a' := ?_) #[true, true, true, true, true, true, true, true, true, true, true, true, true, true, true, true, true, true, true, true, true, true, true, true, true, true, true, true, false, true, false, false, false, false, false, false, false, false] rfl rfl (any_of HT_.out (by kernel_rfl)) (fun _ _ _ h => h) (Or.inl ⟨by rfl, ?_⟩) ?_ ?_
      rotate_left
      · intro w'
        go_simp
        with_reducible rfl
      rotate_left
      · simp only [Act.put, List.setIfInBounds_toArray, List.set_cons_zero, List.set_cons_succ]
        rfl
      refine pure_ (i := 30) (N := some 81) (v := ?_) (a' := ?_) #[true, true, true, true, true, true, true, true, true, true, true, true, true, true, true, true, true, true, true, true, true, true, true, true, true, true, true, true, false, true, true, false, false, false, false, false, false, false] rfl rfl (any_of HT_.out (by kernel_rfl)) (fun _ _ _ h => h) (Or.inl ⟨by rfl, ?_⟩) ?_ ?_
      rotate_left
      · intro w'
        go_simp
        with_reducible rfl
      rotate_left
      · simp only [Act.put, List.setIfInBounds_toArray, List.set_cons_zero, List.set_cons_succ]
        rfl
      refine pure_ (i := 31) (N := some 82) (v := ?_) (a' := ?_) #[true, true, true, true, true, true, true, true, true, true, true, true, true, true, true, true, true, true, true, true, true, true, true, true, true, true, true, true, false, true, true, true, false, false, false, false, false, false] rfl rfl (any_of HT_.out (by kernel_rfl)) (fun _ _ _ h => h) (Or.inl ⟨by rfl, ?_⟩) ?_ ?_
      rotate_left
      · intro w'
        go_simp
        with_reducible rfl
      rotate_left
      · simp only [Act.put, List.setIfInBounds_toArray, List.set_cons_zero, List.set_cons_succ]
        rfl
      refine pure_ (i := 32) (N := some 83) (v := ?_) (a' := ?_) #[true, true, true, true, true, true, true, true, true, true, true, true, true, true, true, true, true, true, true, true, true, true, true, true, true, true, true, true, false, true, true, true, true, false, false, false, false, false] rfl rfl (any_of HT_.out (by kernel_rfl)) (fun _ _ _ h => h) (Or.inl ⟨by rfl, ?_⟩) ?_ ?_
      rotate_left
      · intro w'
        go_simp
        with_reducible rfl
      rotate_left
      · simp only [Act.put, List.setIfInBounds_toArray, List.set_cons_zero, List.set_cons_succ]
        rfl
      refine pure_ (i := 33) (N := some 84) (v := ?_) (a' := ?_) #[true, true, true, true, true, true, true, true, true, true, true, true, true, true, true, true, true, true, true, true, true, true, true, true, true, true, true, true, false, true, true, true, true, true, false, false, false, false] rfl rfl (any_of HT_.out (by kernel_rfl)) (fun _ _ _ h => h) (Or.inl ⟨by rfl, ?_⟩) ?_ ?_
      rotate_left
      · intro w'
        go_simp
        with_reducible rfl
      rotate_left
      · simp only [Act.put, List.setIfInBounds_toArray, List.set_cons_zero, List.set_cons_succ]
        rfl
      refine one_ (i := 28) (N := some 79) #[true, true, true, true, true, true, true, true, true, true, true, true, true, true, true, true, true, true, true, true, true, true, true, true, true, true, true, true, true, true, true, true, true, true, false, false, false, false] rfl rfl (one_of HT_.out (by kernel_rfl)) (by decide) (fun K hK => ?_)
      rw [if_pos (by rfl)]
      go_simp
      go_at_call 10; refine (Best_1 HK3.out.one).mono ?_; rintro e w4 ⟨v4, rfl, hO4, hB4⟩; obtain ⟨A4, c4, rfl, hc4, hC4⟩ := C_of_own hO4; have HC4 := Lib.hid hC4; have HK4 := Lib.hid (HK3.out.below hB4 (Nat.le_refl _)); have HB4 : Hid (Below w.heap.size w w4) := HB3.out.trans (hB4.mono HB3.out.size); have hS4 : Hid (B ≤ w4.heap.size) := Nat.le_trans hS3.out hB4.size; clear hC4 hO4 hB4
      refine hK.out _ _ (E8.out _ HB4.out) (fun hHeld => ?_)
      clear hK K
      refine one_ (i := 34) (N := some 85) #[true, true, true, true, true, true, true, true, true, true, true, true, true, true, true, true, true, true, true, true, true, true, true, true, true, true, true, true, true, true, true, true, true, true, true, false, false, false] rfl rfl (one_of HT_.out (by kernel_rfl)) (by decide) (fun K hK => ?_)
      rw [if_pos (by rfl)]
      go_simp
      go_at_call 11; refine (Best_n a0 h0 (by omega) (Kd.C_below K1.out HB4.out) hc1 (show j + 1 ≤ l1.length by omega)).mono ?_; rintro e w5 ⟨A5, c5, R5, rfl, hc5, HR5, hC5, hB5⟩; have HC5 := Lib.hid hC5; have HC45 := Lib.hid (Kd.C_below HC4.out hB5); have HK5 := Lib.hid (HK4.out.below hB5 (Nat.le_refl _)); have HB5 : Hid (Below w.heap.size w w5) := HB4.out.trans (hB5.mono HB4.out.size); have hS5 : Hid (B ≤ w5.heap.size) := Nat.le_trans hS4.out hB5.size; clear hC5 hB5
      refine hK.out _ _ (E8.out _ HB5.out) (fun hHeld => ?_)
      clear hK K
      refine one_ (i := 35) (N := some 86) #[true, true, true, true, true, true, true, true, true, true, true, true, true, true, true, true, true, true, true, true, true, true, true, true, true, true, true, true, true, true, true, true, true, true, true, true, false, false] rfl rfl (one_of HT_.out (by kernel_rfl)) (by decide) (fun K hK => ?_)
      rw [if_pos (by rfl)]
      go_simp
      go_at_call 9; refine (Same_t hPl (HR5.out.trans (by rw [HX.out])) HC45.out hc4 HC5.out hc5).mono ?_; rintro e w6 ⟨rfl, hB6⟩; have HK6 := Lib.hid (HK5.out.below hB6 (Nat.le_refl _)); have HB6 : Hid (Below w.heap.size w w6) := HB5.out.trans (hB6.mono HB5.out.size); have hS6 : Hid (B ≤ w6.heap.size) := Nat.le_trans hS5.out hB6.size; clear hB6
      refine hK.out _ _ (E8.out _ HB6.out) (fun hHeld => ?_)
      clear hK K
      refine pure_ (i := 36) (N := some 87) (v := ?_) (a' := ?_) #[true, true, true, true, true, true, true, true, true, true, true, true, true, true, true, true, true, true, true, true, true, true, true, true, true, true, true, true, true, true, true, true, true, true, true, true, true, false] rfl rfl (any_of HT_.out (by kernel_rfl)) (fun _ _ _ h => h) (Or.inl ⟨by rfl, ?_⟩) ?_ ?_
      rotate_left
      · intro w'
        go_simp
        with_reducible rfl
      rotate_left
      · simp only [Act.put, List.setIfInBounds_toArray, List.set_cons_zero, List.set_cons_succ]
        rfl
      refine pure_ (i := 37) (N := some 88) (v := ?_) (a' := ?_) #[true, true, true, true, true, true, true, true, true, true, true, true, true, true, true, true, true, true, true, true, true, true, true, true, true, true, true, true, true, true, true, true, true, true, true, true, true, true] rfl rfl (any_of HT_.out (by kernel_rfl)) (fun _ _ _ h => h) (Or.inl ⟨by rfl, ?_⟩) ?_ ?_
      rotate_left
      · intro w'
        go_simp
        with_reducible rfl
      rotate_left
      · simp only [Act.put, List.setIfInBounds_toArray, List.set_cons_zero, List.set_cons_succ]
        rfl
      refine done_ (done_of HT_.out (by kernel_rfl)) ?_
      clear HT_ HW_ hHeld
      clear z1 z2 z3 z4 z5 z6 z7 z8 z9 za zb zc zd ze
      go_wp2_with fail
      go_roundw
      case rel => exact ⟨j + 1, by go_num, by omega, by rw [← HX.out]; exact HK6.out, HB6.out, hS6.out⟩
      case measure => simp [intOf]; omega
    · obtain rfl : l1.length = j := by omega
      have hE : Hid (bst lr l1.length = bst l1 l1.length) := bst_all (by rw [hlr.out]; exact rot_len _ _) (by rw [hlr.out]; exact rot_mem _ _)
      rw [hE.out] at HK
      obtain ⟨X, HX⟩ : ∃ X, Hid (X = (bst l1 l1.length).take a0.toNat) := ⟨_, rfl⟩
      rw [← HX.out] at HK
      have hPl : X.length ≤ 60 := by rw [HX.out]; exact Nat.le_trans (bst_len _ _ _) (by omega)
      go_wp2_with fail
      refine (Best_1 HK.out.swap.one).mono ?_
      rintro e w4 ⟨v4, rfl, hO4, hB4⟩
      obtain ⟨A4, c4, rfl, hc4, hC4⟩ := C_of_own hO4
      have HC4 := Lib.hid hC4
      have HB4 : Hid (Below w.heap.size w w4) := HB.out.trans (hB4.mono HB.out.size)
      clear hC4 hO4 hB4
      go_wp2_with fail
      refine (Best_n a0 h0 (by omega) (Kd.C_below K1.out HB4.out) hc1 (Nat.le_refl _)).mono ?_
      rintro e w5 ⟨A5, c5, R5, rfl, hc5, HR5, hC5, hB5⟩
      have HC5 := Lib.hid hC5
      have HC45 := Lib.hid (Kd.C_below HC4.out hB5)
      have HB5 : Hid (Below w.heap.size w w5) := HB4.out.trans (hB5.mono HB4.out.size)
      clear hC5 hB5
      go_wp2_with fail
      refine (Same_t hPl (HR5.out.trans (by rw [HX.out])) HC45.out hc4 HC5.out hc5).mono ?_
      rintro e w6 ⟨rfl, hB6⟩
      have HB6 : Hid (Below w.heap.size w w6) := HB5.out.trans (hB6.mono HB5.out.size)
      clear hB6
      go_wp2_with fail
      go_ret
      exact ⟨rfl, HB6.out⟩
end Go.Proofs.Ytbedoahkpdpmeaa.exemplarPlays
