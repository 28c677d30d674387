/- ExemplarMore: the law's walk. -/
import Derived.Test.YtbedoahkpdpmeaaExB
import Derived.Test.YtbedoahkpdpmeaaEx9
import Derived.Test.YtbedoahkpdpmeaaPeOp
import Derived.LoopTactic
import Derived.StillTailTactics
set_option linter.unusedVariables false
set_option linter.unusedSimpArgs false
namespace Go.Proofs.Ytbedoahkpdpmeaa.exemplarMore
open Go.RowKit Go.Proofs.Ytbedoahkpdpmeaa.B0 Go.Proofs.Ytbedoahkpdpmeaa.Pe Go.Proofs.YtbedoahkpdpmeaaW.PrintWords Go.Proofs.YtbedoahkpdpmeaaW.PrintLast Go.Proofs.Ytbedoahkpdpmeaa.Ex

attribute [local go_sem high] eqA31 eqA32
/-- the best of the first j. -/
def bst (l : List S32) (j : Nat) : List One := bestF ((l.take j).map toE)
theorem bst_snoc {l : List S32} {j : Nat} {y : S32} (h : l[j]? = some y) (m : Nat) : putX m ((bst l j).take m) (toE y) = (bst l (j + 1)).take m := by
  unfold bst
  rw [put_best, List.take_add_one, h]; simp
theorem cells_of {w : World} {ad : Addr} {l : List S32} (h : Kd.C k32 w (some ad) l.length l) {j : Nat} {y : S32} (hy : l[j]? = some y) :
    w.cell? (ad.add (j * 4)) = some (.int .u64 y.f0) ∧ w.cell? ⟨(ad.add (j * 4)).block, (ad.add (j * 4)).off + 1, none⟩ = some (.int .u64 y.f1) ∧ w.cell? ⟨(ad.add (j * 4)).block, (ad.add (j * 4)).off + 2, none⟩ = some (.int .u64 y.f2) ∧ w.cell? ⟨(ad.add (j * 4)).block, (ad.add (j * 4)).off + 3, none⟩ = some (.bool y.f3) := by
  have hj := (List.getElem?_eq_some_iff.1 hy).1
  obtain ⟨ad', e', x⟩ := at_T32 h (j : Int) (by omega) (by omega)
  cases e'
  rw [rdR hy] at x
  simpa only [Int.toNat_natCast] using x
theorem some_of {w : World} {A : Option Addr} {l : List S32} (h : Kd.C k32 w A l.length l) (hl : 0 < l.length) : ∃ ad, A = some ad := by
  obtain ⟨ad, e, _⟩ := at_T32 h 0 (by omega) (by omega)
  exact ⟨ad, e⟩
theorem u8_wf {a : Int} (h : (Lit.int .u8 a).wf = true) : 0 ≤ a ∧ a < 256 := by
  have h : IntKind.u8.min ≤ a ∧ a ≤ IntKind.u8.max := by simpa [Lit.wf] using h
  rw [show IntKind.u8.min = 0 from by decide, show IntKind.u8.max = 255 from by decide] at h
  omega

def T4_20 : Bool × List (List Nat × List Nat) := (true, [([], []), ([], []), ([1], [1]), ([0, 2], [0, 2]), ([3], [3]), ([4], [4]), ([4], [4]), ([5, 6, 4], [4, 5, 6]), ([7, 4], [4, 7]), ([4], [4]), ([4], [4]), ([9, 10, 4], [4, 9, 10]), ([11, 4], [4, 11]), ([8, 12, 4], [4, 8, 12]), ([4, 13], [4, 13]), ([14, 4], [14]), ([15], [15]), ([16, 15], [15, 16]), ([17, 15, 15], [15, 17]), ([18], [18]), ([18], [18]), ([20, 18], [18, 20]), ([19, 21, 18], [18, 19, 21]), ([22, 18], [18, 22]), ([18], [18]), ([18], [18]), ([24, 25, 18], [18, 24, 25]), ([26, 18], [18, 26]), ([23, 27, 18, 18], [18, 23, 27]), ([28, 18], [18, 28]), ([18, 29, 15], [15, 18, 29]), ([15, 30], [15, 30])])
def B4_20 : List Nat := [0, 0, 2, 7, 15, 31, 31, 127, 255, 31, 31, 1567, 3615, 8191, 16383, 32767, 65535, 131071, 262143, 524287, 524287, 1572863, 4194303, 8388607, 524287, 524287, 50855935, 117964799, 268435455, 536870911, 1073741823, 2147483647]
theorem tab4_20 : rtab .any (opsOf Try.f4 20) = T4_20 := by kernel_rfl
theorem bits4_20 : waitsOk T4_20.2 B4_20 = true := by kernel_rfl
set_option maxRecDepth 100000 in
set_option maxHeartbeats 8000000 in
theorem exemplarMore_walk (w : World) (A0 : Option Addr) (c0 : Nat) (l0 : List S32) (C0 : Kd.C k32 w A0 l0.length l0) (_hc0 : l0.length ≤ c0) (m0 : l0.length ≤ maxLen) (W0 : ∀ x ∈ l0, W32 x) (a1 : Int) (w1 : (Lit.int .u8 a1).wf = true) (a2 : Int) (w2 : (Lit.int .u8 a2).wf = true) :
    Calls Try.prog 4 #[.slice A0 l0.length c0, .int .u8 a1, .int .u8 a2] w fun e w' => e = .returned (.bool true) ∧ Below w.heap.size w w' := by
  have K0 := Lib.hid C0; clear C0
  have b1 := u8_wf w1
  have b2 := u8_wf w2
  clear w1 w2 W0
  unfold maxLen at m0
  obtain ⟨b10, b11⟩ := b1
  obtain ⟨b20, b21⟩ := b2
  have cases3 : a1 % 17 < a2 % 17 ∨ a2 % 17 < a1 % 17 ∨ (a1 % 17 ≤ a2 % 17 ∧ a2 % 17 ≤ a1 % 17) := by omega
  rcases cases3 with hab | hab | ⟨hab, hab2⟩
  all_goals
    go_enter Try.func4, Try.ntmps4
    go_wp2_with fail
    refine (alive21 w).mono ?_
    rintro e wa ⟨rfl, hBa⟩
    have HBa := Lib.hid hBa; clear hBa
    by_cases h60 : (60 : Int) < l0.length
    · go_wp2_with fail
      go_ret
      exact ⟨rfl, HBa.out⟩
    go_wp2_with fail
    refine (New_1 _ wa (by omega) (by omega)).mono ?_
    rintro e wb ⟨p, rfl, hK1, hBb⟩
    have HK1 := Lib.hid hK1; have HBb := Lib.hid hBb; clear hK1 hBb
    go_wp2_with fail
    refine (New_2 HK1.out _ (by omega) (by omega)).mono ?_
    rintro e wc ⟨q, rfl, hK2, hBc⟩
    have HK2 := Lib.hid hK2; have HBc := Lib.hid hBc; clear hK2 hBc
    have HB0 := Lib.hid (HBa.out.trans ((HBb.out.trans (HBc.out.mono HBb.out.size)).mono HBa.out.size))
    obtain ⟨B, hB⟩ : ∃ B, Hid (B = wa.heap.size) := ⟨_, rfl⟩
    rw [← hB.out] at HK2
    have hBw : Hid (w.heap.size ≤ B) := by have := HBa.out.size; have := hB.out; show _ ≤ _; omega
    have hBc : Hid (B ≤ wc.heap.size) := by have := HBb.out.size; have := HBc.out.size; have := hB.out; show _ ≤ _; omega
    obtain ⟨lo, hi, HK3, h0, hlh, h16, hmx⟩ : ∃ lo hi : Int, Hid (K2 wc B p lo [] q hi []) ∧ 0 ≤ lo ∧ lo ≤ hi ∧ hi ≤ 16 ∧ Hid (hi ≤ a1 % 17 ∨ hi ≤ a2 % 17) := ⟨_, _, HK2, by omega, by omega, by omega, by first | exact .inl (Int.le_refl _) | exact .inr (Int.le_refl _)⟩
    clear HBb HBc HBa HK1 hB HK2
    go_wp2_with fail
    go_loopw [11] (fun iv wr => ∃ j : Nat, iv = .int .i64 j ∧ j ≤ l0.length ∧ Hid (K2 wr B p lo ((bst l0 j).take lo.toNat) q hi ((bst l0 j).take hi.toNat)) ∧ Hid (Below w.heap.size w wr) ∧ Hid (B ≤ wr.heap.size)) (fun iv _ => l0.length - (intOf iv).toNat)
    case atStart => exact ⟨0, rfl, Nat.zero_le _, by simpa [bst, bestF] using HK3, HB0, hBc⟩
    case round =>
      obtain ⟨j, rfl, hj, HK, HB, hBr⟩ := hrel
      by_cases hjl : j < l0.length
      · have hji : (j : Int) < l0.length := by omega
        obtain ⟨y, hy⟩ : ∃ y, l0[j]? = some y := ⟨_, List.getElem?_eq_getElem hjl⟩
        have HP1 : Hid (putX lo.toNat ((bst l0 j).take lo.toNat) (toE y) = (bst l0 (j + 1)).take lo.toNat) := bst_snoc hy _
        have HP2 : Hid (putX hi.toNat ((bst l0 j).take hi.toNat) (toE y) = (bst l0 (j + 1)).take hi.toNat) := bst_snoc hy _
        obtain ⟨ad, rfl⟩ := some_of K0.out (by omega)
        obtain ⟨x0, x1, x2, x3⟩ := cells_of (Kd.C_below K0.out HB.out) hy
        have HY := Lib.hid hy; clear hy
        go_wp2_with fail
        refine (Put_2 HK.out hBr.out (toE y)).mono ?_
        rintro e wd ⟨rfl, hK2, hBd⟩
        rw [HP1.out] at hK2
        have HK2 := Lib.hid hK2; clear hK2
        have HBd := Lib.hid hBd; clear hBd
        have hBw2 : Hid (Below w.heap.size w wd) := HB.out.trans (HBd.out.mono hBw.out)
        have hBd2 : Hid (B ≤ wd.heap.size) := Nat.le_trans hBr.out HBd.out.size
        clear x0 x1 x2 x3
        obtain ⟨x0, x1, x2, x3⟩ := cells_of (Kd.C_below K0.out hBw2.out) HY.out
        go_wp2_with fail
        refine (Put_2 HK2.out.swap hBd2.out (toE y)).mono ?_
        rintro e we ⟨rfl, hK3, hBe⟩
        rw [HP2.out] at hK3
        have HK4 := Lib.hid hK3; clear hK3
        have HBe := Lib.hid hBe; clear hBe
        clear x0 x1 x2 x3
        go_wp2_with fail
        go_roundw
        case rel => exact ⟨j + 1, by go_num, by omega, HK4.out.swap, hBw2.out.trans (HBe.out.mono hBw.out), Nat.le_trans hBd2.out HBe.out.size⟩
        case measure => simp [intOf]; omega
      · obtain rfl : l0.length = j := by omega
        obtain ⟨S, hS⟩ : ∃ S, Hid (S = bst l0 l0.length) := ⟨_, rfl⟩
        rw [← hS.out] at HK
        have hso : Hid (S.Pairwise lt4) := by rw [hS.out]; exact bestF_sorted _
        clear hS K0
        have hPl : (S.take lo.toNat).length ≤ (S.take hi.toNat).length := by simp only [List.length_take]; omega
        have hQl : ((S.take hi.toNat).length : Int) ≤ hi := by rw [List.length_take]; omega
        have hPQ : Hid (∀ i y, (S.take lo.toNat)[i]? = some y → (S.take hi.toNat)[i]? = some y) := fun i y h => by
          have hil := (List.getElem?_eq_some_iff.1 h).1
          rw [List.length_take] at hil
          rw [List.getElem?_take_of_lt (by omega)] at h ⊢
          exact h
        have hsQ : Hid (∀ i x y, (S.take hi.toNat)[i]? = some x → (S.take hi.toNat)[i + 1]? = some y → ordE x y < 0) := fun i x y hx hy => by
          obtain ⟨h1, rfl⟩ := List.getElem?_eq_some_iff.1 hx
          obtain ⟨h2, rfl⟩ := List.getElem?_eq_some_iff.1 hy
          exact (ordE_lt _ _).2 (List.pairwise_iff_getElem.1 (hso.out.sublist (List.take_sublist _ _)) i (i + 1) h1 h2 (by omega))
        generalize S.take lo.toNat = P at *
        generalize S.take hi.toNat = Q at *
        clear hso
        go_wp2_with fail
        refine (Best_1 HK.out.one).mono ?_
        rintro e wd ⟨v1, rfl, hO1, hBd⟩
        have HK2 := Lib.hid (HK.out.below hBd (Nat.le_refl _))
        have hBw2 : Hid (Below w.heap.size w wd) := HB.out.trans (hBd.mono HB.out.size)
        have HO1 := Lib.hid hO1; clear hO1 hBd
        go_wp2_with fail
        refine (Best_1 HK2.out.swap.one).mono ?_
        rintro e we ⟨v2, rfl, hO2, hBe⟩
        have hO1 := own_fr HO1.out (Fr.of_below hBe [] (Nat.le_refl _)) (by simp)
        have hBw3 : Hid (Below w.heap.size w we) := hBw2.out.trans (hBe.mono hBw2.out.size)
        obtain ⟨A1, c1, rfl, hr1⟩ := row_read hO1
        obtain ⟨A2, c2, rfl, hr2⟩ := row_read hO2
        have R1 := Lib.hid hr1; have R2 := Lib.hid hr2
        clear hr1 hr2 hO1 hO2 HO1 hBe HK2 HK HB hBr hBw2
        have hd1 : decide (Q.length < P.length) = false := decide_eq_false (by omega)
        clear hPl
        go_wp2_with fail
        clear hd1
        go_loopw [14] (fun iv wt => ∃ i : Nat, iv = .int .i64 i ∧ i ≤ Q.length ∧ Hid (Below w.heap.size w wt) ∧ Hid (Below we.heap.size we wt)) (fun iv _ => Q.length - (intOf iv).toNat)
        case atStart => exact ⟨0, rfl, Nat.zero_le _, hBw3, Below.refl _ _⟩
        case round =>
          obtain ⟨i, rfl, hi, HB, HE⟩ := hrel
          have hcell : ∀ g o v, we.cell? ⟨g, o, none⟩ = some v → wr.cell? ⟨g, o, none⟩ = some v := fun g o v h => (HE.out.cell (p := ⟨g, o, none⟩) (World.block_lt_of_cell? we _ h)).trans h
          have HC := Lib.hid hcell; clear hcell
          by_cases hiQ : i < Q.length
          · have hiI : (i : Int) < Q.length := by omega
            obtain ⟨y, hy⟩ : ∃ y, Q[i]? = some y := ⟨_, List.getElem?_eq_getElem hiQ⟩
            obtain ⟨g2, rfl, d0, d1, d2, d3⟩ := R2.out i y hy
            replace d0 := HC.out _ _ _ d0; replace d1 := HC.out _ _ _ d1; replace d2 := HC.out _ _ _ d2; replace d3 := HC.out _ _ _ d3
            have HY := Lib.hid hy; clear hy
            cases i with
            | zero =>
              simp only [Nat.zero_mul, Nat.zero_add] at d0 d1 d2 d3
              by_cases hiP : 0 < P.length
              · have hiPI : (0 : Int) < P.length := by omega
                obtain ⟨y1, hy1⟩ : ∃ y1, P[0]? = some y1 := ⟨_, List.getElem?_eq_getElem hiP⟩
                obtain ⟨g1, rfl, e0, e1, e2, e3⟩ := R1.out 0 y1 hy1
                obtain rfl : y1 = y := Option.some.inj ((hPQ.out 0 y1 hy1).symm.trans HY.out)
                replace e0 := HC.out _ _ _ e0; replace e1 := HC.out _ _ _ e1; replace e2 := HC.out _ _ _ e2; replace e3 := HC.out _ _ _ e3
                simp only [Nat.zero_mul, Nat.zero_add] at e0 e1 e2 e3
                clear hy1
                go_wp2_with fail
                go_quiet (fail)
                go_wp2_with fail
                go_roundw
                case rel => exact ⟨1, by go_num, by omega, Below_drewN HB.out _, Below_drewN HE.out _⟩
                case measure => simp [intOf]; omega
              · have hq1 : decide ((0 : Int) < (P.length : Int)) = false := decide_eq_false (by omega)
                have hq2 : decide (0 < P.length) = false := decide_eq_false (by omega)
                clear hiP
                go_wp2_with fail
                go_quiet (fail)
                go_wp2_with fail
                go_roundw
                case rel => exact ⟨1, by go_num, by omega, Below_drewN HB.out _, Below_drewN HE.out _⟩
                case measure => simp [intOf]; omega
            | succ m =>
              obtain ⟨x, hx⟩ : ∃ x, Q[m]? = some x := ⟨_, List.getElem?_eq_getElem (by omega)⟩
              obtain ⟨g3, e3', f0, f1, f2, f3⟩ := R2.out m x hx
              obtain rfl : g2 = g3 := by cases e3'; rfl
              replace f0 := HC.out _ _ _ f0; replace f1 := HC.out _ _ _ f1; replace f2 := HC.out _ _ _ f2; replace f3 := HC.out _ _ _ f3
              have i0 : (0 : Int) ≤ (m : Int) + 1 := by omega
              have i1 : (m : Int) + 1 < Q.length := by omega
              have i2 : (m : Int) < Q.length := by omega
              have i3 : (m : Int) + 1 < 100 := by omega
              have HLT : Hid (decide (ordE x y < 0) = true) := decide_eq_true (hsQ.out m x y hx HY.out)
              clear hx e3'
              rw [show ((m + 1 : Nat) : Int) = (m : Int) + 1 from rfl]
              by_cases hiP : m + 1 < P.length
              · have hiPI : (m : Int) + 1 < P.length := by omega
                obtain ⟨y1, hy1⟩ : ∃ y1, P[m + 1]? = some y1 := ⟨_, List.getElem?_eq_getElem hiP⟩
                obtain ⟨g1, rfl, e0, e1, e2, e3⟩ := R1.out (m + 1) y1 hy1
                obtain rfl : y1 = y := Option.some.inj ((hPQ.out (m + 1) y1 hy1).symm.trans HY.out)
                replace e0 := HC.out _ _ _ e0; replace e1 := HC.out _ _ _ e1; replace e2 := HC.out _ _ _ e2; replace e3 := HC.out _ _ _ e3
                clear hy1
                obtain ⟨y, hyy⟩ : ∃ y, y = y1 := ⟨_, rfl⟩
                subst hyy
                go_wp2_with fail
                have z0 : IntKind.i64.wrap ((m : Int) + 1 - 1) = m := by rw [IntKind.wrap_i64]; omega
                have z3 : IntKind.i64.wrap (m : Int) = m := by rw [IntKind.wrap_i64]; omega
                have i4 : (0 : Int) ≤ (m : Int) := by omega
                have z1 : ((m : Int) + 1).toNat = m + 1 := by omega
                have z2 : (m : Int).toNat = m := by omega
                go_region_held3 (fun w' => w'.cell? ⟨g1, (m + 1) * 4, none⟩ = some (.int .u64 y.f0) ∧ w'.cell? ⟨g1, (m + 1) * 4 + 1, none⟩ = some (.int .u64 y.f1) ∧ w'.cell? ⟨g1, (m + 1) * 4 + 2, none⟩ = some (.int .u64 y.f2) ∧ w'.cell? ⟨g1, (m + 1) * 4 + 3, none⟩ = some (.bool y.f3) ∧ w'.cell? ⟨g2, (m + 1) * 4, none⟩ = some (.int .u64 y.f0) ∧ w'.cell? ⟨g2, (m + 1) * 4 + 1, none⟩ = some (.int .u64 y.f1) ∧ w'.cell? ⟨g2, (m + 1) * 4 + 2, none⟩ = some (.int .u64 y.f2) ∧ w'.cell? ⟨g2, (m + 1) * 4 + 3, none⟩ = some (.bool y.f3) ∧ w'.cell? ⟨g2, m * 4, none⟩ = some (.int .u64 x.f0) ∧ w'.cell? ⟨g2, m * 4 + 1, none⟩ = some (.int .u64 x.f1) ∧ w'.cell? ⟨g2, m * 4 + 2, none⟩ = some (.int .u64 x.f2) ∧ w'.cell? ⟨g2, m * 4 + 3, none⟩ = some (.bool x.f3))
                  ((first | go_keep | exact ⟨(hb.cell (World.block_lt_of_cell? _ _ e0)).trans e0, (hb.cell (World.block_lt_of_cell? _ _ e1)).trans e1, (hb.cell (World.block_lt_of_cell? _ _ e2)).trans e2, (hb.cell (World.block_lt_of_cell? _ _ e3)).trans e3, (hb.cell (World.block_lt_of_cell? _ _ d0)).trans d0, (hb.cell (World.block_lt_of_cell? _ _ d1)).trans d1, (hb.cell (World.block_lt_of_cell? _ _ d2)).trans d2, (hb.cell (World.block_lt_of_cell? _ _ d3)).trans d3, (hb.cell (World.block_lt_of_cell? _ _ f0)).trans f0, (hb.cell (World.block_lt_of_cell? _ _ f1)).trans f1, (hb.cell (World.block_lt_of_cell? _ _ f2)).trans f2, (hb.cell (World.block_lt_of_cell? _ _ f3)).trans f3⟩))
                  ((go_at_call 12; refine (better_c x y _).mono ?_; rintro e w2 ⟨rfl, hb⟩; rw [HLT.out]))
                have HB2 : Hid (Below w.heap.size w w2) := HB.out.trans ((Below_drewN (Below.refl _ _) 1).trans (hb.mono HB.out.size))
                have HE2 : Hid (Below we.heap.size we w2) := HE.out.trans ((Below_drewN (Below.refl _ _) 1).trans (hb.mono HE.out.size))
                clear hb z0 z1 z2 z3
                go_wp2_with fail
                go_roundw
                case rel => exact ⟨m + 2, by go_num, by omega, HB2.out, HE2.out⟩
                case measure => simp [intOf]; omega
              · have hq1 : decide ((m : Int) + 1 < (P.length : Int)) = false := decide_eq_false (by omega)
                have hq2 : decide (m + 1 < P.length) = false := decide_eq_false (by omega)
                clear hiP
                go_wp2_with fail
                have z0 : IntKind.i64.wrap ((m : Int) + 1 - 1) = m := by rw [IntKind.wrap_i64]; omega
                have z3 : IntKind.i64.wrap (m : Int) = m := by rw [IntKind.wrap_i64]; omega
                have i4 : (0 : Int) ≤ (m : Int) := by omega
                have z1 : ((m : Int) + 1).toNat = m + 1 := by omega
                have z2 : (m : Int).toNat = m := by omega
                refine start_ (n := 32) (S := (fun w' => w'.cell? ⟨g2, (m + 1) * 4, none⟩ = some (.int .u64 y.f0) ∧ w'.cell? ⟨g2, (m + 1) * 4 + 1, none⟩ = some (.int .u64 y.f1) ∧ w'.cell? ⟨g2, (m + 1) * 4 + 2, none⟩ = some (.int .u64 y.f2) ∧ w'.cell? ⟨g2, (m + 1) * 4 + 3, none⟩ = some (.bool y.f3) ∧ w'.cell? ⟨g2, m * 4, none⟩ = some (.int .u64 x.f0) ∧ w'.cell? ⟨g2, m * 4 + 1, none⟩ = some (.int .u64 x.f1) ∧ w'.cell? ⟨g2, m * 4 + 2, none⟩ = some (.int .u64 x.f2) ∧ w'.cell? ⟨g2, m * 4 + 3, none⟩ = some (.bool x.f3))) (ds := []) #[false, false, false, false, false, false, false, false, false, false, false, false, false, false, false, false, false, false, false, false, false, false, false, false, false, false, false, false, false, false, false, false] (by kernel_rfl) rfl rfl ⟨d0, d1, d2, d3, f0, f1, f2, f3⟩ (fun hHeld => ?_); refine with_tabW tab4_20 bits4_20 (fun HT_ HW_ => ?_)
                refine pure_ (i := 0) (N := some 77) (v := ?_) (a' := ?_) #[true, false, false, false, false, false, false, false, false, false, false, false, false, false, false, false, false, false, false, false, false, false, false, false, false, false, false, false, false, false, false, false] rfl rfl (any_of HT_.out (by kernel_rfl)) (fun _ _ _ h => h) (Or.inl ⟨by rfl, ?_⟩) ?_ ?_
                rotate_left
                · intro w'
                  go_simp
                  with_reducible rfl
                rotate_left
                · simp only [Act.put, List.setIfInBounds_toArray, List.set_cons_zero, List.set_cons_succ]
                  rfl
                refine pure_ (i := 1) (N := some 78) (v := ?_) (a' := ?_) #[true, true, false, false, false, false, false, false, false, false, false, false, false, false, false, false, false, false, false, false, false, false, false, false, false, false, false, false, false, false, false, false] rfl rfl (any_of HT_.out (by kernel_rfl)) (fun _ _ _ h => h) (Or.inl ⟨by rfl, ?_⟩) ?_ ?_
                rotate_left
                · intro w'
                  go_simp
                  with_reducible rfl
                rotate_left
                · simp only [Act.put, List.setIfInBounds_toArray, List.set_cons_zero, List.set_cons_succ]
                  rfl
                refine pure_ (i := 2) (N := some 79) (v := ?_) (a' := ?_) #[true, true, true, false, false, false, false, false, false, false, false, false, false, false, false, false, false, false, false, false, false, false, false, false, false, false, false, false, false, false, false, false] rfl rfl (any_of HT_.out (by kernel_rfl)) (fun _ _ _ h => h) (Or.inl ⟨by rfl, ?_⟩) ?_ ?_
                rotate_left
                · intro w'
                  go_simp
                  with_reducible rfl
                rotate_left
                · simp only [Act.put, List.setIfInBounds_toArray, List.set_cons_zero, List.set_cons_succ]
                  rfl
                refine pure_ (i := 3) (N := some 80) (v := ?_) (a' := ?_) #[true, true, true, true, false, false, false, false, false, false, false, false, false, false, false, false, false, false, false, false, false, false, false, false, false, false, false, false, false, false, false, false] rfl rfl (any_of HT_.out (by kernel_rfl)) (fun _ _ _ h => h) (Or.inl ⟨by rfl, ?_⟩) ?_ ?_
                rotate_left
                · intro w'
                  go_simp
                  with_reducible rfl
                rotate_left
                · simp only [Act.put, List.setIfInBounds_toArray, List.set_cons_zero, List.set_cons_succ]
                  rfl
                refine pure_ (i := 4) (N := some 81) (v := ?_) (a' := ?_) #[true, true, true, true, true, false, false, false, false, false, false, false, false, false, false, false, false, false, false, false, false, false, false, false, false, false, false, false, false, false, false, false] rfl rfl (any_of HT_.out (by kernel_rfl)) (fun _ _ _ h => h) (Or.inl ⟨by rfl, ?_⟩) ?_ ?_
                rotate_left
                · intro w'
                  go_simp
                  with_reducible rfl
                rotate_left
                · simp only [Act.put, List.setIfInBounds_toArray, List.set_cons_zero, List.set_cons_succ]
                  rfl
                refine pure_ (i := 5) (N := some 82) (v := undef) (a' := ?_) #[true, true, true, true, true, true, false, false, false, false, false, false, false, false, false, false, false, false, false, false, false, false, false, false, false, false, false, false, false, false, false, false] rfl rfl (any_of HT_.out (by kernel_rfl)) (fun _ _ _ h => h) (Or.inr ⟨by rfl, rfl⟩) ?_ ?_
                rotate_left
                · simp only [Act.put, List.setIfInBounds_toArray, List.set_cons_zero, List.set_cons_succ]
                  rfl
                refine pure_ (i := 6) (N := some 83) (v := undef) (a' := ?_) #[true, true, true, true, true, true, true, false, false, false, false, false, false, false, false, false, false, false, false, false, false, false, false, false, false, false, false, false, false, false, false, false] rfl rfl (any_of HT_.out (by kernel_rfl)) (fun _ _ _ h => h) (Or.inr ⟨by rfl, rfl⟩) ?_ ?_
                rotate_left
                · simp only [Act.put, List.setIfInBounds_toArray, List.set_cons_zero, List.set_cons_succ]
                  rfl
                refine pure_ (i := 7) (N := some 84) (v := undef) (a' := ?_) #[true, true, true, true, true, true, true, true, false, false, false, false, false, false, false, false, false, false, false, false, false, false, false, false, false, false, false, false, false, false, false, false] rfl rfl (any_of HT_.out (by kernel_rfl)) (fun _ _ _ h => h) (Or.inr ⟨by rfl, rfl⟩) ?_ ?_
                rotate_left
                · simp only [Act.put, List.setIfInBounds_toArray, List.set_cons_zero, List.set_cons_succ]
                  rfl
                refine pure_ (i := 8) (N := some 85) (v := undef) (a' := ?_) #[true, true, true, true, true, true, true, true, true, false, false, false, false, false, false, false, false, false, false, false, false, false, false, false, false, false, false, false, false, false, false, false] rfl rfl (any_of HT_.out (by kernel_rfl)) (fun _ _ _ h => h) (Or.inr ⟨by rfl, rfl⟩) ?_ ?_
                rotate_left
                · simp only [Act.put, List.setIfInBounds_toArray, List.set_cons_zero, List.set_cons_succ]
                  rfl
                refine pure_ (i := 9) (N := some 86) (v := undef) (a' := ?_) #[true, true, true, true, true, true, true, true, true, true, false, false, false, false, false, false, false, false, false, false, false, false, false, false, false, false, false, false, false, false, false, false] rfl rfl (any_of HT_.out (by kernel_rfl)) (fun _ _ _ h => h) (Or.inr ⟨by rfl, rfl⟩) ?_ ?_
                rotate_left
                · simp only [Act.put, List.setIfInBounds_toArray, List.set_cons_zero, List.set_cons_succ]
                  rfl
                refine pure_ (i := 10) (N := some 87) (v := undef) (a' := ?_) #[true, true, true, true, true, true, true, true, true, true, true, false, false, false, false, false, false, false, false, false, false, false, false, false, false, false, false, false, false, false, false, false] rfl rfl (any_of HT_.out (by kernel_rfl)) (fun _ _ _ h => h) (Or.inr ⟨by rfl, rfl⟩) ?_ ?_
                rotate_left
                · simp only [Act.put, List.setIfInBounds_toArray, List.set_cons_zero, List.set_cons_succ]
                  rfl
                refine pure_ (i := 11) (N := some 88) (v := undef) (a' := ?_) #[true, true, true, true, true, true, true, true, true, true, true, true, false, false, false, false, false, false, false, false, false, false, false, false, false, false, false, false, false, false, false, false] rfl rfl (any_of HT_.out (by kernel_rfl)) (fun _ _ _ h => h) (Or.inr ⟨by rfl, rfl⟩) ?_ ?_
                rotate_left
                · simp only [Act.put, List.setIfInBounds_toArray, List.set_cons_zero, List.set_cons_succ]
                  rfl
                refine pure_ (i := 12) (N := some 89) (v := undef) (a' := ?_) #[true, true, true, true, true, true, true, true, true, true, true, true, true, false, false, false, false, false, false, false, false, false, false, false, false, false, false, false, false, false, false, false] rfl rfl (any_of HT_.out (by kernel_rfl)) (fun _ _ _ h => h) (Or.inr ⟨by rfl, rfl⟩) ?_ ?_
                rotate_left
                · simp only [Act.put, List.setIfInBounds_toArray, List.set_cons_zero, List.set_cons_succ]
                  rfl
                refine pure_ (i := 13) (N := some 90) (v := undef) (a' := ?_) #[true, true, true, true, true, true, true, true, true, true, true, true, true, true, false, false, false, false, false, false, false, false, false, false, false, false, false, false, false, false, false, false] rfl rfl (any_of HT_.out (by kernel_rfl)) (fun _ _ _ h => h) (Or.inr ⟨by rfl, rfl⟩) ?_ ?_
                rotate_left
                · simp only [Act.put, List.setIfInBounds_toArray, List.set_cons_zero, List.set_cons_succ]
                  rfl
                refine pure_ (i := 14) (N := some 91) (v := ?_) (a' := ?_) #[true, true, true, true, true, true, true, true, true, true, true, true, true, true, true, false, false, false, false, false, false, false, false, false, false, false, false, false, false, false, false, false] rfl rfl (any_of HT_.out (by kernel_rfl)) (fun _ _ _ h => h) (Or.inl ⟨by rfl, ?_⟩) ?_ ?_
                rotate_left
                · intro w'
                  go_simp
                  with_reducible rfl
                rotate_left
                · simp only [Act.put, List.setIfInBounds_toArray, List.set_cons_zero, List.set_cons_succ]
                  rfl
                refine pure_ (i := 15) (N := some 92) (v := ?_) (a' := ?_) #[true, true, true, true, true, true, true, true, true, true, true, true, true, true, true, true, false, false, false, false, false, false, false, false, false, false, false, false, false, false, false, false] rfl rfl (any_of HT_.out (by kernel_rfl)) (fun _ _ _ h => h) (Or.inl ⟨by rfl, ?_⟩) ?_ ?_
                rotate_left
                · intro w'
                  go_simp
                  with_reducible rfl
                rotate_left
                · simp only [Act.put, List.setIfInBounds_toArray, List.set_cons_zero, List.set_cons_succ]
                  rfl
                refine pure_ (i := 16) (N := some 93) (v := ?_) (a' := ?_) #[true, true, true, true, true, true, true, true, true, true, true, true, true, true, true, true, true, false, false, false, false, false, false, false, false, false, false, false, false, false, false, false] rfl rfl (any_of HT_.out (by kernel_rfl)) (fun _ _ _ h => h) (Or.inl ⟨by rfl, ?_⟩) ?_ ?_
                rotate_left
                · intro w'
                  go_simp
                  with_reducible rfl
                rotate_left
                · simp only [Act.put, List.setIfInBounds_toArray, List.set_cons_zero, List.set_cons_succ]
                  rfl
                refine pure_ (i := 17) (N := some 94) (v := ?_) (a' := ?_) #[true, true, true, true, true, true, true, true, true, true, true, true, true, true, true, true, true, true, false, false, false, false, false, false, false, false, false, false, false, false, false, false] rfl rfl (any_of HT_.out (by kernel_rfl)) (fun _ _ _ h => h) (Or.inl ⟨by rfl, ?_⟩) ?_ ?_
                rotate_left
                · intro w'
                  go_simp
                  with_reducible rfl
                rotate_left
                · simp only [Act.put, List.setIfInBounds_toArray, List.set_cons_zero, List.set_cons_succ]
                  rfl
                refine pure_ (i := 18) (N := some 95) (v := ?_) (a' := ?_) #[true, true, true, true, true, true, true, true, true, true, true, true, true, true, true, true, true, true, true, false, false, false, false, false, false, false, false, false, false, false, false, false] rfl rfl (any_of HT_.out (by kernel_rfl)) (fun _ _ _ h => h) (Or.inl ⟨by rfl, ?_⟩) ?_ ?_
                rotate_left
                · intro w'
                  go_simp
                  with_reducible rfl
                rotate_left
                · simp only [Act.put, List.setIfInBounds_toArray, List.set_cons_zero, List.set_cons_succ]
                  rfl
                refine pure_ (i := 19) (N := some 96) (v := ?_) (a' := ?_) #[true, true, true, true, true, true, true, true, true, true, true, true, true, true, true, true, true, true, true, true, false, false, false, false, false, false, false, false, false, false, false, false] rfl rfl (any_of HT_.out (by kernel_rfl)) (fun _ _ _ h => h) (Or.inl ⟨by rfl, ?_⟩) ?_ ?_
                rotate_left
                · intro w'
                  go_simp
                  with_reducible rfl
                rotate_left
                · simp only [Act.put, List.setIfInBounds_toArray, List.set_cons_zero, List.set_cons_succ]
                  rfl
                refine pure_ (i := 20) (N := some 97) (v := ?_) (a' := ?_) #[true, true, true, true, true, true, true, true, true, true, true, true, true, true, true, true, true, true, true, true, true, false, false, false, false, false, false, false, false, false, false, false] rfl rfl (any_of HT_.out (by kernel_rfl)) (fun _ _ _ h => h) (Or.inl ⟨by rfl, ?_⟩) ?_ ?_
                rotate_left
                · intro w'
                  go_simp
                  with_reducible rfl
                rotate_left
                · simp only [Act.put, List.setIfInBounds_toArray, List.set_cons_zero, List.set_cons_succ]
                  rfl
                refine pure_ (i := 21) (N := some 98) (v := ?_) (a' := ?_) #[true, true, true, true, true, true, true, true, true, true, true, true, true, true, true, true, true, true, true, true, true, true, false, false, false, false, false, false, false, false, false, false] rfl rfl (any_of HT_.out (by kernel_rfl)) (fun _ _ _ h => h) (Or.inl ⟨by rfl, ?_⟩) ?_ ?_
                rotate_left
                · intro w'
                  go_simp
                  with_reducible rfl
                rotate_left
                · simp only [Act.put, List.setIfInBounds_toArray, List.set_cons_zero, List.set_cons_succ]
                  rfl
                refine pure_ (i := 22) (N := some 99) (v := ?_) (a' := ?_) #[true, true, true, true, true, true, true, true, true, true, true, true, true, true, true, true, true, true, true, true, true, true, true, false, false, false, false, false, false, false, false, false] rfl rfl (any_of HT_.out (by kernel_rfl)) (fun _ _ _ h => h) (Or.inl ⟨by rfl, ?_⟩) ?_ ?_
                rotate_left
                · intro w'
                  go_simp
                  with_reducible rfl
                rotate_left
                · simp only [Act.put, List.setIfInBounds_toArray, List.set_cons_zero, List.set_cons_succ]
                  rfl
                refine take_ (i := 23) (N := some 100) (v := ?_) (a' := ?_) #[true, true, true, true, true, true, true, true, true, true, true, true, true, true, true, true, true, true, true, true, true, true, true, true, false, false, false, false, false, false, false, false] rfl rfl (take_ofW HT_.out HW_.out (by kernel_rfl)) (fun _ _ _ h => h) (Or.inl ⟨by rfl, ?_⟩) hHeld ?_ ?_
                rotate_left
                · rintro w' ⟨s0, s1, s2, s3, s4, s5, s6, s7⟩
                  go_simp
                  with_reducible rfl
                rotate_left
                · simp only [Act.put, List.setIfInBounds_toArray, List.set_cons_zero, List.set_cons_succ]
                  rfl
                refine pure_ (i := 24) (N := some 101) (v := ?_) (a' := ?_) #[true, true, true, true, true, true, true, true, true, true, true, true, true, true, true, true, true, true, true, true, true, true, true, true, true, false, false, false, false, false, false, false] rfl rfl (any_of HT_.out (by kernel_rfl)) (fun _ _ _ h => h) (Or.inl ⟨by rfl, ?_⟩) ?_ ?_
                rotate_left
                · intro w'
                  go_simp
                  with_reducible rfl
                rotate_left
                · simp only [Act.put, List.setIfInBounds_toArray, List.set_cons_zero, List.set_cons_succ]
                  rfl
                refine pure_ (i := 25) (N := some 102) (v := ?_) (a' := ?_) #[true, true, true, true, true, true, true, true, true, true, true, true, true, true, true, true, true, true, true, true, true, true, true, true, true, true, false, false, false, false, false, false] rfl rfl (any_of HT_.out (by kernel_rfl)) (fun _ _ _ h => h) (Or.inl ⟨by rfl, ?_⟩) ?_ ?_
                rotate_left
                · intro w'
                  go_simp
                  with_reducible rfl
                rotate_left
                · simp only [Act.put, List.setIfInBounds_toArray, List.set_cons_zero, List.set_cons_succ]
                  rfl
                refine pure_ (i := 26) (N := some 103) (v := ?_) (a' := ?_) #[true, true, true, true, true, true, true, true, true, true, true, true, true, true, true, true, true, true, true, true, true, true, true, true, true, true, true, false, false, false, false, false] rfl rfl (any_of HT_.out (by kernel_rfl)) (fun _ _ _ h => h) (Or.inl ⟨by rfl, ?_⟩) ?_ ?_
                rotate_left
                · intro w'
                  go_simp
                  with_reducible rfl
                rotate_left
                · simp only [Act.put, List.setIfInBounds_toArray, List.set_cons_zero, List.set_cons_succ]
                  rfl
                refine take_ (i := 27) (N := some 104) (v := ?_) (a' := ?_) #[true, true, true, true, true, true, true, true, true, true, true, true, true, true, true, true, true, true, true, true, true, true, true, true, true, true, true, true, false, false, false, false] rfl rfl (take_ofW HT_.out HW_.out (by kernel_rfl)) (fun _ _ _ h => h) (Or.inl ⟨by rfl, ?_⟩) hHeld ?_ ?_
                rotate_left
                · rintro w' ⟨s0, s1, s2, s3, s4, s5, s6, s7⟩
                  go_simp
                  with_reducible rfl
                rotate_left
                · simp only [Act.put, List.setIfInBounds_toArray, List.set_cons_zero, List.set_cons_succ]
                  rfl
                refine one_ (i := 28) (N := some 105) #[true, true, true, true, true, true, true, true, true, true, true, true, true, true, true, true, true, true, true, true, true, true, true, true, true, true, true, true, true, false, false, false] rfl rfl (one_of HT_.out (by kernel_rfl)) (by decide) (fun K hK => ?_)
                rw [if_pos (by rfl)]
                go_simp
                go_at_call 12; refine (better_c x y _).mono ?_; rintro e w2 ⟨rfl, hb⟩; rw [HLT.out]
                refine hK.out _ _ ⟨(hb.cell (World.block_lt_of_cell? wr _ d0)).trans d0, (hb.cell (World.block_lt_of_cell? wr _ d1)).trans d1, (hb.cell (World.block_lt_of_cell? wr _ d2)).trans d2, (hb.cell (World.block_lt_of_cell? wr _ d3)).trans d3, (hb.cell (World.block_lt_of_cell? wr _ f0)).trans f0, (hb.cell (World.block_lt_of_cell? wr _ f1)).trans f1, (hb.cell (World.block_lt_of_cell? wr _ f2)).trans f2, (hb.cell (World.block_lt_of_cell? wr _ f3)).trans f3⟩ (fun hHeld => ?_)
                clear hK K
                refine pure_ (i := 29) (N := some 106) (v := ?_) (a' := ?_) #[true, true, true, true, true, true, true, true, true, true, true, true, true, true, true, true, true, true, true, true, true, true, true, true, true, true, true, true, true, true, false, false] rfl rfl (any_of HT_.out (by kernel_rfl)) (fun _ _ _ h => h) (Or.inl ⟨by rfl, ?_⟩) ?_ ?_
                rotate_left
                · intro w'
                  go_simp
                  with_reducible rfl
                rotate_left
                · simp only [Act.put, List.setIfInBounds_toArray, List.set_cons_zero, List.set_cons_succ]
                  rfl
                refine pure_ (i := 30) (N := some 107) (v := ?_) (a' := ?_) #[true, true, true, true, true, true, true, true, true, true, true, true, true, true, true, true, true, true, true, true, true, true, true, true, true, true, true, true, true, true, true, false] rfl rfl (any_of HT_.out (by kernel_rfl)) (fun _ _ _ h => h) (Or.inl ⟨by rfl, ?_⟩) ?_ ?_
                rotate_left
                · intro w'
                  go_simp
                  with_reducible rfl
                rotate_left
                · simp only [Act.put, List.setIfInBounds_toArray, List.set_cons_zero, List.set_cons_succ]
                  rfl
                refine pure_ (i := 31) (N := some 108) (v := ?_) (a' := ?_) #[true, true, true, true, true, true, true, true, true, true, true, true, true, true, true, true, true, true, true, true, true, true, true, true, true, true, true, true, true, true, true, true] rfl rfl (any_of HT_.out (by kernel_rfl)) (fun _ _ _ h => h) (Or.inl ⟨by rfl, ?_⟩) ?_ ?_
                rotate_left
                · intro w'
                  go_simp
                  with_reducible rfl
                rotate_left
                · simp only [Act.put, List.setIfInBounds_toArray, List.set_cons_zero, List.set_cons_succ]
                  rfl
                refine done_ (done_of HT_.out (by kernel_rfl)) ?_
                clear HT_ HW_ hHeld
                have HB2 : Hid (Below w.heap.size w w2) := HB.out.trans ((Below_drewN (Below.refl _ _) 1).trans (hb.mono HB.out.size))
                have HE2 : Hid (Below we.heap.size we w2) := HE.out.trans ((Below_drewN (Below.refl _ _) 1).trans (hb.mono HE.out.size))
                clear hb z0 z1 z2 z3
                go_wp2_with fail
                go_roundw
                case rel => exact ⟨m + 2, by go_num, by omega, HB2.out, HE2.out⟩
                case measure => simp [intOf]; omega
          · obtain rfl : i = Q.length := by omega
            have hend : Hid ((Q.length : Int) ≤ a1 % 17 ∨ (Q.length : Int) ≤ a2 % 17) := by have := hmx.out; show _ ∨ _; omega
            clear hQl hmx
            go_wp2_with fail
            go_ret
            have := hend.out
            exact ⟨by first | rfl | (simp; omega), HB.out⟩
end Go.Proofs.Ytbedoahkpdpmeaa.exemplarMore
