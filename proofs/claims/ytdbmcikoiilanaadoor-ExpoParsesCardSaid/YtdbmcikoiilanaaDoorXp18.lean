/- expo: the lines of a row of an answer, as a Call. -/
import Derived.Test.YtdbmcikoiilanaaDoorXp14
import Derived.Test.YtdbmcikoiilanaaDoorKn
set_option linter.unusedVariables false
set_option linter.unusedSimpArgs false
namespace Go.Proofs.YtdbmcikoiilanaaDoor.Xp
open Go.RowKit Go.Proofs.YtdbmcikoiilanaaDoor.B0 Go.Proofs.YtdbmcikoiilanaaDoorW.PrintWords Go.Proofs.YtdbmcikoiilanaaDoor.Bld Go.Proofs.YtdbmcikoiilanaaDoor.Pp Go.Proofs.YtdbmcikoiilanaaDoor.Kn

def itoaB (i : Nat) : ByteArray := ⟨(Lib.itoa (i : Int)).toArray⟩
theorem itoaB_size (i : Nat) (h : i ≤ 100000) : (itoaB i).size ≤ 20 := by
  have e : Lib.itoa (i : Int) = Lib.decDigits i := by simp [Lib.itoa]
  have h1 : (itoaB i).size = (Lib.decDigits i).length := by unfold itoaB; rw [e]; rfl
  rw [h1]; exact dec_len20 i (by omega)
def labsR (ls : List ByteArray) (k : Nat) : List SLab := (List.range k).map fun i : Nat => (⟨⟨#[108]⟩ ++ itoaB i, rdOf ByteArray.empty ls (i : Int)⟩ : SLab)
theorem labsR_succ (ls : List ByteArray) (k : Nat) : labsR ls (k + 1) = labsR ls k ++ [⟨⟨#[108]⟩ ++ itoaB k, rdOf ByteArray.empty ls (k : Int)⟩] := by unfold labsR; rw [List.range_succ, List.map_append]; rfl
theorem labsR_len (ls : List ByteArray) (k : Nat) : (labsR ls k).length = k := by simp [labsR]
def labsOf (ls : List ByteArray) (rs : Bool) : List SLab := labsR ls ls.length ++ (if rs then [⟨⟨#[114, 101, 115, 116]⟩, ⟨#[49]⟩⟩] else [])
theorem labsOf_len (ls : List ByteArray) (rs : Bool) : (labsOf ls rs).length ≤ ls.length + 1 := by cases rs <;> simp [labsOf, labsR_len]
def rowL (L : List SLab) (n1 n2 n3 : Int) (bs : List S61) (k : Nat) : List SLin :=
  [⟨⟨#[115, 112, 97, 110, 115]⟩, L, n1⟩, ⟨⟨#[102, 97, 105, 108, 101, 100]⟩, L, n2⟩, ⟨⟨#[115, 117, 109]⟩, L, n3⟩] ++ (List.range k).map fun i : Nat => (⟨⟨#[98, 117, 99, 107, 101, 116]⟩, L ++ [⟨⟨#[108, 101]⟩, itoaB i⟩], (rd_T61 bs i).f0⟩ : SLin)
theorem rowL_succ (L : List SLab) (n1 n2 n3 : Int) (bs : List S61) (k : Nat) : rowL L n1 n2 n3 bs (k + 1) = rowL L n1 n2 n3 bs k ++ [⟨⟨#[98, 117, 99, 107, 101, 116]⟩, L ++ [⟨⟨#[108, 101]⟩, itoaB k⟩], (rd_T61 bs k).f0⟩] := by unfold rowL; rw [List.range_succ, List.map_append, ← List.append_assoc]; rfl
theorem rowL_len (L : List SLab) (n1 n2 n3 : Int) (bs : List S61) (k : Nat) : (rowL L n1 n2 n3 bs k).length = k + 3 := by simp [rowL]
theorem raw3M (w : World) (base : Nat) (ok : Nat → Prop) (s : ByteArray) (A : Option Addr) (n c : Nat) (x : Int) : (Kd.raw 3).M w base ok [.string s, .slice A n c, .int .u64 x] [.string s, .slice A n c, .int .u64 x] :=
  ⟨rfl, rfl, fun u hu => by simp only [List.mem_cons, List.not_mem_nil, or_false] at hu; rcases hu with rfl | rfl | rfl <;> rfl⟩
theorem R_alloc3 {W : World} {base e : Nat} {xs : List (List Value)} {inner : List Value} (hrep : Reps ((Kd.raw 3).M W base (fun _ => True)) 3 xs inner) (hbase : base ≤ W.heap.size) (hm : xs.length ≤ 1000000) :
    (Kd.raw 3).R e (W.alloc (.cells inner.toArray e)) base (fun _ => True) (.slice (some ⟨W.heap.size, 0, none⟩) xs.length xs.length) xs := by
  refine ⟨fun _ _ => trivial, inner, ?_, hrep.imp_ (fun p c hp => hp)⟩
  have h2 := World.ownsRow_lit (base := base) (e := e) (size := 3) W inner.toArray xs.length hbase (by simp [maxLen]; omega) (by simpa using hrep.1)
  simp only [List.size_toArray] at h2
  exact h2
theorem KL.grown0 {w w' : World} (hg : w.grownBy w' none) : KL w w' := fun k cs hk => (hg.block k (lt_of_get hk) (by simp)).trans hk
theorem LRows.one {w : World} {x : SLin} {r : List Value} (h : LRow w x r) : LRows w [x] [r] := ⟨rfl, fun i y hy => by
  match i, hy with
  | 0, hy => simp only [List.getElem?_cons_zero, Option.some.injEq] at hy; subst hy; exact ⟨r, rfl, h⟩
  | i + 1, hy => simp at hy⟩
theorem LRows.cons {w : World} {x : SLin} {xs : List SLin} {r : List Value} {rs : List (List Value)} (h : LRow w x r) (h' : LRows w xs rs) : LRows w (x :: xs) (r :: rs) := LRows.append (LRows.one h) h'

set_option maxHeartbeats 4000000 in
set_option maxRecDepth 100000 in
theorem row_c (w : World) (hP : LP w) (A : Option Addr) (cA : Nat) (ls : List ByteArray) (rs : Bool) (n1 n2 n3 : Int) (b1 b2 b3 : Bool) (B : Option Addr) (cB : Nat) (bs : List S61) (D : Value)
    (hA : Kd.C Kd.string w A ls.length ls) (hB : Kd.C k61 w B bs.length bs) (hl : ls.length ≤ 1000) (hb : bs.length ≤ 1000) :
    Calls Tryd.prog 28 #[.agg #[.slice A ls.length cA, .bool rs, .int .u64 n1, .bool b1, .int .u64 n2, .bool b2, .int .u64 n3, .bool b3, .slice B bs.length cB, D]] w fun e w' =>
      ∃ v, e = .returned v ∧ LW w' w.heap.size v (rowL (labsOf ls rs) n1 n2 n3 bs bs.length) ∧ Below w.heap.size w w' := by
  have HP := Lib.hid hP; clear hP
  obtain ⟨n, hn⟩ : ∃ n, Hid (ls.length = n) := ⟨_, Lib.hid rfl⟩
  obtain ⟨m, hm⟩ : ∃ m, Hid (bs.length = m) := ⟨_, Lib.hid rfl⟩
  rw [hn.out] at hA hl ⊢
  rw [hm.out] at hB hb ⊢
  have HA := Lib.hid hA; have HB := Lib.hid hB; clear hA hB
  obtain ⟨L, hL⟩ : ∃ L, Hid (labsOf ls rs = L ∧ L.length ≤ 1001) := ⟨_, rfl, by have h := labsOf_len ls rs; rw [hn.out] at h; omega⟩
  rw [hL.out.1] 
  obtain ⟨nL, hnL⟩ : ∃ nL, Hid (L.length = nL) := ⟨_, Lib.hid rfl⟩
  obtain ⟨R, hR⟩ : ∃ R, Hid (w.heap.size = R) := ⟨_, Lib.hid rfl⟩
  obtain ⟨w1, hw1⟩ : ∃ w1, Hid (w.alloc (.cells #[.slice A n cA, .bool rs, .int .u64 n1, .bool b1, .int .u64 n2, .bool b2, .int .u64 n3, .bool b3, .slice B m cB, D] 70) = w1) := ⟨_, Lib.hid rfl⟩
  have H1 : Hid (w1.heap[R]? = some (.cells #[.slice A n cA, .bool rs, .int .u64 n1, .bool b1, .int .u64 n2, .bool b2, .int .u64 n3, .bool b3, .slice B m cB, D] 70 (0, 0)) ∧ Below w.heap.size w w1) := ⟨by rw [← hw1.out, ← hR.out]; exact allocN _ _, by rw [← hw1.out]; exact (Below.refl _ _).alloc (Nat.le_refl _) _⟩
  have EC : Hid (∀ w', Below w1.heap.size w1 w' → w'.cell? ⟨R, 0, none⟩ = some (.slice A n cA) ∧ w'.cell? ⟨R, 1, none⟩ = some (.bool rs) ∧ w'.cell? ⟨R, 2, none⟩ = some (.int .u64 n1) ∧ w'.cell? ⟨R, 4, none⟩ = some (.int .u64 n2) ∧ w'.cell? ⟨R, 6, none⟩ = some (.int .u64 n3) ∧ w'.cell? ⟨R, 8, none⟩ = some (.slice B m cB)) := fun w' hb => by
    have h := (hb.block R (lt_of_get H1.out.1)).trans H1.out.1
    exact ⟨by rw [cellB h]; rfl, by rw [cellB h]; rfl, by rw [cellB h]; rfl, by rw [cellB h]; rfl, by rw [cellB h]; rfl, by rw [cellB h]; rfl⟩
  go_enter Tryd.func28, Tryd.ntmps28
  go_upto_region 2 with fail
  rw [hw1.out, hR.out]
  have c0 := (EC.out w1 (Below.refl _ _)).1
  go_wp2_with fail
  clear c0
  go_loopw [13, 3] (fun iv lv wr => ∃ (k : Nat) (av : Value), iv = .int .i64 k ∧ lv = av ∧ k ≤ n ∧ Hid (Kd.R k71 71 wr w1.heap.size (fun _ => True) av (labsR ls k) ∧ Below w1.heap.size w1 wr)) (fun iv _ _ => n - (intOf iv).toNat)
  case atStart => exact ⟨0, _, rfl, rfl, Nat.zero_le _, Kd.R_nil _ _ _ _ _, Below.refl _ _⟩
  case round =>
    obtain ⟨k, av, rfl, rfl, hk, HW⟩ := hrel
    by_cases hlt : k < n
    · have hki : (k : Int) < (n : Int) := by omega
      obtain ⟨ad, rfl, d0⟩ := Kd.at_string HA.out k (by omega) (by omega)
      obtain ⟨s, hs⟩ : ∃ s, Hid (rdOf ByteArray.empty ls (k : Int) = s) := ⟨_, Lib.hid rfl⟩
      rw [show ((k : Int)).toNat = k from by omega, hs.out] at d0
      have hbw : Hid (Below w.heap.size w wr) := H1.out.2.trans (HW.out.2.mono H1.out.2.size)
      have d0' := pw_cell_below hbw.out d0
      clear d0
      have HIT := Lib.hid (Itoa_i (k : Int) (by omega) (by omega) wr (HP.out.below hbw.out).1)
      obtain ⟨sn, hsn⟩ : ∃ sn, Hid (itoaB k = sn ∧ sn.size ≤ 20) := ⟨_, rfl, itoaB_size k (by omega)⟩
      rw [show (⟨(Lib.itoa (k : Int)).toArray⟩ : ByteArray) = itoaB k from rfl, hsn.out.1] at HIT
      obtain ⟨sl, hsl⟩ : ∃ sl, Hid ((⟨#[108]⟩ ++ sn : ByteArray) = sl) := ⟨_, Lib.hid rfl⟩
      have hs1 : ¬ (9223372036854775807 < 1 + sn.size) := by have := hsn.out.2; omega
      go_wp2_with fail
      refine HIT.out.mono ?_
      rintro e w2 ⟨rfl, hb2⟩
      have H2 : Hid (Kd.R k71 71 w2 w1.heap.size (fun _ => True) u3 (labsR ls k) ∧ Below w1.heap.size w1 w2) := ⟨Kd.R_below HW.out.1 hb2, HW.out.2.trans (hb2.mono HW.out.2.size)⟩
      clear hb2 HIT
      have hlen := labsR_len ls k
      have hq1 := hsl.out
      go_wp2_with (at_builtin; go_loud (refine Kd.R_append k71 (w0 := w1) w1.heap.size rfl _ _ 41 71 (.agg #[(.string ⟨#[]⟩), (.string ⟨#[]⟩)]) 32 rfl Tryd.underlying41 info71 rfl (by decide) (by decide) u3 (labsR ls k) (⟨sl, s⟩ : SLab) [.string sl, .string s] (fun _ => True) (fun _ => False) rfl rfl (k71_mkM _ _ _ (⟨sl, s⟩ : SLab)) (fun _ h => h.elim) (fun _ _ => trivial) H2.out.1 H2.out.2 H2.out.2.size (by rw [hlen]; omega) ?_))
      intro v3 w3 hr3 hb3 hg3 hat3
      have H3 : Hid (Kd.R k71 71 w3 w1.heap.size (fun _ => True) v3 (labsR ls (k + 1)) ∧ Below w1.heap.size w1 w3) := ⟨by rw [labsR_succ, hsn.out.1, hsl.out, hs.out]; exact hr3, hb3⟩
      clear hr3 hb3 hg3 hat3 hq1
      go_wp2_with fail
      go_roundw
      case rel => exact ⟨k + 1, v3, by go_num, rfl, by omega, H3⟩
      case measure => simp [intOf]; omega
    · obtain rfl : k = n := by omega
      have c1 := (EC.out wr HW.out.2).2.1
      have hlen := labsR_len ls k
      go_upto_if 28 with fail
      go_cut [3] (fun lv wx => ∃ av : Value, lv = av ∧ Hid (Kd.R k71 71 wx w1.heap.size (fun _ => True) av (labsOf ls rs) ∧ Below w1.heap.size w1 wx))
      case first =>
        cases rs
        · go_wp2_with fail
          go_meet
          case rel => exact ⟨_, rfl, by unfold labsOf; rw [hn.out]; simpa using HW.out.1, HW.out.2⟩
        · go_wp2_with (at_builtin; go_loud (refine Kd.R_append k71 (w0 := w1) w1.heap.size rfl _ _ 41 71 (.agg #[(.string ⟨#[]⟩), (.string ⟨#[]⟩)]) 32 rfl Tryd.underlying41 info71 rfl (by decide) (by decide) u3 (labsR ls k) (⟨⟨#[114, 101, 115, 116]⟩, ⟨#[49]⟩⟩ : SLab) [.string ⟨#[114, 101, 115, 116]⟩, .string ⟨#[49]⟩] (fun _ => True) (fun _ => False) rfl rfl (k71_mkM _ _ _ (⟨⟨#[114, 101, 115, 116]⟩, ⟨#[49]⟩⟩ : SLab)) (fun _ h => h.elim) (fun _ _ => trivial) HW.out.1 HW.out.2 HW.out.2.size (by rw [hlen]; omega) ?_))
          intro v3 w3 hr3 hb3 hg3 hat3
          have H3 : Hid (Kd.R k71 71 w3 w1.heap.size (fun _ => True) v3 (labsOf ls true) ∧ Below w1.heap.size w1 w3) := ⟨by unfold labsOf; rw [hn.out]; exact hr3, hb3⟩
          clear hr3 hb3 hg3 hat3
          go_wp2_with fail
          go_meet
          case rel => exact ⟨v3, rfl, H3.out⟩
      case rest =>
        obtain ⟨av, rfl, HC⟩ := hcut
        clear c1 hlen HW
        rw [hL.out.1] at HC
        obtain ⟨A1, c1, e1, hc1, hA1, hLA⟩ := LabAt.of_R HC.out.1
        rw [hnL.out] at hc1 e1
        subst e1
        have HLA : Hid (L.length ≤ c1 ∧ (A1 = none → c1 = 0) ∧ LabAt wc A1 L) := ⟨by rw [hnL.out]; exact hc1, hA1, hLA⟩
        clear hc1 hA1 hLA
        obtain ⟨_, _, v2, v4, v6, v8⟩ := EC.out wc HC.out.2
        obtain ⟨w9, hw9⟩ : ∃ w9, Hid (wc.alloc (.cells #[.string ⟨#[115, 112, 97, 110, 115]⟩, .slice A1 nL c1, .int .u64 n1, .string ⟨#[102, 97, 105, 108, 101, 100]⟩, .slice A1 nL c1, .int .u64 n2, .string ⟨#[115, 117, 109]⟩, .slice A1 nL c1, .int .u64 n3] 43) = w9) := ⟨_, Lib.hid rfl⟩
        obtain ⟨b9, hb9⟩ : ∃ b9, Hid (wc.heap.size = b9) := ⟨_, Lib.hid rfl⟩
        have H9 : Hid (LW w9 w1.heap.size (.slice (some ⟨b9, 0, none⟩) 3 3) (rowL L n1 n2 n3 bs 0) ∧ Below w1.heap.size w1 w9 ∧ LabAt w9 A1 L) := by
          have hb : Below wc.heap.size wc w9 := by rw [← hw9.out]; exact (Below.refl _ _).alloc (Nat.le_refl _) _
          have hl9 := HLA.out.2.2.keep (KL.below hb)
          have one : ∀ (s : ByteArray) (x : Int), LRow w9 (⟨s, L, x⟩ : SLin) [.string s, .slice A1 nL c1, .int .u64 x] := fun s x => ⟨A1, c1, by rw [← hnL.out], HLA.out.1, HLA.out.2.1, hl9⟩
          refine ⟨⟨[[.string ⟨#[115, 112, 97, 110, 115]⟩, .slice A1 nL c1, .int .u64 n1], [.string ⟨#[102, 97, 105, 108, 101, 100]⟩, .slice A1 nL c1, .int .u64 n2], [.string ⟨#[115, 117, 109]⟩, .slice A1 nL c1, .int .u64 n3]], ?_, LRows.cons (one _ _) (LRows.cons (one _ _) (LRows.one (one _ _)))⟩, HC.out.2.trans (hb.mono HC.out.2.size), hl9⟩
          rw [← hw9.out, ← hb9.out]
          exact R_alloc3 (Reps.c3 (raw3M _ _ _ _ _ _ _ _) (Reps.c3 (raw3M _ _ _ _ _ _ _ _) (Reps.c3 (raw3M _ _ _ _ _ _ _ _) (Reps.none _ _)))) HC.out.2.size (by simp)
        go_upto_region 10 with fail
        rw [hw9.out, hb9.out]
        clear v2 v4 v6 v8
        have v8 := (EC.out w9 H9.out.2.1).2.2.2.2.2
        go_wp2_with fail
        clear v8
        go_loopw [52, 6] (fun iv lv wr => ∃ (k : Nat) (av : Value), iv = .int .i64 k ∧ lv = av ∧ k ≤ m ∧ Hid (LW wr w1.heap.size av (rowL L n1 n2 n3 bs k) ∧ Below w1.heap.size w1 wr ∧ LabAt wr A1 L)) (fun iv _ _ => m - (intOf iv).toNat)
        case atStart => exact ⟨0, _, rfl, rfl, Nat.zero_le _, H9.out⟩
        case round =>
          obtain ⟨i, av, rfl, rfl, hi, HW⟩ := hrel
          by_cases hlt2 : i < m
          · have hii : (i : Int) < (m : Int) := by omega
            obtain ⟨ad, rfl, d0, d1⟩ := at_T61 HB.out i (by omega) (by omega)
            obtain ⟨y, hy⟩ : ∃ y, Hid (rd_T61 bs i = y) := ⟨_, Lib.hid rfl⟩
            rw [show ((i : Int)).toNat = i from by omega, hy.out] at d0 d1
            have hbw : Hid (Below w.heap.size w wr) := H1.out.2.trans (HW.out.2.1.mono H1.out.2.size)
            have d0' := pw_cell_below hbw.out d0
            have d1' := pw_cell_below hbw.out d1
            clear d0 d1
            obtain ⟨wm, hwm⟩ : ∃ wm, Hid (wr.alloc (.cells #[.int .u64 y.f0, .bool y.f1] 61) = wm) := ⟨_, Lib.hid rfl⟩
            obtain ⟨bx, hbx⟩ : ∃ bx, Hid (wr.heap.size = bx) := ⟨_, Lib.hid rfl⟩
            have HM : Hid (wm.heap[bx]? = some (.cells #[.int .u64 y.f0, .bool y.f1] 61 (0, 0)) ∧ Below wr.heap.size wr wm) := ⟨by rw [← hwm.out, ← hbx.out]; exact allocN _ _, by rw [← hwm.out]; exact (Below.refl _ _).alloc (Nat.le_refl _) _⟩
            have HLm := Lib.hid (HW.out.2.2.keep (KL.below HM.out.2))
            have HCL := Lib.hid (Clone_c wm A1 c1 L HLm.out.1 (by have := hL.out.2; omega) HLA.out.2.1)
            rw [hnL.out] at HCL
            obtain ⟨sn, hsn⟩ : ∃ sn, Hid (itoaB i = sn) := ⟨_, Lib.hid rfl⟩
            go_upto_region 13 with fail
            rw [hwm.out, hbx.out]
            go_wp2_with fail
            refine HCL.out.mono ?_
            rintro e w3 ⟨v3, rfl, hr3, hb3⟩
            have H3 : Hid (Kd.R k71 71 w3 wm.heap.size (fun _ => True) v3 L ∧ Below wm.heap.size wm w3) := ⟨hr3, hb3⟩
            clear hr3 hb3 HCL
            have hbw3 : Hid (Below w.heap.size w w3) := hbw.out.trans ((HM.out.2.trans (H3.out.2.mono HM.out.2.size)).mono hbw.out.size)
            have HIT := Lib.hid (Itoa_i (i : Int) (by omega) (by omega) w3 (HP.out.below hbw3.out).1)
            rw [show (⟨(Lib.itoa (i : Int)).toArray⟩ : ByteArray) = itoaB i from rfl, hsn.out] at HIT
            go_wp2_with fail
            refine HIT.out.mono ?_
            rintro e w4 ⟨rfl, hb4⟩
            have H4 : Hid (Kd.R k71 71 w4 wm.heap.size (fun _ => True) v3 L ∧ Below wm.heap.size wm w4) := ⟨Kd.R_below H3.out.1 hb4, H3.out.2.trans (hb4.mono H3.out.2.size)⟩
            clear hb4 HIT
            go_wp2_with (at_builtin; go_loud (refine Kd.R_append k71 (w0 := wm) wm.heap.size rfl _ _ 41 71 (.agg #[(.string ⟨#[]⟩), (.string ⟨#[]⟩)]) 32 rfl Tryd.underlying41 info71 rfl (by decide) (by decide) v3 L (⟨⟨#[108, 101]⟩, sn⟩ : SLab) [.string ⟨#[108, 101]⟩, .string sn] (fun _ => True) (fun _ => False) rfl rfl (k71_mkM _ _ _ (⟨⟨#[108, 101]⟩, sn⟩ : SLab)) (fun _ h => h.elim) (fun _ _ => trivial) H4.out.1 H4.out.2 H4.out.2.size (by have := hL.out.2; omega) ?_))
            intro v5 w5 hr5 hb5 hg5 hat5
            obtain ⟨L5, hL5⟩ : ∃ L5, Hid (L ++ [(⟨⟨#[108, 101]⟩, sn⟩ : SLab)] = L5) := ⟨_, Lib.hid rfl⟩
            obtain ⟨n5, hn5⟩ : ∃ n5, Hid (L5.length = n5) := ⟨_, Lib.hid rfl⟩
            rw [hL5.out] at hr5
            obtain ⟨A5, c5, e5, hc5, hA5, hl5⟩ := LabAt.of_R hr5
            rw [hn5.out] at e5
            subst e5
            have hb5' : Below wr.heap.size wr w5 := HM.out.2.trans (hb5.mono HM.out.2.size)
            obtain ⟨rows, hrw, hlw⟩ := HW.out.1.below hb5'
            have hrl : rows.length = i + 3 := by rw [hlw.1, rowL_len]
            have H5 : Hid ((Kd.raw 3).R 43 w5 w1.heap.size (fun _ => True) u6 rows ∧ LRows w5 (rowL L n1 n2 n3 bs i) rows ∧ Below w1.heap.size w1 w5 ∧ LabAt w5 A1 L ∧ LRow w5 (⟨⟨#[98, 117, 99, 107, 101, 116]⟩, L5, y.f0⟩ : SLin) [.string ⟨#[98, 117, 99, 107, 101, 116]⟩, .slice A5 n5 c5, .int .u64 y.f0]) := ⟨hrw, hlw, HW.out.2.1.trans (hb5'.mono HW.out.2.1.size), HW.out.2.2.keep (KL.below hb5'), A5, c5, by rw [← hn5.out], hc5, hA5, hl5⟩
            have e0 : w5.cell? ⟨bx, 0, none⟩ = some (.int .u64 y.f0) := by rw [cellB ((hb5.block _ (lt_of_get HM.out.1)).trans HM.out.1)]; rfl
            clear hr5 hb5 hg5 hat5 hc5 hA5 hl5 hb5' hrw hlw
            go_wp2_with (at_builtin; go_loud (refine Kd.R_append (Kd.raw 3) (w0 := w1) w1.heap.size rfl _ _ 32 43 (.agg #[(.string ⟨#[]⟩), (.slice none 0 0), (.int .u64 0)]) 48 rfl Tryd.underlying32 info43 rfl (Nat.zero_lt_succ 2) (by decide) u6 rows ([.string ⟨#[98, 117, 99, 107, 101, 116]⟩, .slice A5 n5 c5, .int .u64 y.f0] : List Value) [.string ⟨#[98, 117, 99, 107, 101, 116]⟩, .slice A5 n5 c5, .int .u64 y.f0] (fun _ => True) (fun _ => False) rfl rfl (raw3M _ _ _ _ _ _ _ _) (fun _ h => h.elim) (fun _ _ => trivial) H5.out.1 H5.out.2.2.1 H5.out.2.2.1.size (by rw [hrl]; omega) ?_))
            intro v6 w6 hr6 hb6 hg6 hat6
            have H6 : Hid (LW w6 w1.heap.size v6 (rowL L n1 n2 n3 bs (i + 1)) ∧ Below w1.heap.size w1 w6 ∧ LabAt w6 A1 L) := by
              have hk := KL.grown H5.out.1 (by decide) hg6
              refine ⟨⟨_, hr6, ?_⟩, hb6, H5.out.2.2.2.1.keep hk⟩
              rw [rowL_succ, hsn.out, hL5.out, hy.out]
              exact (H5.out.2.1.keep hk).append (LRows.one (H5.out.2.2.2.2.keep hk))
            clear hr6 hb6 hg6 hat6 e0 hrl
            go_wp2_with fail
            go_roundw
            case rel => exact ⟨i + 1, v6, by go_num, rfl, by omega, H6⟩
            case measure => simp [intOf]; omega
          · obtain rfl : i = m := by omega
            go_wp2_with fail
            go_ret
            exact ⟨_, rfl, HW.out.1.lower H1.out.2.size, H1.out.2.trans (HW.out.2.1.mono H1.out.2.size)⟩
end Go.Proofs.YtdbmcikoiilanaaDoor.Xp
