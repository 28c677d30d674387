/- expo: Of as a Call, rows of Of as rows of lines, sizes. ExpoJoins: the law's walk. -/
import Derived.Test.YtdbmcikoiilanaaDoorMgExpoJoins11
import Derived.Test.YtdbmcikoiilanaaDoorMgExpoJoins12
import Derived.Test.YtdbmcikoiilanaaDoorMgExpoJoins13
set_option linter.unusedVariables false
set_option linter.unusedSimpArgs false
namespace Go.Proofs.YtdbmcikoiilanaaDoor.Xp
open Go.RowKit Go.Proofs.YtdbmcikoiilanaaDoor.B0 Go.Proofs.YtdbmcikoiilanaaDoorW.PrintWords Go.Proofs.YtdbmcikoiilanaaDoor.Bld Go.Proofs.YtdbmcikoiilanaaDoor.Pp Go.Proofs.YtdbmcikoiilanaaDoor.Kn

theorem infoR : (Tryd.prog.info? 27).map (fun i => (i.zero, i.size, i.bytes)) = some (some (.agg #[(.string ⟨#[]⟩), (.slice none 0 0), (.int .u64 0)]), 3, 48) := by kernel_rfl
/-- elements as they read at an older world. -/
def atK {α : Type} (d : Kd α) (w0 : World) : Kd α where
  sz := d.sz
  E := []
  K := fun _ x cs => d.K w0 x cs
  M := fun _ _ _ x cs => d.K w0 x cs
  K_len := d.K_len
  K_one := d.K_one
  K_below := fun _ h => h
  K_of_M := fun h => h
  M_mono := fun _ h => h
  M_bound := fun h => h
  M_move := fun _ h => h
  M_lower := fun _ h => h
theorem atK_C {α : Type} {d : Kd α} {w0 w : World} {A : Option Addr} {n : Nat} {xs : List α} (h : (atK d w0).C w A n xs) (hb : Below w0.heap.size w0 w) : d.C w A n xs :=
  ReadsRow.imp_ (size := d.sz) (R := fun x cs => d.K w0 x cs) h (Below.refl _ _) (fun _ _ hp => d.K_below hb hp)
theorem atK_of {α : Type} {d : Kd α} {w0 w : World} {A : Option Addr} {n : Nat} {xs : List α} (h : d.C w0 A n xs) (hb : Below w0.heap.size w0 w) : ReadsRow (d.K w0) d.sz w A n xs := ReadsRow.imp_ h hb (fun _ _ hp => hp)

theorem LW.of_R {w : World} {base : Nat} {v : Value} {xs : List SLin} (h : Kd.R k43 43 w base (fun _ => True) v xs) : LW w base v xs := by
  obtain ⟨_, inner, hown, hr⟩ := h
  have hM : ∀ (x : SLin) (c : List Value), Kd.M k43 w base (fun k => True ∧ some k ≠ v.ownBlock) x c → LRow w x c := by
    rintro x c ⟨_, _, rfl, rfl, _, _, rfl, ⟨v1, rfl, hv⟩, rfl⟩
    obtain ⟨A, c, rfl, h1, h2, h3⟩ := LabAt.of_R (Kd.R_mono hv (fun _ _ => trivial))
    exact ⟨A, c, rfl, h1, h2, h3⟩
  have hlr : ∀ (x : SLin) (c : List Value), LRow w x c → c.length = 3 ∧ ∀ u ∈ c, u.oneCell' = true := by
    rintro x c ⟨A, c2, rfl, _⟩
    exact ⟨rfl, fun u hu => by simp only [List.mem_cons, List.not_mem_nil, or_false] at hu; rcases hu with rfl | rfl | rfl <;> rfl⟩
  have hrr := Kd.reps_raw (hr.imp_ hM) hlr
  refine ⟨Kd.chunks 3 xs.length inner, ⟨fun _ _ => trivial, inner, by rw [Kd.chunks_length]; exact hown, hrr⟩, by rw [Kd.chunks_length], fun i x hx => ?_⟩
  have hl := (List.getElem?_eq_some_iff.1 hx).1
  exact ⟨_, List.getElem?_eq_getElem (by rw [Kd.chunks_length]; exact hl), by
    have h1 := hM _ _ (hr.2 i x hx)
    have h2 := Kd.chunks_get (List.getElem?_eq_getElem (l := Kd.chunks 3 xs.length inner) (i := i) (by rw [Kd.chunks_length]; exact hl))
    rw [h2]; exact h1⟩

/-- what the laws' loops let through. -/
def goodX (x : RLin) : Prop := x.f1.length ≤ 20 ∧ x.f0.size ≤ 200 ∧ ∀ y ∈ x.f1, y.f0.size + y.f1.size ≤ 500
def u64L (l : List RLin) : Prop := ∀ x ∈ l, 0 ≤ x.f2 ∧ x.f2 ≤ 18446744073709551615
theorem u64L_of {l : List RLin} (h : ∀ x ∈ l, Ob.WB27 x) : u64L l := fun x hx => wf_u64 (h x hx).2.2
/-- strings are small. -/
def smL (l : List RLin) : Prop := ∀ x ∈ l, x.f0.size ≤ 1048576 ∧ x.f1.length ≤ 1048576 ∧ ∀ y ∈ x.f1, y.f0.size ≤ 1048576 ∧ y.f1.size ≤ 1048576
theorem smL_of {l : List RLin} (h : ∀ x ∈ l, Ob.WB27 x) : smL l := fun x hx => ⟨(h x hx).1, (h x hx).2.1.1, fun y hy => (h x hx).2.1.2 y hy⟩
theorem wl_bound : ∀ (l : List RLab) (q : Nat), (∀ y ∈ l, y.f0.size + y.f1.size ≤ q) → wl ((l.map cvB).map lbM) ≤ l.length * (q + 3)
  | [], q, _ => by simp [wl]
  | y :: l, q, h => by
    have h1 := wl_bound l q (fun z hz => h z (List.mem_cons_of_mem _ hz))
    have h2 := h y List.mem_cons_self
    have e1 : (lbM (cvB y)).k.length = y.f0.size := rfl
    have e2 : (lbM (cvB y)).t.length = y.f1.size := rfl
    simp only [List.map_cons, wl, List.length_cons, Nat.succ_mul, e1, e2]
    omega
theorem line_bound (x : RLin) (h : goodX x) (hv : 0 ≤ x.f2 ∧ x.f2 ≤ 18446744073709551615) : (lineP (lnM (cvL x))).length ≤ 31000 := by
  have h1 := lineP_len (lnM (cvL x)) (by show x.f2.toNat < _; omega)
  have h2 := wl_bound x.f1 500 h.2.2
  have e1 : (lnM (cvL x)).n.length = x.f0.size := rfl
  have e2 : (lnM (cvL x)).ls = (x.f1.map cvB).map lbM := rfl
  rw [e2, e1] at h1
  have h3 := h.1; have h4 := h.2.1
  have h5 : x.f1.length * (500 + 3) ≤ 20 * (500 + 3) := Nat.mul_le_mul_right _ h3
  omega
theorem flat_bound : ∀ (l : List Ln) (q : Nat), (∀ x ∈ l, (lineP x).length ≤ q) → (l.flatMap lineP).length ≤ l.length * q
  | [], q, _ => by simp
  | x :: l, q, h => by
    have h1 := flat_bound l q (fun z hz => h z (List.mem_cons_of_mem _ hz))
    have h2 := h x List.mem_cons_self
    rw [List.flatMap_cons, List.length_append, List.length_cons, Nat.succ_mul]; omega
theorem of_bound (l : List RLin) (hg : ∀ x ∈ l, goodX x) (hu : u64L l) : (((l.map cvL).map lnM).flatMap lineP).length ≤ l.length * 31000 := by
  have h := flat_bound ((l.map cvL).map lnM) 31000 (fun x hx => by
    obtain ⟨y, hy, rfl⟩ := List.mem_map.1 hx
    obtain ⟨z, hz, rfl⟩ := List.mem_map.1 hy
    exact line_bound z (hg z hz) (hu z hz))
  simpa using h
theorem of_okV (l : List RLin) (hu : u64L l) : okV (l.map cvL) := fun x hx => by
  obtain ⟨y, hy, rfl⟩ := List.mem_map.1 hx
  have := hu y hy
  show 0 ≤ y.f2 ∧ y.f2 < _; omega
theorem vs_of (xs : List SLin) (h : okV xs) : ∀ x ∈ xs.map lnM, x.v < 18446744073709551616 := fun x hx => by
  obtain ⟨y, hy, rfl⟩ := List.mem_map.1 hx
  have := h y hy
  show y.f2.toNat < _; omega
theorem Of_q (w : World) (A : Option Addr) (c : Nat) (l : List RLin) (hC : Kd.C k27 w A l.length l) (hc : l.length ≤ c) (hl : l.length ≤ 1000) (hg : ∀ x ∈ l, goodX x) :
    Calls Tryd.prog 10 #[.slice A l.length c] w fun e w' => ∃ v, e = .returned v ∧ LW w' w.heap.size v (l.map cvL) ∧ Below w.heap.size w w' :=
  (tallyroomlaw36_Of.calls (l.length * (20 + 2) + 1) A c l (l.map cvL) w hC hc (of_f l 20 (by omega) (by omega) (fun x hx => (hg x hx).1))).mono fun e w' ⟨v, h1, h2, h3⟩ => ⟨v, h1, LW.of_R (Kd.S_R h2), h3⟩
theorem PEnd.some {s : ByteArray} {w w' : World} {v : Value} {er : Int} {L : List Ln} (h : PEnd s w w' v er) (hp : parseR s.data.toList = some L) : ∃ ys : List SLin, ys.map lnM = L ∧ er = 0 ∧ PSL w' w.heap.size v ys ∧ okV ys ∧ ((ys.map lnM).flatMap lineP).length ≤ 200000000 := by
  rcases h with ⟨xs, h1, h2, h3, h4, h5⟩ | ⟨h1, _⟩
  · exact ⟨xs, Option.some.inj (h1.symm.trans hp), h2, h3, h4, h5⟩
  · have := h1.symm.trans hp; cases this
/-- the line without a sense. -/
def nine : SLin := ⟨⟨#[57]⟩, [], 4⟩
theorem nine_right : rightL (lnM nine) = false := by decide +kernel
theorem print_nine (xs ys : List SLin) : printP ((xs ++ [nine] ++ ys).map lnM) = printP (xs.map lnM) ++ printP (ys.map lnM) := by
  rw [List.map_append, List.map_append, print_append, print_append]
  have : printP ([nine].map lnM) = [] := by simp [printP, nine_right]
  rw [this, List.append_nil]
end Go.Proofs.YtdbmcikoiilanaaDoor.Xp
set_option linter.unusedVariables false
set_option linter.unusedSimpArgs false
namespace Go.Proofs.YtdbmcikoiilanaaDoor.expoJoins
open Go.RowKit Go.Proofs.YtdbmcikoiilanaaDoor.B0 Go.Proofs.YtdbmcikoiilanaaDoor.Pp Go.Proofs.YtdbmcikoiilanaaDoorW.PrintWords Go.Proofs.YtdbmcikoiilanaaDoorW.PrintLast Go.Proofs.YtdbmcikoiilanaaDoor.Bld Go.Proofs.YtdbmcikoiilanaaDoor.Xp

set_option maxHeartbeats 8000000 in
set_option maxRecDepth 100000 in
theorem expoJoins_walk (w : World) (hP : LP w) (A : Option Addr) (ca : Nat) (a : List RLin) (hCa : Kd.C k27 w A a.length a) (hca : a.length ≤ ca) (hal0 : a.length ≤ 1048576) (hWa : ∀ x ∈ a, Ob.WB27 x)
    (B : Option Addr) (cb : Nat) (b : List RLin) (hCb : Kd.C k27 w B b.length b) (hcb : b.length ≤ cb) (hbl0 : b.length ≤ 1048576) (hWb : ∀ x ∈ b, Ob.WB27 x) :
    Calls Tryd.prog 5 #[.slice A a.length ca, .slice B b.length cb] w fun e w' => e = .returned (.bool true) ∧ Below w.heap.size w w' := by
  have HL := Lib.hid hP; clear hP
  have hal := Lib.hid (alive_c w HL.out)
  have HU : Hid (u64L a ∧ u64L b ∧ smL a ∧ smL b) := ⟨u64L_of hWa, u64L_of hWb, smL_of hWa, smL_of hWb⟩
  clear hWa hWb
  have HCa := Lib.hid hCa; have HCb := Lib.hid hCb; have Hca := Lib.hid hca; have Hcb := Lib.hid hcb
  clear hCa hCb hca hcb
  obtain ⟨na, hna⟩ : ∃ na, a.length = na := ⟨_, rfl⟩
  obtain ⟨nb, hnb⟩ : ∃ nb, b.length = nb := ⟨_, rfl⟩
  have HCa' : Hid (Kd.C k27 w A na a) := by rw [← hna]; exact HCa
  have HCb' : Hid (Kd.C k27 w B nb b) := by rw [← hnb]; exact HCb
  rw [hna] at Hca; rw [hnb] at Hcb
  rw [hna, hnb]
  clear HCa HCb
  have HNA := Lib.hid hna; have HNB := Lib.hid hnb
  clear hna hnb
  go_enter Tryd.func5, Tryd.ntmps5
  go_wp2_with fail
  refine hal.out.mono ?_
  rintro e w1 ⟨rfl, hb1⟩
  have HB1 := Lib.hid hb1; clear hb1 hal
  by_cases h3 : na > 10
  · have hq : decide ((10 : Int) < (na : Int)) = true := decide_eq_true (by omega)
    have hq2 : decide (10 < na) = true := decide_eq_true (by omega)
    go_wp2_with fail
    go_ret
    exact ⟨rfl, HB1.out⟩
  have hq : decide ((10 : Int) < (na : Int)) = false := decide_eq_false (by omega)
  have hq2 : decide (10 < na) = false := decide_eq_false (by omega)
  by_cases h4 : nb > 10
  · have hr : decide ((10 : Int) < (nb : Int)) = true := decide_eq_true (by omega)
    have hr2 : decide (10 < nb) = true := decide_eq_true (by omega)
    go_wp2_with fail
    go_ret
    exact ⟨rfl, HB1.out⟩
  have hr : decide ((10 : Int) < (nb : Int)) = false := decide_eq_false (by omega)
  have hr2 : decide (10 < nb) = false := decide_eq_false (by omega)
  go_wp2_with fail
  clear hq hq2 hr hr2
  have hwz : IntKind.i64.wrap 0 = 0 := by decide
  go_loopw [5] (fun iv wr => ∃ k : Nat, iv = .int .i64 k ∧ k ≤ na + nb ∧ Hid (Below w.heap.size w wr ∧ ∀ j x, j < k → (a ++ b)[j]? = some x → goodX x)) (fun iv _ => na + nb - (intOf iv).toNat)
  case atStart => exact ⟨0, rfl, Nat.zero_le _, HB1.out, fun j x h => absurd h (Nat.not_lt_zero _)⟩
  case round =>
    obtain ⟨k, rfl, hk, HR⟩ := hrel
    by_cases hlt : k < na + nb
    · have hki : (k : Int) < (na : Int) + (nb : Int) := by omega
      have hsz : w.heap.size ≤ wr.heap.size := HR.out.1.size
      go_wp2_with ((with_reducible refine gate_dst (N := 36) rfl ?_); go_loud (refine Kd.R_lit (atK k27 w) (w0 := w) w.heap.size 27 ?hg (N := 36) ?hd (xs := ([] : List RLin)) (inner := []) (ok := fun _ => True) (okp := fun _ => False) ?hr ?hp (fun _ _ => trivial) trivial HR.out.1 hsz (by simp) ?_); (case hd => rfl); (case hg => rfl); (case hr => first | (go_simp; done) | (go_simp; rfl)); (case hp => exact (Reps.none _ _)))
      intro v1 wn ho1 hbn hg1 hn0 hn1 hn2
      have H1 : Hid ((atK k27 w).R 27 wn w.heap.size (fun _ => True) v1 ([] : List RLin) ∧ Below w.heap.size w wn) := ⟨ho1, hbn⟩
      clear ho1 hbn hg1 hn1 hn2
      have hrA := Lib.hid (atK_of HCa'.out H1.out.2)
      go_wp2_with (at_builtin; go_loud (refine Kd.R_append_rows (atK k27 w) (Rr := k27.K w) (w0 := w) w.heap.size rfl _ _ 22 27 (.agg #[(.string ⟨#[]⟩), (.slice none 0 0), (.int .u64 0)]) 48 rfl Tryd.underlying22 infoR rfl (Nat.zero_lt_succ 2) (by decide) v1 [] a A na ca (fun _ => True) (fun _ => False) rfl rfl H1.out.1 hrA.out (fun _ _ h => h) (fun _ h => h.elim) (fun _ _ => trivial) H1.out.2 H1.out.2.size (by simp only [List.length_nil]; omega) ?_))
      intro v2 w2 ho2 hb2 hg2 hat2
      have H2 : Hid ((atK k27 w).R 27 w2 w.heap.size (fun _ => True) v2 a ∧ Below w.heap.size w w2) := ⟨ho2, hb2⟩
      clear ho2 hb2 hg2 hat2 hrA H1
      have hrB := Lib.hid (atK_of HCb'.out H2.out.2)
      go_wp2_with (at_builtin; go_loud (refine Kd.R_append_rows (atK k27 w) (Rr := k27.K w) (w0 := w) w.heap.size rfl _ _ 22 27 (.agg #[(.string ⟨#[]⟩), (.slice none 0 0), (.int .u64 0)]) 48 rfl Tryd.underlying22 infoR rfl (Nat.zero_lt_succ 2) (by decide) v2 a b B nb cb (fun _ => True) (fun _ => False) rfl rfl H2.out.1 hrB.out (fun _ _ h => h) (fun _ h => h.elim) (fun _ _ => trivial) H2.out.2 H2.out.2.size (by have := HNA.out; omega) ?_))
      intro v3 w3 ho3 hb3 hg3 hat3
      obtain ⟨A3, c3, rfl, hl3, hC3⟩ := Kd.R_reads ho3
      have hC3' := atK_C hC3 hb3
      obtain ⟨ab, hab⟩ : ∃ ab, Hid (a ++ b = ab ∧ ab.length = na + nb) := ⟨_, rfl, by rw [List.length_append, HNA.out, HNB.out]⟩
      rw [hab.out.1] at hC3' HR
      rw [hab.out.1]
      have hnl : (a ++ b).length = na + nb := by rw [hab.out.1]; exact hab.out.2
      rw [hab.out.2] at hC3'
      rw [hab.out.2]
      obtain ⟨ad, A4, c4, rfl, d0, d1, d2, hl4, hi4⟩ := at_T27 hC3' k (by omega) (by omega)
      rw [show ((k : Int)).toNat = k from by omega] at d0 d1 d2
      obtain ⟨y, hy⟩ : ∃ y, Hid (rd_T27 ab k = y ∧ ab[k]? = some y) := ⟨_, rfl, by unfold rd_T27; rw [show ((k : Int)).toNat = k from by omega, List.getD_eq_getElem?_getD, List.getElem?_eq_getElem (by have := hab.out.2; omega)]; rfl⟩
      rw [hy.out.1] at d0 d1 d2 hl4 hi4
      have HB3 : Hid (Below w.heap.size w w3) := hb3
      obtain ⟨ny, hny⟩ : ∃ ny, Hid (y.f1.length = ny) := ⟨_, Lib.hid rfl⟩
      rw [hny.out] at d1 hi4 hl4
      have HI4 := Lib.hid hi4
      clear ho3 hb3 hg3 hat3 hl3 hC3 hC3' H2 hrB hl4 hi4 hnl
      have hki2 : (k : Int) < ((na + nb : Nat) : Int) := by omega
      obtain ⟨wm, hwm⟩ : ∃ wm, Hid (w3.alloc (.cells #[.string y.f0, .slice A4 ny c4, .int .u64 y.f2] 27) = wm) := ⟨_, Lib.hid rfl⟩
      obtain ⟨bx, hbx⟩ : ∃ bx, Hid (w3.heap.size = bx) := ⟨_, Lib.hid rfl⟩
      have hbm : Below w3.heap.size w3 wm := by rw [← hwm.out]; exact (Below.refl _ _).alloc (Nat.le_refl _) _
      have HXM : Hid (wm.heap[bx]? = some (.cells #[.string y.f0, .slice A4 ny c4, .int .u64 y.f2] 27 (0, 0)) ∧ Kd.C k29 wm A4 ny y.f1) := ⟨by rw [← hwm.out, ← hbx.out]; exact allocN _ _, Kd.C_below HI4.out hbm⟩
      have HBm : Hid (Below w.heap.size w wm) := HB3.out.trans (hbm.mono HB3.out.size)
      clear hbm HI4
      go_upto_region 9 with fail
      rw [hwm.out, hbx.out]
      clear d0 d1 d2
      have q0 : wm.cell? ⟨bx, 0, none⟩ = some (.string y.f0) := by rw [cellB HXM.out.1]; rfl
      have q1 : wm.cell? ⟨bx, 1, none⟩ = some (.slice A4 ny c4) := by rw [cellB HXM.out.1]; rfl
      by_cases h5 : ny > 10
      · have hr : decide ((10 : Int) < (ny : Int)) = true := decide_eq_true (by omega)
        have hr2 : decide (10 < ny) = true := decide_eq_true (by omega)
        go_wp2_with fail
        go_ret
        exact ⟨rfl, HBm.out⟩
      have hr : decide ((10 : Int) < (ny : Int)) = false := decide_eq_false (by omega)
      have hr2 : decide (10 < ny) = false := decide_eq_false (by omega)
      by_cases h6 : y.f0.size > 100
      · have hr3 : decide ((100 : Int) < (y.f0.size : Int)) = true := decide_eq_true (by omega)
        have hr4 : decide (100 < y.f0.size) = true := decide_eq_true (by omega)
        go_wp2_with fail
        go_ret
        exact ⟨rfl, HBm.out⟩
      have hr3 : decide ((100 : Int) < (y.f0.size : Int)) = false := decide_eq_false (by omega)
      have hr4 : decide (100 < y.f0.size) = false := decide_eq_false (by omega)
      have HY0 : Hid (y.f0.size ≤ 200) := by show _ ≤ _; omega
      have HSM : Hid (∀ z ∈ y.f1, z.f0.size ≤ 1048576 ∧ z.f1.size ≤ 1048576) := by
        have hm := List.mem_of_getElem? hy.out.2
        rw [← hab.out.1] at hm
        rcases List.mem_append.1 hm with h | h
        · exact (HU.out.2.2.1 y h).2.2
        · exact (HU.out.2.2.2 y h).2.2
      go_wp2_with fail
      clear hr hr2 hr3 hr4 q0 q1 h6
      go_loopw [7] (fun jv wr => ∃ j : Nat, jv = .int .i64 j ∧ j ≤ ny ∧ Hid (Below wm.heap.size wm wr ∧ ∀ q z, q < j → y.f1[q]? = some z → z.f0.size + z.f1.size ≤ 500)) (fun jv _ => ny - (intOf jv).toNat)
      case atStart => exact ⟨0, rfl, Nat.zero_le _, Below.refl _ _, fun q z h => absurd h (Nat.not_lt_zero _)⟩
      case round =>
        obtain ⟨j, rfl, hj, HJ⟩ := hrel
        have q1 : wr.cell? ⟨bx, 1, none⟩ = some (.slice A4 ny c4) := by rw [cellB ((HJ.out.1.block _ (lt_of_get HXM.out.1)).trans HXM.out.1)]; rfl
        by_cases hjl : j < ny
        · have hji : (j : Int) < (ny : Int) := by omega
          obtain ⟨ad5, rfl, e0, e1⟩ := at_T29 (Kd.C_below HXM.out.2 HJ.out.1) j (by omega) (by omega)
          rw [show ((j : Int)).toNat = j from by omega] at e0 e1
          obtain ⟨z, hz⟩ : ∃ z, Hid (rd_T29 y.f1 j = z ∧ y.f1[j]? = some z) := ⟨_, rfl, by unfold rd_T29; rw [show ((j : Int)).toNat = j from by omega, List.getD_eq_getElem?_getD, List.getElem?_eq_getElem (by rw [hny.out]; exact hjl)]; rfl⟩
          rw [hz.out.1] at e0 e1
          have hz1 := (HSM.out z (List.mem_of_getElem? hz.out.2)).1
          have hz2 := (HSM.out z (List.mem_of_getElem? hz.out.2)).2
          by_cases h9 : z.f0.size + z.f1.size > 200
          · have hr : decide ((200 : Int) < (z.f0.size : Int) + (z.f1.size : Int)) = true := decide_eq_true (by omega)
            have hr2 : decide (200 < z.f0.size + z.f1.size) = true := decide_eq_true (by omega)
            go_upto_region 14 with fail
            go_quiet (fail)
            go_wp2_with fail
            go_ret
            exact ⟨rfl, by first | exact HBm.out.trans (HJ.out.1.mono HBm.out.size) | exact Below_drewN (HBm.out.trans (HJ.out.1.mono HBm.out.size)) _⟩
          · have hr : decide ((200 : Int) < (z.f0.size : Int) + (z.f1.size : Int)) = false := decide_eq_false (by omega)
            have hr2 : decide (200 < z.f0.size + z.f1.size) = false := decide_eq_false (by omega)
            have HZ : Hid (z.f0.size + z.f1.size ≤ 500) := by show _ ≤ _; omega
            go_upto_region 14 with fail
            go_quiet (fail)
            go_wp2_with fail
            go_roundw
            case rel =>
              refine ⟨j + 1, by go_num, by omega, by first | exact HJ.out.1 | exact Below_drewN HJ.out.1 _, fun q z' hq hz' => ?_⟩
              rcases Nat.lt_or_ge q j with h | h
              · exact HJ.out.2 q z' h hz'
              · obtain rfl : q = j := by omega
                rw [hz.out.2] at hz'
                obtain rfl := Option.some.inj hz'
                exact HZ.out
            case measure => simp [intOf]; omega
        · obtain rfl : j = ny := by omega
          have HG : Hid (goodX y) := ⟨by rw [hny.out]; omega, HY0.out, fun z hz => by
            obtain ⟨q, hq, e⟩ := List.mem_iff_getElem.1 hz
            exact HJ.out.2 q z (by rw [hny.out] at hq; exact hq) (by rw [List.getElem?_eq_getElem hq, e])⟩
          have HBJ : Hid (Below w.heap.size w wr) := HBm.out.trans (HJ.out.1.mono HBm.out.size)
          go_wp2_with fail
          go_roundw
          case rel =>
            refine ⟨k + 1, by go_num, by omega, HBJ.out, fun j x hj hx => ?_⟩
            rw [hab.out.1] at hx
            rcases Nat.lt_or_ge j k with h | h
            · exact HR.out.2 j x h hx
            · obtain rfl : j = k := by omega
              rw [hy.out.2] at hx
              obtain rfl := Option.some.inj hx
              exact HG.out
          case measure => simp [intOf]; omega
    · have hkk : k = na + nb := by omega
      have HG : Hid ((∀ x ∈ a, goodX x) ∧ (∀ x ∈ b, goodX x)) := by
        constructor
        · intro x hx
          obtain ⟨j, hj, e⟩ := List.mem_iff_getElem.1 hx
          exact HR.out.2 j x (by have := HNA.out; omega) (by rw [List.getElem?_append_left hj, List.getElem?_eq_getElem hj, e])
        · intro x hx
          obtain ⟨j, hj, e⟩ := List.mem_iff_getElem.1 hx
          exact HR.out.2 (na + j) x (by have := HNB.out; omega) (by rw [List.getElem?_append_right (by have := HNA.out; omega), show na + j - a.length = j from by (have := HNA.out; omega), List.getElem?_eq_getElem hj, e])
      have hki : decide ((k : Int) < (na : Int) + (nb : Int)) = false := decide_eq_false (by omega)
      have HBR : Hid (Below w.heap.size w wr) := HR.out.1
      clear HR hlt hk
      obtain ⟨xa, hxa⟩ : ∃ xa, Hid (a.map cvL = xa ∧ xa.length = na ∧ okV xa ∧ ((xa.map lnM).flatMap lineP).length ≤ 310000) := ⟨_, rfl, by rw [List.length_map]; exact HNA.out, of_okV a HU.out.1, by have h := of_bound a HG.out.1 HU.out.1; rw [HNA.out] at h; omega⟩
      obtain ⟨xb, hxb⟩ : ∃ xb, Hid (b.map cvL = xb ∧ xb.length = nb ∧ okV xb ∧ ((xb.map lnM).flatMap lineP).length ≤ 310000) := ⟨_, rfl, by rw [List.length_map]; exact HNB.out, of_okV b HU.out.2.1, by have h := of_bound b HG.out.2 HU.out.2.1; rw [HNB.out] at h; omega⟩
      have hofa : ∀ w' : World, Below w.heap.size w w' → Calls Tryd.prog 10 #[.slice A na ca] w' fun e w'' => ∃ v0 : Value, e = .returned v0 ∧ LW w'' w'.heap.size v0 xa ∧ Below w'.heap.size w' w'' := by
        intro w' hb
        have h := Of_q w' A ca a (by rw [HNA.out]; exact Kd.C_below HCa'.out hb) (by rw [HNA.out]; exact Hca.out) (by rw [HNA.out]; omega) HG.out.1
        rw [HNA.out, hxa.out.1] at h; exact h
      have hofb : ∀ w' : World, Below w.heap.size w w' → Calls Tryd.prog 10 #[.slice B nb cb] w' fun e w'' => ∃ v0 : Value, e = .returned v0 ∧ LW w'' w'.heap.size v0 xb ∧ Below w'.heap.size w' w'' := by
        intro w' hb
        have h := Of_q w' B cb b (by rw [HNB.out]; exact Kd.C_below HCb'.out hb) (by rw [HNB.out]; exact Hcb.out) (by rw [HNB.out]; omega) HG.out.2
        rw [HNB.out, hxb.out.1] at h; exact h
      have HOA := Lib.hid hofa; have HOB := Lib.hid hofb; clear hofa hofb
      obtain ⟨s1, hs1⟩ : ∃ s1 : ByteArray, Hid (strV (printP (xa.map lnM)) = .string s1 ∧ s1.data.toList = printP (xa.map lnM) ∧ s1.size ≤ 310000) := ⟨⟨(printP (xa.map lnM)).toArray⟩, rfl, rfl, by
        have h := filter_len (xa.map lnM); have h2 := hxa.out.2.2.2; show (printP (xa.map lnM)).length ≤ _; omega⟩
      obtain ⟨s2, hs2⟩ : ∃ s2 : ByteArray, Hid (strV (printP (xb.map lnM)) = .string s2 ∧ s2.data.toList = printP (xb.map lnM) ∧ s2.size ≤ 310000) := ⟨⟨(printP (xb.map lnM)).toArray⟩, rfl, rfl, by
        have h := filter_len (xb.map lnM); have h2 := hxb.out.2.2.2; show (printP (xb.map lnM)).length ≤ _; omega⟩
      go_wp2_with fail
      refine (HOA.out wr HBR.out).mono ?_
      rintro e w2 ⟨v2, rfl, hS2, hb2⟩
      obtain ⟨A2, c2, e2, hc2, hC2⟩ := hS2.reads
      rw [hxa.out.2.1] at e2
      subst e2
      have H2 : Hid (Below w.heap.size w w2 ∧ Kd.C k43 w2 A2 xa.length xa) := ⟨HBR.out.trans (hb2.mono HBR.out.size), hC2⟩
      clear hS2 hb2 hC2 hc2
      have HPR := Lib.hid (Print_c w2 (HL.out.below H2.out.1) A2 c2 xa H2.out.2 hxa.out.2.2.1 (by have h2 := hxa.out.2.2.2; omega))
      rw [hxa.out.2.1, hs1.out.1] at HPR
      go_wp2_with fail
      refine HPR.out.mono ?_
      rintro e w3 ⟨rfl, hb3⟩
      have H3 : Hid (Below w.heap.size w w3) := H2.out.1.trans (hb3.mono H2.out.1.size)
      clear hb3 H2 HPR
      go_wp2_with fail
      refine (HOB.out w3 H3.out).mono ?_
      rintro e w4 ⟨v4, rfl, hS4, hb4⟩
      obtain ⟨A4, c4, e4, hc4, hC4⟩ := hS4.reads
      rw [hxb.out.2.1] at e4
      subst e4
      have H4 : Hid (Below w.heap.size w w4 ∧ Kd.C k43 w4 A4 xb.length xb) := ⟨H3.out.trans (hb4.mono H3.out.size), hC4⟩
      clear hS4 hb4 hC4 hc4
      have HPR := Lib.hid (Print_c w4 (HL.out.below H4.out.1) A4 c4 xb H4.out.2 hxb.out.2.2.1 (by have h2 := hxb.out.2.2.2; omega))
      rw [hxb.out.2.1, hs2.out.1] at HPR
      go_wp2_with fail
      refine HPR.out.mono ?_
      rintro e w5 ⟨rfl, hb5⟩
      have H5 : Hid (Below w.heap.size w w5) := H4.out.1.trans (hb5.mono H4.out.1.size)
      clear hb5 H4 H3 HPR
      go_wp2_with fail
      refine (HOA.out w5 H5.out).mono ?_
      rintro e w6 ⟨v6, rfl, hS6, hb6⟩
      obtain ⟨rows6, hr6, hl6⟩ := hS6
      have hrl6 : Hid (rows6.length = na) := by show _ = _; rw [hl6.1, hxa.out.2.1]
      have H6 : Hid ((Kd.raw 3).R 43 w6 w5.heap.size (fun _ => True) v6 rows6 ∧ LRows w6 xa rows6 ∧ Below w5.heap.size w5 w6) := ⟨hr6, hl6, hb6⟩
      clear hr6 hl6 hb6
      go_wp2_with (at_builtin; go_loud (refine Kd.R_append (Kd.raw 3) (w0 := w5) w5.heap.size rfl _ _ 32 43 (.agg #[(.string ⟨#[]⟩), (.slice none 0 0), (.int .u64 0)]) 48 rfl Tryd.underlying32 info43 rfl (Nat.zero_lt_succ 2) (by decide) v6 rows6 ([.string ⟨#[57]⟩, .slice none 0 0, .int .u64 4] : List Value) [.string ⟨#[57]⟩, .slice none 0 0, .int .u64 4] (fun _ => True) (fun _ => False) rfl rfl (raw3M _ _ _ _ _ _ _ _) (fun _ h => h.elim) (fun _ _ => trivial) H6.out.1 H6.out.2.2 H6.out.2.2.size (by rw [hrl6.out]; omega) ?_))
      intro v7 w7 hr7 hb7 hg7 hat7
      have H7 : Hid (LW w7 w5.heap.size v7 (xa ++ [nine]) ∧ Below w5.heap.size w5 w7) := by
        have hk := KL.grown H6.out.1 (by decide) hg7
        exact ⟨⟨_, hr7, (H6.out.2.1.keep hk).append (LRows.one ⟨none, 0, rfl, Nat.le_refl _, fun _ => rfl, LabAt.none _⟩)⟩, hb7⟩
      clear hr7 hb7 hg7 hat7 hrl6
      have HB7 : Hid (Below w.heap.size w w7) := H5.out.trans (H7.out.2.mono H5.out.size)
      go_wp2_with fail
      refine (HOB.out w7 HB7.out).mono ?_
      rintro e w8 ⟨v8, rfl, hS8, hb8⟩
      obtain ⟨rows8, hr8, hl8⟩ := hS8
      obtain ⟨A8, c8, e8, _, hC8⟩ := Kd.R_reads hr8
      have hrl8 : rows8.length = nb := by rw [hl8.1, hxb.out.2.1]
      rw [hrl8] at e8 hC8
      subst e8
      obtain ⟨rows7, hr7, hl7⟩ := H7.out.1.below hb8
      have hrl7 : Hid (rows7.length = na + 1) := by show _ = _; rw [hl7.1, List.length_append, hxa.out.2.1]; rfl
      have H8 : Hid ((Kd.raw 3).R 43 w8 w5.heap.size (fun _ => True) v7 rows7 ∧ LRows w8 (xa ++ [nine]) rows7 ∧ LRows w8 xb rows8 ∧ (Kd.raw 3).C w8 A8 nb rows8 ∧ Below w5.heap.size w5 w8) := ⟨hr7, hl7, hl8, hC8, H7.out.2.trans (hb8.mono H7.out.2.size)⟩
      clear hr7 hl7 hl8 hC8 hr8 hb8 hrl8
      go_wp2_with (at_builtin; go_loud (refine Kd.R_append_rows (Kd.raw 3) (Rr := (Kd.raw 3).K w8) (w0 := w5) w5.heap.size rfl _ _ 32 43 (.agg #[(.string ⟨#[]⟩), (.slice none 0 0), (.int .u64 0)]) 48 rfl Tryd.underlying32 info43 rfl (Nat.zero_lt_succ 2) (by decide) v7 rows7 rows8 A8 nb c8 (fun _ => True) (fun _ => False) rfl rfl H8.out.1 H8.out.2.2.2.1 (fun _ _ h => h) (fun _ h => h.elim) (fun _ _ => trivial) H8.out.2.2.2.2 H8.out.2.2.2.2.size (by rw [hrl7.out]; omega) ?_))
      intro v9 w9 hr9 hb9 hg9 hat9
      have hS9 : LW w9 w5.heap.size v9 (xa ++ [nine] ++ xb) := by
        have hk := KL.grown H8.out.1 (by decide) hg9
        exact ⟨_, hr9, (H8.out.2.1.keep hk).append (H8.out.2.2.1.keep hk)⟩
      obtain ⟨A9, c9, e9, hc9, hC9⟩ := hS9.reads
      obtain ⟨xs, hxs⟩ : ∃ xs, Hid (xa ++ [nine] ++ xb = xs ∧ okV xs ∧ ((xs.map lnM).flatMap lineP).length ≤ 700000 ∧ printP (xs.map lnM) = printP (xa.map lnM) ++ printP (xb.map lnM)) := ⟨_, rfl, fun x hx => by
          rcases List.mem_append.1 hx with h | h
          · rcases List.mem_append.1 h with h | h
            · exact hxa.out.2.2.1 x h
            · rw [List.mem_singleton] at h; subst h; exact ⟨by decide, by decide⟩
          · exact hxb.out.2.2.1 x h, by
          rw [List.map_append, List.map_append, List.flatMap_append, List.flatMap_append, List.length_append, List.length_append]
          have h1 := hxa.out.2.2.2; have h2 := hxb.out.2.2.2
          have h3 : (([nine].map lnM).flatMap lineP).length ≤ 100 := by decide +kernel
          omega, print_nine xa xb⟩
      rw [hxs.out.1] at e9 hC9
      obtain ⟨nx, hnx⟩ : ∃ nx, Hid (xs.length = nx) := ⟨_, Lib.hid rfl⟩
      rw [hnx.out] at e9 hC9
      subst e9
      have H9 : Hid (Kd.C k43 w9 A9 nx xs ∧ Below w.heap.size w w9) := ⟨hC9, H5.out.trans (hb9.mono H5.out.size)⟩
      clear hr9 hb9 hg9 hat9 hS9 hC9 hc9 hrl7 HB7 H8 H7 H6
      go_wp2_with fail
      obtain ⟨s12, hs12⟩ : ∃ s12, Hid (s1 ++ s2 = s12 ∧ s12.data.toList = s1.data.toList ++ s2.data.toList ∧ s12.size ≤ 620000) := ⟨_, rfl, by simp, by rw [ByteArray.size_append]; have := hs1.out.2.2; have := hs2.out.2.2; omega⟩
      have HP1 := Lib.hid (Parse_c s1 (by have := hs1.out.2.2; omega) w9 (HL.out.below H9.out.2))
      refine HP1.out.mono ?_
      rintro e wA ⟨vA, erA, rfl, hpA, hbA⟩
      obtain ⟨ya, hya, rfl, hSa, _, _⟩ := hpA.some (by rw [hs1.out.2.1]; exact parseR_print _ (vs_of _ hxa.out.2.2.1))
      obtain ⟨AA, cA, eA, _, _⟩ := Kd.S_reads hSa
      obtain ⟨n1, hn1⟩ : ∃ n1, Hid (ya.length = n1 ∧ n1 ≤ 100) := ⟨_, rfl, by
        have h1 : (ya.map lnM).length = ya.length := List.length_map _
        rw [hya] at h1
        have h2 := List.length_filter_le rightL (xa.map lnM)
        rw [List.length_map, hxa.out.2.1] at h2; omega⟩
      rw [hn1.out.1] at eA
      subst eA
      have HYA := Lib.hid hya
      have HA1 : Hid (Below w.heap.size w wA ∧ Below w9.heap.size w9 wA) := ⟨H9.out.2.trans (hbA.mono H9.out.2.size), hbA⟩
      clear hpA hSa hbA hya HP1
      have HP2 := Lib.hid (Parse_c s2 (by have := hs2.out.2.2; omega) wA (HL.out.below HA1.out.1))
      go_wp2_with fail
      refine HP2.out.mono ?_
      rintro e wB ⟨vB, erB, rfl, hpB, hbB⟩
      obtain ⟨yb, hyb, rfl, hSb, _, _⟩ := hpB.some (by rw [hs2.out.2.1]; exact parseR_print _ (vs_of _ hxb.out.2.2.1))
      obtain ⟨AB, cB, eB, _, _⟩ := Kd.S_reads hSb
      obtain ⟨n2, hn2⟩ : ∃ n2, Hid (yb.length = n2 ∧ n2 ≤ 100) := ⟨_, rfl, by
        have h1 : (yb.map lnM).length = yb.length := List.length_map _
        rw [hyb] at h1
        have h2 := List.length_filter_le rightL (xb.map lnM)
        rw [List.length_map, hxb.out.2.1] at h2; omega⟩
      rw [hn2.out.1] at eB
      subst eB
      have HYB := Lib.hid hyb
      have HB2 : Hid (Below w.heap.size w wB ∧ Below w9.heap.size w9 wB) := ⟨HA1.out.1.trans (hbB.mono HA1.out.1.size), HA1.out.2.trans (hbB.mono HA1.out.2.size)⟩
      clear hpB hSb hbB hyb HP2
      have hsum : ¬ (9223372036854775807 < s1.size + s2.size) := by have := hs1.out.2.2; have := hs2.out.2.2; omega
      have hq12 := hs12.out.1
      have HP3 := Lib.hid (Parse_c s12 (by have := hs12.out.2.2; omega) wB (HL.out.below HB2.out.1))
      go_wp2_with fail
      refine HP3.out.mono ?_
      rintro e wC ⟨vC, erC, rfl, hpC, hbC⟩
      obtain ⟨yc, hyc, rfl, hSc, hvc, hlc⟩ := hpC.some (L := ((xa ++ xb).map lnM).filter rightL) (by
        rw [hs12.out.2.1, hs1.out.2.1, hs2.out.2.1, ← Xp.print_append, ← List.map_append]
        exact parseR_print _ (vs_of _ (fun x hx => by
          rcases List.mem_append.1 hx with h | h
          · exact hxa.out.2.2.1 x h
          · exact hxb.out.2.2.1 x h)))
      obtain ⟨AC, cC, eC, _, hCC⟩ := Kd.S_reads hSc
      have hln : yc.length = n1 + n2 := by
        have h1 : (yc.map lnM).length = yc.length := List.length_map _
        have h2 : (ya.map lnM).length = ya.length := List.length_map _
        have h3 : (yb.map lnM).length = yb.length := List.length_map _
        rw [hyc, List.map_append, List.filter_append, List.length_append, ← HYA.out, ← HYB.out, h2, h3, hn1.out.1, hn2.out.1] at h1
        exact h1.symm
      have hpc : strV (printP (yc.map lnM)) = .string s12 := by
        have e : printP (yc.map lnM) = s12.data.toList := by rw [hyc, print_filter, hs12.out.2.1, hs1.out.2.1, hs2.out.2.1, ← Xp.print_append, ← List.map_append]
        rw [e]; rfl
      have HC3 : Hid (Below w.heap.size w wC ∧ Below w9.heap.size w9 wC) := ⟨HB2.out.1.trans (hbC.mono HB2.out.1.size), HB2.out.2.trans (hbC.mono HB2.out.2.size)⟩
      rw [hln] at eC
      have HCC := Lib.hid hCC
      subst eC
      have HPC : Hid (∀ W, Below wC.heap.size wC W → Calls Tryd.prog 9 #[.slice AC (n1 + n2) cC] W fun e w' => e = .returned (.string s12) ∧ Below W.heap.size W w') := fun W hb => by
        have h := Print_c W (HL.out.below (HC3.out.1.trans (hb.mono HC3.out.1.size))) AC cC yc (Kd.C_below HCC.out hb) hvc hlc
        rw [hln, hpc] at h; exact h
      have HPX : Hid (Calls Tryd.prog 9 #[.slice A9 nx c9] wC fun e w' => e = .returned (.string s12) ∧ Below wC.heap.size wC w') := by
        have h := Print_c wC (HL.out.below HC3.out.1) A9 c9 xs (by rw [hnx.out]; exact Kd.C_below H9.out.1 HC3.out.2) hxs.out.2.1 (by have := hxs.out.2.2.1; omega)
        have e : strV (printP (xs.map lnM)) = .string s12 := by
          have e : printP (xs.map lnM) = s12.data.toList := by rw [hxs.out.2.2.2, hs12.out.2.1, hs1.out.2.1, hs2.out.2.1]
          rw [e]; rfl
        rw [hnx.out, e] at h; exact h
      clear hpC hSc hbC hyc hCC HCC hvc hlc hln hpc HP3
      go_wp2_with fail
      refine HPX.out.mono ?_
      rintro e wD ⟨rfl, hbD⟩
      have HD := Lib.hid hbD
      clear hbD HPX
      have hee : (s12.toList == s12.toList) = true := by simp
      have hll : (((n1 + n2 : Nat) : Int) == (n1 : Int) + (n2 : Int)) = true := by simp
      have hb1 := hn1.out.2
      have hb2 := hn2.out.2
      go_wp2_with fail
      refine (HPC.out wD HD.out).mono ?_
      rintro e wE ⟨rfl, hbE⟩
      have HE : Hid (Below w.heap.size w wE) := HC3.out.1.trans ((HD.out.trans (hbE.mono HD.out.size)).mono HC3.out.1.size)
      clear hbE HPC
      go_wp2_with fail
      go_ret
      exact ⟨rfl, HE.out⟩
end Go.Proofs.YtdbmcikoiilanaaDoor.expoJoins
