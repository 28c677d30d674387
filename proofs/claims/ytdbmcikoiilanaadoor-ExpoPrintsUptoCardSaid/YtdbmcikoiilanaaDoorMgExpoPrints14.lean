/- expo: Of as a Call, rows of Of as rows of lines, sizes. The contract of tallyroomref22_Digits, as the kit's print wrote it (taken over by the session's program pick.py). expo: the document's digits are the numeral. The contract of tallyroomref36_Print, as the kit's print wrote it (taken over by the session's program pick.py). The contract of tallyroomlaw36_same, as the kit's print wrote it (taken over by the session's program pick.py). expo: what the document's Print computes is printP. ExpoPrints: the law's walk. -/
import Derived.Test.YtdbmcikoiilanaaDoorMgExpoPrints11
import Derived.Test.YtdbmcikoiilanaaDoorMgExpoPrints12
import Derived.Test.YtdbmcikoiilanaaDoorMgExpoPrints13
import Derived.Test.YtdbmcikoiilanaaDoorMgExpoPrints5
set_option linter.unusedVariables false
set_option linter.unusedSimpArgs false
namespace Go.Proofs.YtdbmcikoiilanaaDoor.Xp
open Go.RowKit Go.Proofs.YtdbmcikoiilanaaDoor.B0 Go.Proofs.YtdbmcikoiilanaaDoorW.PrintWords Go.Proofs.YtdbmcikoiilanaaDoor.Bld Go.Proofs.YtdbmcikoiilanaaDoor.Pp Go.Proofs.YtdbmcikoiilanaaDoor.Kn

theorem infoR : (Tryd.prog.info? 27).map (fun i => (i.zero, i.size, i.bytes)) = some (some (.agg #[(.string ⟨#[]⟩), (.slice none 0 0), (.int .u64 0)]), 3, 48) := by kernel_rfl
/-- elements as they read at an older world. -/
def atK {α : Type} (d : Kd α) (w0 : World) : Kd α where
  sz := d.sz
  E := []
  K := fun _ x cs => d.K w0 x cs
  M := fun _ _ _ x cs => d.K w0 x cs
  K_len := d.K_len
  K_one := d.K_one
  K_below := fun _ h => h
  K_of_M := fun h => h
  M_mono := fun _ h => h
  M_bound := fun h => h
  M_move := fun _ h => h
  M_lower := fun _ h => h
theorem atK_C {α : Type} {d : Kd α} {w0 w : World} {A : Option Addr} {n : Nat} {xs : List α} (h : (atK d w0).C w A n xs) (hb : Below w0.heap.size w0 w) : d.C w A n xs :=
  ReadsRow.imp_ (size := d.sz) (R := fun x cs => d.K w0 x cs) h (Below.refl _ _) (fun _ _ hp => d.K_below hb hp)
theorem atK_of {α : Type} {d : Kd α} {w0 w : World} {A : Option Addr} {n : Nat} {xs : List α} (h : d.C w0 A n xs) (hb : Below w0.heap.size w0 w) : ReadsRow (d.K w0) d.sz w A n xs := ReadsRow.imp_ h hb (fun _ _ hp => hp)

theorem LW.of_R {w : World} {base : Nat} {v : Value} {xs : List SLin} (h : Kd.R k43 43 w base (fun _ => True) v xs) : LW w base v xs := by
  obtain ⟨_, inner, hown, hr⟩ := h
  have hM : ∀ (x : SLin) (c : List Value), Kd.M k43 w base (fun k => True ∧ some k ≠ v.ownBlock) x c → LRow w x c := by
    rintro x c ⟨_, _, rfl, rfl, _, _, rfl, ⟨v1, rfl, hv⟩, rfl⟩
    obtain ⟨A, c, rfl, h1, h2, h3⟩ := LabAt.of_R (Kd.R_mono hv (fun _ _ => trivial))
    exact ⟨A, c, rfl, h1, h2, h3⟩
  have hlr : ∀ (x : SLin) (c : List Value), LRow w x c → c.length = 3 ∧ ∀ u ∈ c, u.oneCell' = true := by
    rintro x c ⟨A, c2, rfl, _⟩
    exact ⟨rfl, fun u hu => by simp only [List.mem_cons, List.not_mem_nil, or_false] at hu; rcases hu with rfl | rfl | rfl <;> rfl⟩
  have hrr := Kd.reps_raw (hr.imp_ hM) hlr
  refine ⟨Kd.chunks 3 xs.length inner, ⟨fun _ _ => trivial, inner, by rw [Kd.chunks_length]; exact hown, hrr⟩, by rw [Kd.chunks_length], fun i x hx => ?_⟩
  have hl := (List.getElem?_eq_some_iff.1 hx).1
  exact ⟨_, List.getElem?_eq_getElem (by rw [Kd.chunks_length]; exact hl), by
    have h1 := hM _ _ (hr.2 i x hx)
    have h2 := Kd.chunks_get (List.getElem?_eq_getElem (l := Kd.chunks 3 xs.length inner) (i := i) (by rw [Kd.chunks_length]; exact hl))
    rw [h2]; exact h1⟩

/-- what the laws' loops let through. -/
def goodX (x : RLin) : Prop := x.f1.length ≤ 20 ∧ x.f0.size ≤ 200 ∧ ∀ y ∈ x.f1, y.f0.size + y.f1.size ≤ 500
def u64L (l : List RLin) : Prop := ∀ x ∈ l, 0 ≤ x.f2 ∧ x.f2 ≤ 18446744073709551615
theorem u64L_of {l : List RLin} (h : ∀ x ∈ l, Ob.WB27 x) : u64L l := fun x hx => wf_u64 (h x hx).2.2
/-- strings are small. -/
def smL (l : List RLin) : Prop := ∀ x ∈ l, x.f0.size ≤ 1048576 ∧ x.f1.length ≤ 1048576 ∧ ∀ y ∈ x.f1, y.f0.size ≤ 1048576 ∧ y.f1.size ≤ 1048576
theorem smL_of {l : List RLin} (h : ∀ x ∈ l, Ob.WB27 x) : smL l := fun x hx => ⟨(h x hx).1, (h x hx).2.1.1, fun y hy => (h x hx).2.1.2 y hy⟩
theorem wl_bound : ∀ (l : List RLab) (q : Nat), (∀ y ∈ l, y.f0.size + y.f1.size ≤ q) → wl ((l.map cvB).map lbM) ≤ l.length * (q + 3)
  | [], q, _ => by simp [wl]
  | y :: l, q, h => by
    have h1 := wl_bound l q (fun z hz => h z (List.mem_cons_of_mem _ hz))
    have h2 := h y List.mem_cons_self
    have e1 : (lbM (cvB y)).k.length = y.f0.size := rfl
    have e2 : (lbM (cvB y)).t.length = y.f1.size := rfl
    simp only [List.map_cons, wl, List.length_cons, Nat.succ_mul, e1, e2]
    omega
theorem line_bound (x : RLin) (h : goodX x) (hv : 0 ≤ x.f2 ∧ x.f2 ≤ 18446744073709551615) : (lineP (lnM (cvL x))).length ≤ 31000 := by
  have h1 := lineP_len (lnM (cvL x)) (by show x.f2.toNat < _; omega)
  have h2 := wl_bound x.f1 500 h.2.2
  have e1 : (lnM (cvL x)).n.length = x.f0.size := rfl
  have e2 : (lnM (cvL x)).ls = (x.f1.map cvB).map lbM := rfl
  rw [e2, e1] at h1
  have h3 := h.1; have h4 := h.2.1
  have h5 : x.f1.length * (500 + 3) ≤ 20 * (500 + 3) := Nat.mul_le_mul_right _ h3
  omega
theorem flat_bound : ∀ (l : List Ln) (q : Nat), (∀ x ∈ l, (lineP x).length ≤ q) → (l.flatMap lineP).length ≤ l.length * q
  | [], q, _ => by simp
  | x :: l, q, h => by
    have h1 := flat_bound l q (fun z hz => h z (List.mem_cons_of_mem _ hz))
    have h2 := h x List.mem_cons_self
    rw [List.flatMap_cons, List.length_append, List.length_cons, Nat.succ_mul]; omega
theorem of_bound (l : List RLin) (hg : ∀ x ∈ l, goodX x) (hu : u64L l) : (((l.map cvL).map lnM).flatMap lineP).length ≤ l.length * 31000 := by
  have h := flat_bound ((l.map cvL).map lnM) 31000 (fun x hx => by
    obtain ⟨y, hy, rfl⟩ := List.mem_map.1 hx
    obtain ⟨z, hz, rfl⟩ := List.mem_map.1 hy
    exact line_bound z (hg z hz) (hu z hz))
  simpa using h
theorem of_okV (l : List RLin) (hu : u64L l) : okV (l.map cvL) := fun x hx => by
  obtain ⟨y, hy, rfl⟩ := List.mem_map.1 hx
  have := hu y hy
  show 0 ≤ y.f2 ∧ y.f2 < _; omega
theorem vs_of (xs : List SLin) (h : okV xs) : ∀ x ∈ xs.map lnM, x.v < 18446744073709551616 := fun x hx => by
  obtain ⟨y, hy, rfl⟩ := List.mem_map.1 hx
  have := h y hy
  show y.f2.toNat < _; omega
theorem Of_q (w : World) (A : Option Addr) (c : Nat) (l : List RLin) (hC : Kd.C k27 w A l.length l) (hc : l.length ≤ c) (hl : l.length ≤ 1000) (hg : ∀ x ∈ l, goodX x) :
    Calls Tryd.prog 10 #[.slice A l.length c] w fun e w' => ∃ v, e = .returned v ∧ LW w' w.heap.size v (l.map cvL) ∧ Below w.heap.size w w' :=
  (tallyroomlaw36_Of.calls (l.length * (20 + 2) + 1) A c l (l.map cvL) w hC hc (of_f l 20 (by omega) (by omega) (fun x hx => (hg x hx).1))).mono fun e w' ⟨v, h1, h2, h3⟩ => ⟨v, h1, LW.of_R (Kd.S_R h2), h3⟩
theorem PEnd.some {s : ByteArray} {w w' : World} {v : Value} {er : Int} {L : List Ln} (h : PEnd s w w' v er) (hp : parseR s.data.toList = some L) : ∃ ys : List SLin, ys.map lnM = L ∧ er = 0 ∧ PSL w' w.heap.size v ys ∧ okV ys ∧ ((ys.map lnM).flatMap lineP).length ≤ 200000000 := by
  rcases h with ⟨xs, h1, h2, h3, h4, h5⟩ | ⟨h1, _⟩
  · exact ⟨xs, Option.some.inj (h1.symm.trans hp), h2, h3, h4, h5⟩
  · have := h1.symm.trans hp; cases this
/-- the line without a sense. -/
def nine : SLin := ⟨⟨#[57]⟩, [], 4⟩
theorem nine_right : rightL (lnM nine) = false := by decide +kernel
theorem print_nine (xs ys : List SLin) : printP ((xs ++ [nine] ++ ys).map lnM) = printP (xs.map lnM) ++ printP (ys.map lnM) := by
  rw [List.map_append, List.map_append, print_append, print_append]
  have : printP ([nine].map lnM) = [] := by simp [printP, nine_right]
  rw [this, List.append_nil]
end Go.Proofs.YtdbmcikoiilanaaDoor.Xp
namespace Go.Proofs.YtdbmcikoiilanaaDoor.Pp
open Go.RowKit Go.Proofs.YtdbmcikoiilanaaDoorW.PrintWords Go.Proofs.YtdbmcikoiilanaaDoorW.PrintLast Go.Proofs.YtdbmcikoiilanaaDoorW.PrintMore
attribute [local go_sem] max2_int min2_int max_two min_two max_three min_three max_four min_four
set_option linter.unusedVariables false
set_option linter.unusedSimpArgs false

attribute [local go_sem high] eqA71
/-! ### tallyroomref22_Digits: function 26 -/
def tallyroomref22_Digits.l0 : Nat → Int → ByteArray → Option (ByteArray)
  | 0, _, _ => none
  | k + 1, x0, x3 => (some (([(IntKind.u64.wrap (48 + (Int.tmod x0 10))) % 256] : List Int) : List Int)).bind fun y166 => (if (strOfNums y166).size + x3.size ≤ 9223372036854775807 then (if (IntKind.u64.wrap (Int.tdiv x0 10)) = 0 then (some ((strOfNums y166) ++ x3)) else (tallyroomref22_Digits.l0 k (IntKind.u64.wrap (Int.tdiv x0 10)) ((strOfNums y166) ++ x3))) else (none))
def tallyroomref22_Digits.f (k : Nat) (a0 : Int) : Option (ByteArray) := tallyroomref22_Digits.l0 k a0 (⟨#[]⟩ : ByteArray)
theorem tallyroomref22_Digits.mono_l : ∀ k, (∀ y0 y1, LeO (tallyroomref22_Digits.l0 k y0 y1) (tallyroomref22_Digits.l0 (k + 1) y0 y1))
  | 0 => fun _ _ r h => by simp [tallyroomref22_Digits.l0] at h
  | k + 1 => by
    have ih0 := tallyroomref22_Digits.mono_l k
    · intro y0 y1
      unfold tallyroomref22_Digits.l0
      repeat' first
      | (with_reducible exact ih0 _ _)
      | (with_reducible exact LeO.refl _)
      | (with_reducible exact LeO.none _)
      | (with_reducible refine LeO.ite ?_ ?_)
      | (with_reducible refine LeO.bind ?_ (fun _ => ?_))
      | exact ih0 _ _
      | exact LeO.none _
      | refine LeO.ite ?_ ?_
      | refine LeO.bind ?_ (fun _ => ?_)
theorem tallyroomref22_Digits.mono : ∀ a0 k, LeO (tallyroomref22_Digits.f k a0) (tallyroomref22_Digits.f (k + 1) a0) := by
  intro a0 k
  have ih0 := tallyroomref22_Digits.mono_l k
  unfold tallyroomref22_Digits.f
  repeat' first
      | (with_reducible exact ih0 _ _)
      | (with_reducible exact LeO.refl _)
      | (with_reducible exact LeO.none _)
      | (with_reducible refine LeO.ite ?_ ?_)
      | (with_reducible refine LeO.bind ?_ (fun _ => ?_))
      | exact ih0 _ _
      | exact LeO.none _
      | refine LeO.ite ?_ ?_
      | refine LeO.bind ?_ (fun _ => ?_)
set_option maxHeartbeats 8000000 in
set_option maxRecDepth 100000 in
theorem tallyroomref22_Digits.calls (k : Nat) (a0 : Int) (r : ByteArray) (w : World) (h : tallyroomref22_Digits.f k a0 = some r) :
    Calls Tryd.prog 26 #[.int .u64 a0] w fun e w' => e = .returned (.string r) ∧ Below w.heap.size w w' := by
  have HB := Aside0.mk (Below.refl w.heap.size w)
  have H : (tallyroomref22_Digits.l0 k a0 (⟨#[]⟩ : ByteArray)) = some r := h
  clear h
  have H' := Aside0.mk H
  clear H
  go_enter Tryd.func26, Tryd.ntmps26
  go_wp2
  go_loopg [0, 3] k (fun kq v0 v3 w' => ∃ (x0_1 : Int) (x3_1 : ByteArray), v0 = .int .u64 x0_1 ∧ v3 = .string x3_1 ∧ Aside0 (tallyroomref22_Digits.l0 kq x0_1 x3_1 = some r) ∧ Aside0 (kq ≤ k) ∧ Aside0 (Below w.heap.size w w'))
  case atStart => exact ⟨(a0), ((⟨#[]⟩ : ByteArray)), (by first | rfl | (simp; done) | (simp [*]; done)), (by first | rfl | (simp; done) | (simp [*]; done)), H', ⟨Nat.le_refl _⟩, ⟨by repeat (first | (with_reducible first | exact HB.out | apply below_alloc | apply pw_below_drewN | apply below_drew1) | exact HB.out)⟩⟩
  case round =>
    clear H'
    obtain ⟨x0_1, x3_1, rfl, rfl, HA, HK1, HB⟩ := hrel
    cases gk with
    | zero => exact absurd HA.out (by simp [tallyroomref22_Digits.l0])
    | succ k1 =>
      have H := HA.out
      clear HA
      simp only [tallyroomref22_Digits.l0] at H
      obtain ⟨y166, hy166⟩ : ∃ y_ : List Int, y_ = (([(IntKind.u64.wrap (48 + (Int.tmod x0_1 10))) % 256] : List Int)) := ⟨_, rfl⟩
      replace H : (if (strOfNums y166).size + x3_1.size ≤ 9223372036854775807 then (if (IntKind.u64.wrap (Int.tdiv x0_1 10)) = 0 then (some ((strOfNums y166) ++ x3_1)) else (tallyroomref22_Digits.l0 k1 (IntKind.u64.wrap (Int.tdiv x0_1 10)) ((strOfNums y166) ++ x3_1))) else (none)) = some r := by first | (rw [hy166]; with_reducible exact H) | (have H2_ := (Option.bind_some _ _).symm.trans H; rw [hy166]; with_reducible exact H2_) | (have H2_ := (Option.bind_some _ _).symm.trans H; with_reducible exact H2_) | with_reducible exact H | (rw [hy166]; exact H) | exact H
      have Ny166 := Aside0.mk hy166
      clear hy166
      by_cases c2 : (strOfNums y166).size + x3_1.size ≤ 9223372036854775807
      · rw [if_pos c2] at H
        have c2b0 := eq_true c2
        have c2b1 : decide ((strOfNums y166).size + x3_1.size ≤ 9223372036854775807) = true := decide_eq_true c2
        try have c2b2 : (9223372036854775807 < (strOfNums y166).size + x3_1.size) = False := eq_false (Nat.not_lt.2 c2)
        by_cases c3 : (IntKind.u64.wrap (Int.tdiv x0_1 10)) = 0
        · rw [if_pos c3] at H
          have c3b0 : ((IntKind.u64.wrap (Int.tdiv x0_1 10)) == 0) = true := beq_iff_eq.mpr c3
          have c3b1 : ((IntKind.u64.wrap (Int.tdiv x0_1 10)) != 0) = false := bne_eq_false_iff_eq.mpr c3
          clear c3
          obtain rfl := Option.some.inj H
          go_wp2_with (first | ((with_reducible refine gate_dst (N := 8) rfl ?_); refine Kd.R_lit (Kd.int .u8) _ 5 ?hg (N := 8) ?hd (xs := ([(IntKind.u64.wrap (48 + (Int.tmod x0_1 10))) % 256] : List Int)) (inner := [.int .u8 ((IntKind.u64.wrap (48 + (Int.tmod x0_1 10))) % 256)]) (ok := fun _ => True) (okp := fun _ => True) ?hr ?hp (fun _ hk => hk) trivial (Below.refl _ _) (Nat.le_refl _) (by simp) ?_; (case hd => rfl); (case hg => rfl); (case hr => first | (go_simp; done) | (go_simp; rfl)); (case hp => exact (Reps.one (show Kd.M (Kd.int .u8) _ _ _ ((IntKind.u64.wrap (48 + (Int.tmod x0_1 10))) % 256) [.int .u8 ((IntKind.u64.wrap (48 + (Int.tmod x0_1 10))) % 256)] from rfl) (Reps.none _ _))); intro v167 w4 ho5 hb hg_ hnew_; clear hg_ hnew_; (first | rw [← Ny166.out] at ho5 | (simp only [Int.reduceToNat] at ho5; rw [← Ny166.out] at ho5)); have n0_ := Aside0.mk (Kd.R_lower ho5 (below_size (by repeat (first | (with_reducible first | exact HB.out | apply below_alloc | apply pw_below_drewN | apply below_drew1) | exact HB.out)))); have n1_ := Aside0.mk (below_step (by repeat (first | (with_reducible first | exact HB.out | apply below_alloc | apply pw_below_drewN | apply below_drew1) | exact HB.out)) hb); clear HB; have HO168 := n0_; have HB := n1_; clear n0_ n1_; clear hb ho5; have hcv6 := own_string (P := Tryd.prog) Tryd.underlying73 Tryd.underlying5 Tryd.underlying9 (Kd.own_of_R HO168.out)))
          go_ret
          exact ⟨by first | rfl | (simp [errW_none, errW_some] <;> rfl) | (simp [*, errW_none, errW_some] <;> rfl), by repeat (first | (with_reducible first | exact HB.out | apply below_alloc | apply pw_below_drewN | apply below_drew1) | exact HB.out)⟩
        · rw [if_neg c3] at H
          have c3b0 : ((IntKind.u64.wrap (Int.tdiv x0_1 10)) == 0) = false := beq_eq_false_iff_ne.mpr c3
          have c3b1 : ((IntKind.u64.wrap (Int.tdiv x0_1 10)) != 0) = true := bne_iff_ne.mpr c3
          have H' := Aside0.mk H
          clear H
          go_wp2_with (first | ((with_reducible refine gate_dst (N := 8) rfl ?_); refine Kd.R_lit (Kd.int .u8) _ 5 ?hg (N := 8) ?hd (xs := ([(IntKind.u64.wrap (48 + (Int.tmod x0_1 10))) % 256] : List Int)) (inner := [.int .u8 ((IntKind.u64.wrap (48 + (Int.tmod x0_1 10))) % 256)]) (ok := fun _ => True) (okp := fun _ => True) ?hr ?hp (fun _ hk => hk) trivial (Below.refl _ _) (Nat.le_refl _) (by simp) ?_; (case hd => rfl); (case hg => rfl); (case hr => first | (go_simp; done) | (go_simp; rfl)); (case hp => exact (Reps.one (show Kd.M (Kd.int .u8) _ _ _ ((IntKind.u64.wrap (48 + (Int.tmod x0_1 10))) % 256) [.int .u8 ((IntKind.u64.wrap (48 + (Int.tmod x0_1 10))) % 256)] from rfl) (Reps.none _ _))); intro v167 w7 ho8 hb hg_ hnew_; clear hg_ hnew_; (first | rw [← Ny166.out] at ho8 | (simp only [Int.reduceToNat] at ho8; rw [← Ny166.out] at ho8)); have n0_ := Aside0.mk (Kd.R_lower ho8 (below_size (by repeat (first | (with_reducible first | exact HB.out | apply below_alloc | apply pw_below_drewN | apply below_drew1) | exact HB.out)))); have n1_ := Aside0.mk (below_step (by repeat (first | (with_reducible first | exact HB.out | apply below_alloc | apply pw_below_drewN | apply below_drew1) | exact HB.out)) hb); clear HB; have HO168 := n0_; have HB := n1_; clear n0_ n1_; clear hb ho8; have hcv9 := own_string (P := Tryd.prog) Tryd.underlying73 Tryd.underlying5 Tryd.underlying9 (Kd.own_of_R HO168.out)))
          go_roundg k1
          case measure => have := HK1.out; omega
          case rel => exact ⟨(IntKind.u64.wrap (Int.tdiv x0_1 10)), ((strOfNums y166) ++ x3_1), (by first | rfl | (simp; done) | (simp [*]; done)), (by first | rfl | (simp; done) | (simp [*]; done)), H', ⟨by have := HK1.out; omega⟩, ⟨by repeat (first | (with_reducible first | exact HB.out | apply below_alloc | apply pw_below_drewN | apply below_drew1) | exact HB.out)⟩⟩
      · rw [if_neg c2] at H
        exact absurd H (by simp)



end Go.Proofs.YtdbmcikoiilanaaDoor.Pp
set_option linter.unusedVariables false
set_option linter.unusedSimpArgs false
namespace Go.Proofs.YtdbmcikoiilanaaDoor.Xp
open Go.RowKit Go.Proofs.YtdbmcikoiilanaaDoorW.PrintWords Go.Proofs.YtdbmcikoiilanaaDoor.Pp

theorem one_dig (d : Nat) (h : d < 10) : strOfNums [(((48 + d : Nat) : Int)) % 256] = ⟨#[UInt8.ofNat (48 + d)]⟩ := by
  have aux : ∀ d, d < 10 → strOfNums [(((48 + d : Nat) : Int)) % 256] = ⟨#[UInt8.ofNat (48 + d)]⟩ := by decide +kernel
  exact aux d h
theorem dig_l : ∀ (k n : Nat) (s : ByteArray), n < 10 ^ k → n < 18446744073709551616 → s.size + k ≤ 1000 → 0 < k → tallyroomref22_Digits.l0 k n s = some (⟨(Lib.decDigits n).toArray⟩ ++ s)
  | 0, n, s, _, _, _, h => by omega
  | k + 1, n, s, h, h64, hs, _ => by
    have e1 : IntKind.u64.wrap (48 + Int.tmod (n : Int) 10) = ((48 + n % 10 : Nat) : Int) := by
      rw [Int.tmod_eq_emod_of_nonneg (by omega), IntKind.wrap_u64]; omega
    have e2 : IntKind.u64.wrap (Int.tdiv (n : Int) 10) = ((n / 10 : Nat) : Int) := by
      rw [Int.tdiv_eq_ediv_of_nonneg (by omega), IntKind.wrap_u64]; omega
    have e3 := one_dig (n % 10) (by omega)
    rw [tallyroomref22_Digits.l0, e1, e2, Option.bind_some, e3]
    have hsz : (⟨#[UInt8.ofNat (48 + n % 10)]⟩ : ByteArray).size = 1 := rfl
    rw [hsz, if_pos (by omega)]
    by_cases h0 : n / 10 = 0
    · have hn : n < 10 := by omega
      rw [if_pos (by omega), Lib.decDigits_one hn, Nat.mod_eq_of_lt hn]
    · rw [if_neg (by omega)]
      have hk : 0 < k := by
        rcases Nat.eq_zero_or_pos k with rfl | hk
        · simp at h; omega
        · exact hk
      rw [dig_l k (n / 10) _ (by rw [Nat.pow_succ] at h; omega) (by omega) (by rw [ByteArray.size_append, hsz]; omega) hk]
      congr 1
      have e4 : Lib.decDigits n = Lib.decDigits (n / 10) ++ [UInt8.ofNat (48 + n % 10)] := by
        conv => lhs; rw [Lib.decDigits, dif_neg (by omega)]
      rw [e4]
      apply ByteArray.ext
      simp
theorem dig_f (n : Nat) (h : n < 18446744073709551616) : tallyroomref22_Digits.f 20 n = some ⟨(Lib.decDigits n).toArray⟩ := by
  unfold tallyroomref22_Digits.f
  rw [dig_l 20 n _ (by omega) h (by decide) (by decide)]
  congr 1
  apply ByteArray.ext
  simp
end Go.Proofs.YtdbmcikoiilanaaDoor.Xp
namespace Go.Proofs.YtdbmcikoiilanaaDoor.Pp
open Go.RowKit Go.Proofs.YtdbmcikoiilanaaDoorW.PrintWords Go.Proofs.YtdbmcikoiilanaaDoorW.PrintLast Go.Proofs.YtdbmcikoiilanaaDoorW.PrintMore
attribute [local go_sem] max2_int min2_int max_two min_two max_three min_three max_four min_four
set_option linter.unusedVariables false
set_option linter.unusedSimpArgs false

attribute [local go_sem high] eqA71
/-! ### tallyroomref36_Print: function 12 -/
mutual
def tallyroomref36_Print.l0 : Nat → List (S27) → ByteArray → Int → Option (ByteArray)
  | 0, _, _, _ => none
  | k + 1, x0, x3, x4 => if x4 < (x0.length : Int) then (if 0 ≤ x4 then ((tallyroomref36_Right.f k ((rd_T27 x0 x4).f0) ((rd_T27 x0 x4).f1) ((rd_T27 x0 x4).f2)).bind fun t170 => (if t170 = true then (if ((rd_T27 x0 x4).f0).size + 1 ≤ 9223372036854775807 then (tallyroomref36_Print.l1 k x0 x3 x4 (((rd_T27 x0 x4).f0) ++ (⟨#[123]⟩ : ByteArray)) 0) else (none)) else (tallyroomref36_Print.l0 k x0 x3 (wrap64 (x4 + 1))))) else (none)) else (some x3)
def tallyroomref36_Print.l1 : Nat → List (S27) → ByteArray → Int → ByteArray → Int → Option (ByteArray)
  | 0, _, _, _, _, _ => none
  | k + 1, x0, x3, x4, x5, x6 => if 0 ≤ x4 then (if x4 < (x0.length : Int) then (if x6 < (((rd_T27 x0 x4).f1).length : Int) then (if x6 > 0 then (if x5.size + 1 ≤ 9223372036854775807 then (tallyroomref36_Print.j2 k x0 x3 x4 (x5 ++ (⟨#[44]⟩ : ByteArray)) x6) else (none)) else (tallyroomref36_Print.j2 k x0 x3 x4 x5 x6)) else (if x3.size + x5.size ≤ 9223372036854775807 then (if (x3 ++ x5).size + 2 ≤ 9223372036854775807 then ((tallyroomref22_Digits.f k ((rd_T27 x0 x4).f2)).bind fun t174 => (if ((x3 ++ x5) ++ (⟨#[125, 32]⟩ : ByteArray)).size + t174.size ≤ 9223372036854775807 then (if (((x3 ++ x5) ++ (⟨#[125, 32]⟩ : ByteArray)) ++ t174).size + 1 ≤ 9223372036854775807 then (tallyroomref36_Print.l0 k x0 ((((x3 ++ x5) ++ (⟨#[125, 32]⟩ : ByteArray)) ++ t174) ++ (⟨#[10]⟩ : ByteArray)) (wrap64 (x4 + 1))) else (none)) else (none))) else (none)) else (none))) else (none)) else (none)
def tallyroomref36_Print.j2 : Nat → List (S27) → ByteArray → Int → ByteArray → Int → Option (ByteArray)
  | 0, _, _, _, _, _ => none
  | k + 1, x0, x3, x4, x5, x6 => if 0 ≤ x4 then (if x4 < (x0.length : Int) then (if 0 ≤ x6 then (if x6 < (((rd_T27 x0 x4).f1).length : Int) then (if x5.size + ((rd_T29 ((rd_T27 x0 x4).f1) x6).f0).size ≤ 9223372036854775807 then (if (x5 ++ ((rd_T29 ((rd_T27 x0 x4).f1) x6).f0)).size + 2 ≤ 9223372036854775807 then (tallyroomref36_Print.l2 k x0 x3 x4 ((x5 ++ ((rd_T29 ((rd_T27 x0 x4).f1) x6).f0)) ++ (⟨#[61, 34]⟩ : ByteArray)) x6 ((rd_T29 ((rd_T27 x0 x4).f1) x6).f1) 0) else (none)) else (none)) else (none)) else (none)) else (none)) else (none)
def tallyroomref36_Print.l2 : Nat → List (S27) → ByteArray → Int → ByteArray → Int → ByteArray → Int → Option (ByteArray)
  | 0, _, _, _, _, _, _, _ => none
  | k + 1, x0, x3, x4, x5, x6, x7, x8 => if x8 < (x7.size : Int) then (if 0 ≤ x8 then (if (bt x7 x8) = 34 then (tallyroomref36_Print.j4 k x0 x3 x4 x5 x6 x7 x8 (bt x7 x8) ((bt x7 x8) == 34)) else (tallyroomref36_Print.j4 k x0 x3 x4 x5 x6 x7 x8 (bt x7 x8) ((bt x7 x8) == 92))) else (none)) else (if x5.size + 1 ≤ 9223372036854775807 then (tallyroomref36_Print.l1 k x0 x3 x4 (x5 ++ (⟨#[34]⟩ : ByteArray)) (wrap64 (x6 + 1))) else (none))
def tallyroomref36_Print.j4 : Nat → List (S27) → ByteArray → Int → ByteArray → Int → ByteArray → Int → Int → Bool → Option (ByteArray)
  | 0, _, _, _, _, _, _, _, _, _ => none
  | k + 1, x0, x3, x4, x5, x6, x7, x8, x70, x78 => if x78 = true then (if x5.size + 1 ≤ 9223372036854775807 then (if 0 ≤ x8 then (if x8 ≤ (wrap64 (x8 + 1)) then (if (wrap64 (x8 + 1)) ≤ (x7.size : Int) then (if (x5 ++ (⟨#[92]⟩ : ByteArray)).size + (x7.extract (x8 : Int).toNat ((wrap64 (x8 + 1)) : Int).toNat).size ≤ 9223372036854775807 then (tallyroomref36_Print.l2 k x0 x3 x4 ((x5 ++ (⟨#[92]⟩ : ByteArray)) ++ (x7.extract (x8 : Int).toNat ((wrap64 (x8 + 1)) : Int).toNat)) x6 x7 (wrap64 (x8 + 1))) else (none)) else (none)) else (none)) else (none)) else (none)) else (if x70 = 10 then (if x5.size + 2 ≤ 9223372036854775807 then (tallyroomref36_Print.l2 k x0 x3 x4 (x5 ++ (⟨#[92, 110]⟩ : ByteArray)) x6 x7 (wrap64 (x8 + 1))) else (none)) else (if 0 ≤ x8 then (if x8 ≤ (wrap64 (x8 + 1)) then (if (wrap64 (x8 + 1)) ≤ (x7.size : Int) then (if x5.size + (x7.extract (x8 : Int).toNat ((wrap64 (x8 + 1)) : Int).toNat).size ≤ 9223372036854775807 then (tallyroomref36_Print.l2 k x0 x3 x4 (x5 ++ (x7.extract (x8 : Int).toNat ((wrap64 (x8 + 1)) : Int).toNat)) x6 x7 (wrap64 (x8 + 1))) else (none)) else (none)) else (none)) else (none)))
end
def tallyroomref36_Print.f (k : Nat) (l0 : List (S27)) : Option (ByteArray) := tallyroomref36_Print.l0 k l0 (⟨#[]⟩ : ByteArray) 0
theorem tallyroomref36_Print.mono_l : ∀ k, (∀ y0 y1 y2, LeO (tallyroomref36_Print.l0 k y0 y1 y2) (tallyroomref36_Print.l0 (k + 1) y0 y1 y2)) ∧ (∀ y0 y1 y2 y3 y4, LeO (tallyroomref36_Print.l1 k y0 y1 y2 y3 y4) (tallyroomref36_Print.l1 (k + 1) y0 y1 y2 y3 y4)) ∧ (∀ y0 y1 y2 y3 y4, LeO (tallyroomref36_Print.j2 k y0 y1 y2 y3 y4) (tallyroomref36_Print.j2 (k + 1) y0 y1 y2 y3 y4)) ∧ (∀ y0 y1 y2 y3 y4 y5 y6, LeO (tallyroomref36_Print.l2 k y0 y1 y2 y3 y4 y5 y6) (tallyroomref36_Print.l2 (k + 1) y0 y1 y2 y3 y4 y5 y6)) ∧ (∀ y0 y1 y2 y3 y4 y5 y6 y7 y8, LeO (tallyroomref36_Print.j4 k y0 y1 y2 y3 y4 y5 y6 y7 y8) (tallyroomref36_Print.j4 (k + 1) y0 y1 y2 y3 y4 y5 y6 y7 y8))
  | 0 => ⟨fun _ _ _ r h => by simp [tallyroomref36_Print.l0] at h, fun _ _ _ _ _ r h => by simp [tallyroomref36_Print.l1] at h, fun _ _ _ _ _ r h => by simp [tallyroomref36_Print.j2] at h, fun _ _ _ _ _ _ _ r h => by simp [tallyroomref36_Print.l2] at h, fun _ _ _ _ _ _ _ _ _ r h => by simp [tallyroomref36_Print.j4] at h⟩
  | k + 1 => by
    obtain ⟨ih0, ih1, ih2, ih3, ih4⟩ := tallyroomref36_Print.mono_l k
    refine ⟨?_, ?_, ?_, ?_, ?_⟩
    · intro y0 y1 y2
      unfold tallyroomref36_Print.l0
      repeat' first
      | (with_reducible exact ih0 _ _ _)
      | (with_reducible exact ih1 _ _ _ _ _)
      | (with_reducible exact ih2 _ _ _ _ _)
      | (with_reducible exact ih3 _ _ _ _ _ _ _)
      | (with_reducible exact ih4 _ _ _ _ _ _ _ _ _)
      | (with_reducible exact tallyroomref22_Digits.mono _ _)
      | (with_reducible exact tallyroomref36_Right.mono _ _ _ _)
      | (with_reducible exact LeO.refl _)
      | (with_reducible exact LeO.none _)
      | (with_reducible refine LeO.ite ?_ ?_)
      | (with_reducible refine LeO.bind ?_ (fun _ => ?_))
      | exact ih0 _ _ _
      | exact ih1 _ _ _ _ _
      | exact ih2 _ _ _ _ _
      | exact ih3 _ _ _ _ _ _ _
      | exact ih4 _ _ _ _ _ _ _ _ _
      | exact tallyroomref22_Digits.mono _ _
      | exact tallyroomref36_Right.mono _ _ _ _
      | exact LeO.none _
      | refine LeO.ite ?_ ?_
      | refine LeO.bind ?_ (fun _ => ?_)
    · intro y0 y1 y2 y3 y4
      unfold tallyroomref36_Print.l1
      repeat' first
      | (with_reducible exact ih0 _ _ _)
      | (with_reducible exact ih1 _ _ _ _ _)
      | (with_reducible exact ih2 _ _ _ _ _)
      | (with_reducible exact ih3 _ _ _ _ _ _ _)
      | (with_reducible exact ih4 _ _ _ _ _ _ _ _ _)
      | (with_reducible exact tallyroomref22_Digits.mono _ _)
      | (with_reducible exact tallyroomref36_Right.mono _ _ _ _)
      | (with_reducible exact LeO.refl _)
      | (with_reducible exact LeO.none _)
      | (with_reducible refine LeO.ite ?_ ?_)
      | (with_reducible refine LeO.bind ?_ (fun _ => ?_))
      | exact ih0 _ _ _
      | exact ih1 _ _ _ _ _
      | exact ih2 _ _ _ _ _
      | exact ih3 _ _ _ _ _ _ _
      | exact ih4 _ _ _ _ _ _ _ _ _
      | exact tallyroomref22_Digits.mono _ _
      | exact tallyroomref36_Right.mono _ _ _ _
      | exact LeO.none _
      | refine LeO.ite ?_ ?_
      | refine LeO.bind ?_ (fun _ => ?_)
    · intro y0 y1 y2 y3 y4
      unfold tallyroomref36_Print.j2
      repeat' first
      | (with_reducible exact ih0 _ _ _)
      | (with_reducible exact ih1 _ _ _ _ _)
      | (with_reducible exact ih2 _ _ _ _ _)
      | (with_reducible exact ih3 _ _ _ _ _ _ _)
      | (with_reducible exact ih4 _ _ _ _ _ _ _ _ _)
      | (with_reducible exact tallyroomref22_Digits.mono _ _)
      | (with_reducible exact tallyroomref36_Right.mono _ _ _ _)
      | (with_reducible exact LeO.refl _)
      | (with_reducible exact LeO.none _)
      | (with_reducible refine LeO.ite ?_ ?_)
      | (with_reducible refine LeO.bind ?_ (fun _ => ?_))
      | exact ih0 _ _ _
      | exact ih1 _ _ _ _ _
      | exact ih2 _ _ _ _ _
      | exact ih3 _ _ _ _ _ _ _
      | exact ih4 _ _ _ _ _ _ _ _ _
      | exact tallyroomref22_Digits.mono _ _
      | exact tallyroomref36_Right.mono _ _ _ _
      | exact LeO.none _
      | refine LeO.ite ?_ ?_
      | refine LeO.bind ?_ (fun _ => ?_)
    · intro y0 y1 y2 y3 y4 y5 y6
      unfold tallyroomref36_Print.l2
      repeat' first
      | (with_reducible exact ih0 _ _ _)
      | (with_reducible exact ih1 _ _ _ _ _)
      | (with_reducible exact ih2 _ _ _ _ _)
      | (with_reducible exact ih3 _ _ _ _ _ _ _)
      | (with_reducible exact ih4 _ _ _ _ _ _ _ _ _)
      | (with_reducible exact tallyroomref22_Digits.mono _ _)
      | (with_reducible exact tallyroomref36_Right.mono _ _ _ _)
      | (with_reducible exact LeO.refl _)
      | (with_reducible exact LeO.none _)
      | (with_reducible refine LeO.ite ?_ ?_)
      | (with_reducible refine LeO.bind ?_ (fun _ => ?_))
      | exact ih0 _ _ _
      | exact ih1 _ _ _ _ _
      | exact ih2 _ _ _ _ _
      | exact ih3 _ _ _ _ _ _ _
      | exact ih4 _ _ _ _ _ _ _ _ _
      | exact tallyroomref22_Digits.mono _ _
      | exact tallyroomref36_Right.mono _ _ _ _
      | exact LeO.none _
      | refine LeO.ite ?_ ?_
      | refine LeO.bind ?_ (fun _ => ?_)
    · intro y0 y1 y2 y3 y4 y5 y6 y7 y8
      unfold tallyroomref36_Print.j4
      repeat' first
      | (with_reducible exact ih0 _ _ _)
      | (with_reducible exact ih1 _ _ _ _ _)
      | (with_reducible exact ih2 _ _ _ _ _)
      | (with_reducible exact ih3 _ _ _ _ _ _ _)
      | (with_reducible exact ih4 _ _ _ _ _ _ _ _ _)
      | (with_reducible exact tallyroomref22_Digits.mono _ _)
      | (with_reducible exact tallyroomref36_Right.mono _ _ _ _)
      | (with_reducible exact LeO.refl _)
      | (with_reducible exact LeO.none _)
      | (with_reducible refine LeO.ite ?_ ?_)
      | (with_reducible refine LeO.bind ?_ (fun _ => ?_))
      | exact ih0 _ _ _
      | exact ih1 _ _ _ _ _
      | exact ih2 _ _ _ _ _
      | exact ih3 _ _ _ _ _ _ _
      | exact ih4 _ _ _ _ _ _ _ _ _
      | exact tallyroomref22_Digits.mono _ _
      | exact tallyroomref36_Right.mono _ _ _ _
      | exact LeO.none _
      | refine LeO.ite ?_ ?_
      | refine LeO.bind ?_ (fun _ => ?_)
theorem tallyroomref36_Print.mono : ∀ a0 k, LeO (tallyroomref36_Print.f k a0) (tallyroomref36_Print.f (k + 1) a0) := by
  intro a0 k
  obtain ⟨ih0, ih1, ih2, ih3, ih4⟩ := tallyroomref36_Print.mono_l k
  unfold tallyroomref36_Print.f
  repeat' first
      | (with_reducible exact ih0 _ _ _)
      | (with_reducible exact ih1 _ _ _ _ _)
      | (with_reducible exact ih2 _ _ _ _ _)
      | (with_reducible exact ih3 _ _ _ _ _ _ _)
      | (with_reducible exact ih4 _ _ _ _ _ _ _ _ _)
      | (with_reducible exact tallyroomref22_Digits.mono _ _)
      | (with_reducible exact tallyroomref36_Right.mono _ _ _ _)
      | (with_reducible exact LeO.refl _)
      | (with_reducible exact LeO.none _)
      | (with_reducible refine LeO.ite ?_ ?_)
      | (with_reducible refine LeO.bind ?_ (fun _ => ?_))
      | exact ih0 _ _ _
      | exact ih1 _ _ _ _ _
      | exact ih2 _ _ _ _ _
      | exact ih3 _ _ _ _ _ _ _
      | exact ih4 _ _ _ _ _ _ _ _ _
      | exact tallyroomref22_Digits.mono _ _
      | exact tallyroomref36_Right.mono _ _ _ _
      | exact LeO.none _
      | refine LeO.ite ?_ ?_
      | refine LeO.bind ?_ (fun _ => ?_)
set_option maxHeartbeats 8000000 in
set_option maxRecDepth 100000 in
theorem tallyroomref36_Print.calls (k : Nat) (A0 : Option Addr) (c0 : Nat) (l0 : List (S27)) (r : ByteArray) (w : World) (hr0 : Kd.C k27 w A0 l0.length l0) (hc0 : l0.length ≤ c0) (h : tallyroomref36_Print.f k l0 = some r) :
    Calls Tryd.prog 12 #[.slice A0 l0.length c0] w fun e w' => e = .returned (.string r) ∧ Below w.heap.size w w' := by
  have hu27 := Tryd.underlying27
  have HR0 := Aside0.mk hr0
  have HC0 := Aside0.mk hc0
  clear hr0 hc0
  have HB := Aside0.mk (Below.refl w.heap.size w)
  have H : (tallyroomref36_Print.l0 k l0 (⟨#[]⟩ : ByteArray) 0) = some r := h
  clear h
  have H' := Aside0.mk H
  clear H
  go_enter Tryd.func12, Tryd.ntmps12
  go_wp2
  go_loopg [3, 4] k (fun kq v3 v4 w' => ∃ (x3_1 : ByteArray) (x4_1 : Int), v3 = .string x3_1 ∧ v4 = .int .i64 x4_1 ∧ Aside0 (tallyroomref36_Print.l0 kq l0 x3_1 x4_1 = some r) ∧ Aside0 (kq ≤ k) ∧ Aside0 (Below w.heap.size w w'))
  case atStart => exact ⟨((⟨#[]⟩ : ByteArray)), (0), (by first | rfl | (simp; done) | (simp [*]; done)), (by first | rfl | (simp; done) | (simp [*]; done)), H', ⟨Nat.le_refl _⟩, ⟨by repeat (first | (with_reducible first | exact HB.out | apply below_alloc | apply pw_below_drewN | apply below_drew1) | exact HB.out)⟩⟩
  case round =>
    clear H'
    try clear c1
    obtain ⟨x3_1, x4_1, rfl, rfl, HA, HK1, HB⟩ := hrel
    cases gk with
    | zero => exact absurd HA.out (by simp [tallyroomref36_Print.l0])
    | succ k1 =>
      have H := HA.out
      clear HA
      simp only [tallyroomref36_Print.l0] at H
      by_cases c2 : x4_1 < (l0.length : Int)
      · rw [if_pos c2] at H
        have c2b0 : decide (x4_1 < (l0.length : Int)) = true := decide_eq_true c2
        clear c2
        by_cases c3 : 0 ≤ x4_1
        · rw [if_pos c3] at H
          have c3b0 : decide (0 ≤ x4_1) = true := decide_eq_true c3
          clear c3
          replace H := Option.bind_eq_some_iff.mp H
          obtain ⟨t170, A40, H⟩ := H
          replace H : (if t170 = true then (if ((rd_T27 l0 x4_1).f0).size + 1 ≤ 9223372036854775807 then (tallyroomref36_Print.l1 k1 l0 x3_1 x4_1 (((rd_T27 l0 x4_1).f0) ++ (⟨#[123]⟩ : ByteArray)) 0) else (none)) else (tallyroomref36_Print.l0 k1 l0 x3_1 (wrap64 (x4_1 + 1)))) = some r := H
          have A4 := Aside0.mk A40
          clear A40
          by_cases c5 : t170 = true
          · subst c5
            have H1 : (if ((rd_T27 l0 x4_1).f0).size + 1 ≤ 9223372036854775807 then (tallyroomref36_Print.l1 k1 l0 x3_1 x4_1 (((rd_T27 l0 x4_1).f0) ++ (⟨#[123]⟩ : ByteArray)) 0) else (none)) = some r := by rw [if_pos rfl] at H; exact H
            clear H
            have H := H1
            clear H1
            by_cases c6 : ((rd_T27 l0 x4_1).f0).size + 1 ≤ 9223372036854775807
            · rw [if_pos c6] at H
              have c6b0 := eq_true c6
              have c6b1 : decide (((rd_T27 l0 x4_1).f0).size + 1 ≤ 9223372036854775807) = true := decide_eq_true c6
              try have c6b2 : (9223372036854775807 < ((rd_T27 l0 x4_1).f0).size + 1) = False := eq_false (Nat.not_lt.2 c6)
              have H' := Aside0.mk H
              clear H
              have p169 : 0 ≤ (x4_1 : Int) := of_decide_eq_true (by first | (with_reducible assumption) | assumption)
              have q169 : x4_1 < (l0.length : Int) := of_decide_eq_true (by first | (with_reducible assumption) | assumption)
              obtain ⟨ad169, A169_1, c169_1, e169, hx169_0, hx169_1, hx169_2, hl169_1, hi169_1⟩ := at_T27 HR0.out x4_1 p169 q169
              cases e169
              replace hx169_0 := (HB.out.cell (World.block_lt_of_cell? w _ hx169_0)).trans hx169_0
              replace hx169_1 := (HB.out.cell (World.block_lt_of_cell? w _ hx169_1)).trans hx169_1
              replace hx169_2 := (HB.out.cell (World.block_lt_of_cell? w _ hx169_2)).trans hx169_2
              have HR169_1 := Aside0.mk hi169_1
              have HC169_1 := Aside0.mk hl169_1
              clear hi169_1 hl169_1
              replace p169 := eq_true p169
              replace q169 := eq_true q169
              go_wp2_with (first | ((with_reducible refine gate_callee (f := 8) rfl ?_); refine goesL_ (some 19) rfl rfl Tryd.func8 (by kernel_rfl) rfl #[.agg #[.string ((rd_T27 l0 x4_1).f0), .slice A169_1 ((rd_T27 l0 x4_1).f1).length c169_1, .int .u64 ((rd_T27 l0 x4_1).f2)]] rfl (by (try simp only [List.map_toArray, List.map_cons, List.map_nil]); first | done | rfl | (simp only [List.length_drop, List.length_take]; rfl)) ?_; (with_reducible refine (tallyroomref36_Right.calls k1 ((rd_T27 l0 x4_1).f0) _ _ ((rd_T27 l0 x4_1).f1) ((rd_T27 l0 x4_1).f2) true _ ?side1 ?side2 A4.out).mono ?_); (case side1 => repeat (first | exact (Kd.C_below HR169_1.out HB.out) | (with_reducible refine Kd.C_alloc ?_ _) | (with_reducible refine Kd.C_drewN ?_ _) | (with_reducible refine Kd.C_drew ?_))); (case side2 => exact HC169_1.out); rintro e w7 ⟨rfl, hb⟩; refine ⟨_, rfl, ?_⟩; have n0_ := Aside0.mk (below_step (by repeat (first | (with_reducible first | exact HB.out | apply below_alloc | apply pw_below_drewN | apply below_drew1) | exact HB.out)) hb); clear HB; have HB := n0_; clear n0_; (try clear hb); (try clear hb2); (try clear hk); (try clear hi); have p171 : 0 ≤ (x4_1 : Int) := of_decide_eq_true (by first | (with_reducible assumption) | assumption); have q171 : x4_1 < (l0.length : Int) := of_decide_eq_true (by first | (with_reducible assumption) | assumption); obtain ⟨ad171, A171_1, c171_1, e171, hx171_0, hx171_1, hx171_2, hl171_1, hi171_1⟩ := at_T27 HR0.out x4_1 p171 q171; obtain rfl : ad169 = ad171 := (by injection e171); replace hx171_0 := (HB.out.cell (World.block_lt_of_cell? w _ hx171_0)).trans hx171_0; replace hx171_1 := (HB.out.cell (World.block_lt_of_cell? w _ hx171_1)).trans hx171_1; replace hx171_2 := (HB.out.cell (World.block_lt_of_cell? w _ hx171_2)).trans hx171_2; have HR171_1 := Aside0.mk hi171_1; have HC171_1 := Aside0.mk hl171_1; clear hi171_1 hl171_1; replace p171 := eq_true p171; replace q171 := eq_true q171))
              go_loopg [5, 6] k1 (fun kq v5 v6 w' => ∃ (x5_2 : ByteArray) (x6_2 : Int), v5 = .string x5_2 ∧ v6 = .int .i64 x6_2 ∧ Aside0 (tallyroomref36_Print.l1 kq l0 x3_1 x4_1 x5_2 x6_2 = some r) ∧ Aside0 (kq ≤ k1) ∧ Aside0 (Below w.heap.size w w'))
              case atStart => exact ⟨(((rd_T27 l0 x4_1).f0) ++ (⟨#[123]⟩ : ByteArray)), (0), (by first | rfl | (simp; done) | (simp [*]; done)), (by first | rfl | (simp; done) | (simp [*]; done)), H', ⟨Nat.le_refl _⟩, ⟨by repeat (first | (with_reducible first | exact HB.out | apply below_alloc | apply pw_below_drewN | apply below_drew1) | exact HB.out)⟩⟩
              case round =>
                clear H'
                try clear c1
                try clear p1
                try clear q1
                try clear hx1
                try clear c2
                try clear c2b0
                try clear p2
                try clear c3
                try clear c3b0
                try clear c5
                try clear c6
                try clear c6b0
                try clear c6b1
                try clear c6b2
                try clear p6
                try clear hx169_0
                try clear hx169_1
                try clear hx169_2
                try clear hx171_0
                try clear hx171_1
                try clear hx171_2
                try clear p169
                try clear p171
                try clear q169
                try clear q171
                obtain ⟨x5_2, x6_2, rfl, rfl, HA, HK2, HB⟩ := hrel
                cases gk with
                | zero => exact absurd HA.out (by simp [tallyroomref36_Print.l1])
                | succ k2 =>
                  have H := HA.out
                  clear HA
                  simp only [tallyroomref36_Print.l1] at H
                  by_cases c8 : 0 ≤ x4_1
                  · rw [if_pos c8] at H
                    have c8b0 : decide (0 ≤ x4_1) = true := decide_eq_true c8
                    clear c8
                    by_cases c9 : x4_1 < (l0.length : Int)
                    · rw [if_pos c9] at H
                      have c9b0 : decide (x4_1 < (l0.length : Int)) = true := decide_eq_true c9
                      clear c9
                      by_cases c10 : x6_2 < (((rd_T27 l0 x4_1).f1).length : Int)
                      · rw [if_pos c10] at H
                        have c10b0 : decide (x6_2 < (((rd_T27 l0 x4_1).f1).length : Int)) = true := decide_eq_true c10
                        clear c10
                        have HC11 := Aside0.mk H
                        clear H
                        have p172 : 0 ≤ (x4_1 : Int) := of_decide_eq_true (by first | (with_reducible assumption) | assumption)
                        have q172 : x4_1 < (l0.length : Int) := of_decide_eq_true (by first | (with_reducible assumption) | assumption)
                        obtain ⟨ad172, A172_1, c172_1, e172, hx172_0, hx172_1, hx172_2, hl172_1, hi172_1⟩ := at_T27 HR0.out x4_1 p172 q172
                        obtain rfl : ad169 = ad172 := (by injection e172)
                        replace hx172_0 := (HB.out.cell (World.block_lt_of_cell? w _ hx172_0)).trans hx172_0
                        replace hx172_1 := (HB.out.cell (World.block_lt_of_cell? w _ hx172_1)).trans hx172_1
                        replace hx172_2 := (HB.out.cell (World.block_lt_of_cell? w _ hx172_2)).trans hx172_2
                        have HR172_1 := Aside0.mk hi172_1
                        have HC172_1 := Aside0.mk hl172_1
                        clear hi172_1 hl172_1
                        replace p172 := eq_true p172
                        replace q172 := eq_true q172
                        go_upto_if 38 with (fail)
                        go_cut [5] (fun v5 wc => ∃ (kq : Nat) (x5_10 : ByteArray), v5 = .string x5_10 ∧ Aside0 (tallyroomref36_Print.j2 kq l0 x3_1 x4_1 x5_10 x6_2 = some r) ∧ Aside0 (kq ≤ k2) ∧ Aside0 (Below w.heap.size w wc))
                        case first =>
                          have H := HC11.out
                          clear HC11
                          by_cases c12 : x6_2 > 0
                          · rw [if_pos c12] at H
                            have c12b0 : decide (0 < x6_2) = true := decide_eq_true c12
                            clear c12
                            (first | rw [c12b0] | (simp only [i64_w, i32_w]; rw [c12b0]) | skip)
                            by_cases c13 : x5_2.size + 1 ≤ 9223372036854775807
                            · rw [if_pos c13] at H
                              have c13b0 := eq_true c13
                              have c13b1 : decide (x5_2.size + 1 ≤ 9223372036854775807) = true := decide_eq_true c13
                              try have c13b2 : (9223372036854775807 < x5_2.size + 1) = False := eq_false (Nat.not_lt.2 c13)
                              have H' := Aside0.mk H
                              clear H
                              go_wp2
                              go_meet
                              case rel => exact ⟨_, (x5_2 ++ (⟨#[44]⟩ : ByteArray)), (by first | rfl | (simp; done) | (simp [*]; done)), H', ⟨by have := HK1.out; have := HK2.out; first | omega | exact Nat.le_refl _⟩, ⟨by repeat (first | (with_reducible first | exact HB.out | apply below_alloc | apply pw_below_drewN | apply below_drew1) | exact HB.out)⟩⟩
                            · rw [if_neg c13] at H
                              exact absurd H (by simp)
                          · rw [if_neg c12] at H
                            have c12b0 : decide (0 < x6_2) = false := decide_eq_false c12
                            clear c12
                            (first | rw [c12b0] | (simp only [i64_w, i32_w]; rw [c12b0]) | skip)
                            have H' := Aside0.mk H
                            clear H
                            go_wp2
                            go_meet
                            case rel => exact ⟨_, (x5_2), (by first | rfl | (simp; done) | (simp [*]; done)), H', ⟨by have := HK1.out; have := HK2.out; first | omega | exact Nat.le_refl _⟩, ⟨by repeat (first | (with_reducible first | exact HB.out | apply below_alloc | apply pw_below_drewN | apply below_drew1) | exact HB.out)⟩⟩
                        case rest =>
                          clear HC11
                          try clear c1
                          try clear p1
                          try clear q1
                          try clear hx1
                          try clear c2
                          try clear c2b0
                          try clear p2
                          try clear c3
                          try clear c3b0
                          try clear c5
                          try clear c6
                          try clear c6b0
                          try clear c6b1
                          try clear c6b2
                          try clear p6
                          try clear c8
                          try clear c8b0
                          try clear c9
                          try clear c9b0
                          try clear c10
                          try clear c10b0
                          try clear c12
                          try clear c12b0
                          try clear c13
                          try clear c13b0
                          try clear c13b1
                          try clear c13b2
                          try clear hx169_0
                          try clear hx169_1
                          try clear hx169_2
                          try clear hx171_0
                          try clear hx171_1
                          try clear hx171_2
                          try clear hx172_0
                          try clear hx172_1
                          try clear hx172_2
                          try clear p1
                          try clear p169
                          try clear p171
                          try clear p172
                          try clear p2
                          try clear p6
                          try clear q1
                          try clear q169
                          try clear q171
                          try clear q172
                          obtain ⟨kq, x5_10, rfl, HA, HJ10, HB⟩ := hcut
                          cases kq with
                          | zero => exact absurd HA.out (by simp [tallyroomref36_Print.j2])
                          | succ kj10 =>
                            have H := HA.out
                            clear HA
                            simp only [tallyroomref36_Print.j2] at H
                            by_cases c14 : 0 ≤ x4_1
                            · rw [if_pos c14] at H
                              have c14b0 : decide (0 ≤ x4_1) = true := decide_eq_true c14
                              clear c14
                              by_cases c15 : x4_1 < (l0.length : Int)
                              · rw [if_pos c15] at H
                                have c15b0 : decide (x4_1 < (l0.length : Int)) = true := decide_eq_true c15
                                clear c15
                                by_cases c16 : 0 ≤ x6_2
                                · rw [if_pos c16] at H
                                  have c16b0 : decide (0 ≤ x6_2) = true := decide_eq_true c16
                                  clear c16
                                  by_cases c17 : x6_2 < (((rd_T27 l0 x4_1).f1).length : Int)
                                  · rw [if_pos c17] at H
                                    have c17b0 : decide (x6_2 < (((rd_T27 l0 x4_1).f1).length : Int)) = true := decide_eq_true c17
                                    clear c17
                                    by_cases c18 : x5_10.size + ((rd_T29 ((rd_T27 l0 x4_1).f1) x6_2).f0).size ≤ 9223372036854775807
                                    · rw [if_pos c18] at H
                                      have c18b0 := eq_true c18
                                      have c18b1 : decide (x5_10.size + ((rd_T29 ((rd_T27 l0 x4_1).f1) x6_2).f0).size ≤ 9223372036854775807) = true := decide_eq_true c18
                                      try have c18b2 : (9223372036854775807 < x5_10.size + ((rd_T29 ((rd_T27 l0 x4_1).f1) x6_2).f0).size) = False := eq_false (Nat.not_lt.2 c18)
                                      by_cases c19 : (x5_10 ++ ((rd_T29 ((rd_T27 l0 x4_1).f1) x6_2).f0)).size + 2 ≤ 9223372036854775807
                                      · rw [if_pos c19] at H
                                        have c19b0 := eq_true c19
                                        have c19b1 : decide ((x5_10 ++ ((rd_T29 ((rd_T27 l0 x4_1).f1) x6_2).f0)).size + 2 ≤ 9223372036854775807) = true := decide_eq_true c19
                                        try have c19b2 : (9223372036854775807 < (x5_10 ++ ((rd_T29 ((rd_T27 l0 x4_1).f1) x6_2).f0)).size + 2) = False := eq_false (Nat.not_lt.2 c19)
                                        have c19b3 : ¬ (9223372036854775807 < x5_10.size + ((rd_T29 ((rd_T27 l0 x4_1).f1) x6_2).f0).size + 2) := by have h_ := Nat.not_lt.2 c19; simp only [ByteArray.size_append] at h_; exact h_
                                        have H' := Aside0.mk H
                                        clear H
                                        have p175 : 0 ≤ (x4_1 : Int) := of_decide_eq_true (by first | (with_reducible assumption) | assumption)
                                        have q175 : x4_1 < (l0.length : Int) := of_decide_eq_true (by first | (with_reducible assumption) | assumption)
                                        obtain ⟨ad175, A175_1, c175_1, e175, hx175_0, hx175_1, hx175_2, hl175_1, hi175_1⟩ := at_T27 HR0.out x4_1 p175 q175
                                        obtain rfl : ad169 = ad175 := (by injection e175)
                                        replace hx175_0 := (HB.out.cell (World.block_lt_of_cell? w _ hx175_0)).trans hx175_0
                                        replace hx175_1 := (HB.out.cell (World.block_lt_of_cell? w _ hx175_1)).trans hx175_1
                                        replace hx175_2 := (HB.out.cell (World.block_lt_of_cell? w _ hx175_2)).trans hx175_2
                                        have HR175_1 := Aside0.mk hi175_1
                                        have HC175_1 := Aside0.mk hl175_1
                                        clear hi175_1 hl175_1
                                        replace p175 := eq_true p175
                                        replace q175 := eq_true q175
                                        have p176 : 0 ≤ (x6_2 : Int) := of_decide_eq_true (by first | (with_reducible assumption) | assumption)
                                        have q176 : x6_2 < (((rd_T27 l0 x4_1).f1).length : Int) := of_decide_eq_true (by first | (with_reducible assumption) | assumption)
                                        obtain ⟨ad176, e176, hx176_0, hx176_1⟩ := at_T29 HR175_1.out x6_2 p176 q176
                                        cases e176
                                        replace hx176_0 := (HB.out.cell (World.block_lt_of_cell? w _ hx176_0)).trans hx176_0
                                        replace hx176_1 := (HB.out.cell (World.block_lt_of_cell? w _ hx176_1)).trans hx176_1
                                        replace p176 := eq_true p176
                                        replace q176 := eq_true q176
                                        have p177 : 0 ≤ (x4_1 : Int) := of_decide_eq_true (by first | (with_reducible assumption) | assumption)
                                        have q177 : x4_1 < (l0.length : Int) := of_decide_eq_true (by first | (with_reducible assumption) | assumption)
                                        obtain ⟨ad177, A177_1, c177_1, e177, hx177_0, hx177_1, hx177_2, hl177_1, hi177_1⟩ := at_T27 HR0.out x4_1 p177 q177
                                        obtain rfl : ad169 = ad177 := (by injection e177)
                                        replace hx177_0 := (HB.out.cell (World.block_lt_of_cell? w _ hx177_0)).trans hx177_0
                                        replace hx177_1 := (HB.out.cell (World.block_lt_of_cell? w _ hx177_1)).trans hx177_1
                                        replace hx177_2 := (HB.out.cell (World.block_lt_of_cell? w _ hx177_2)).trans hx177_2
                                        have HR177_1 := Aside0.mk hi177_1
                                        have HC177_1 := Aside0.mk hl177_1
                                        clear hi177_1 hl177_1
                                        replace p177 := eq_true p177
                                        replace q177 := eq_true q177
                                        have ea_ := Option.some.inj (hx175_1.symm.trans hx177_1)
                                        injection ea_ with ea_ en_ ec_
                                        subst ea_
                                        subst ec_
                                        clear en_
                                        have p178 : 0 ≤ (x6_2 : Int) := of_decide_eq_true (by first | (with_reducible assumption) | assumption)
                                        have q178 : x6_2 < (((rd_T27 l0 x4_1).f1).length : Int) := of_decide_eq_true (by first | (with_reducible assumption) | assumption)
                                        obtain ⟨ad178, e178, hx178_0, hx178_1⟩ := at_T29 HR177_1.out x6_2 p178 q178
                                        cases e178
                                        replace hx178_0 := (HB.out.cell (World.block_lt_of_cell? w _ hx178_0)).trans hx178_0
                                        replace hx178_1 := (HB.out.cell (World.block_lt_of_cell? w _ hx178_1)).trans hx178_1
                                        replace p178 := eq_true p178
                                        replace q178 := eq_true q178
                                        go_wp2
                                        go_loopg [5, 8] kj10 (fun kq v5 v8 w' => ∃ (x5_4 : ByteArray) (x8_4 : Int), v5 = .string x5_4 ∧ v8 = .int .i64 x8_4 ∧ Aside0 (tallyroomref36_Print.l2 kq l0 x3_1 x4_1 x5_4 x6_2 ((rd_T29 ((rd_T27 l0 x4_1).f1) x6_2).f1) x8_4 = some r) ∧ Aside0 (kq ≤ kj10) ∧ Aside0 (Below w.heap.size w w'))
                                        case atStart => exact ⟨((x5_10 ++ ((rd_T29 ((rd_T27 l0 x4_1).f1) x6_2).f0)) ++ (⟨#[61, 34]⟩ : ByteArray)), (0), (by first | rfl | (simp; done) | (simp [*]; done)), (by first | rfl | (simp; done) | (simp [*]; done)), H', ⟨Nat.le_refl _⟩, ⟨by repeat (first | (with_reducible first | exact HB.out | apply below_alloc | apply pw_below_drewN | apply below_drew1) | exact HB.out)⟩⟩
                                        case round =>
                                          clear H'
                                          try clear c1
                                          try clear p1
                                          try clear q1
                                          try clear hx1
                                          try clear c2
                                          try clear c2b0
                                          try clear p2
                                          try clear c3
                                          try clear c3b0
                                          try clear c5
                                          try clear c6
                                          try clear c6b0
                                          try clear c6b1
                                          try clear c6b2
                                          try clear p6
                                          try clear c8
                                          try clear c8b0
                                          try clear c9
                                          try clear c9b0
                                          try clear c10
                                          try clear c10b0
                                          try clear c12
                                          try clear c12b0
                                          try clear c13
                                          try clear c13b0
                                          try clear c13b1
                                          try clear c13b2
                                          try clear c14
                                          try clear c14b0
                                          try clear c15
                                          try clear c15b0
                                          try clear c16
                                          try clear c16b0
                                          try clear p16
                                          try clear q16
                                          try clear hx16
                                          try clear c17
                                          try clear c17b0
                                          try clear p17
                                          try clear q17
                                          try clear hx17
                                          try clear c18
                                          try clear c18b0
                                          try clear c18b1
                                          try clear c18b2
                                          try clear c19
                                          try clear c19b0
                                          try clear c19b1
                                          try clear c19b2
                                          try clear hx169_0
                                          try clear hx169_1
                                          try clear hx169_2
                                          try clear hx171_0
                                          try clear hx171_1
                                          try clear hx171_2
                                          try clear hx172_0
                                          try clear hx172_1
                                          try clear hx172_2
                                          try clear hx175_0
                                          try clear hx175_1
                                          try clear hx175_2
                                          try clear hx176_0
                                          try clear hx176_1
                                          try clear hx177_0
                                          try clear hx177_1
                                          try clear hx177_2
                                          try clear hx178_0
                                          try clear hx178_1
                                          try clear p1
                                          try clear p169
                                          try clear p171
                                          try clear p172
                                          try clear p175
                                          try clear p176
                                          try clear p177
                                          try clear p178
                                          try clear p2
                                          try clear p6
                                          try clear q1
                                          try clear q169
                                          try clear q171
                                          try clear q172
                                          try clear q175
                                          try clear q176
                                          try clear q177
                                          try clear q178
                                          obtain ⟨x5_4, x8_4, rfl, rfl, HA, HK4, HB⟩ := hrel
                                          cases gk with
                                          | zero => exact absurd HA.out (by simp [tallyroomref36_Print.l2])
                                          | succ k4 =>
                                            have H := HA.out
                                            clear HA
                                            simp only [tallyroomref36_Print.l2] at H
                                            by_cases c20 : x8_4 < (((rd_T29 ((rd_T27 l0 x4_1).f1) x6_2).f1).size : Int)
                                            · rw [if_pos c20] at H
                                              have c20b0 : decide (x8_4 < (((rd_T29 ((rd_T27 l0 x4_1).f1) x6_2).f1).size : Int)) = true := decide_eq_true c20
                                              clear c20
                                              by_cases c21 : 0 ≤ x8_4
                                              · rw [if_pos c21] at H
                                                have c21b0 : decide (0 ≤ x8_4) = true := decide_eq_true c21
                                                clear c21
                                                have HC23 := Aside0.mk H
                                                clear H
                                                have p22 : 0 ≤ (x8_4 : Int) := of_decide_eq_true (by first | (with_reducible assumption) | assumption)
                                                have q22 : x8_4 < (((rd_T29 ((rd_T27 l0 x4_1).f1) x6_2).f1).size : Int) := of_decide_eq_true (by first | (with_reducible assumption) | assumption)
                                                have hx22 := bt_at ((rd_T29 ((rd_T27 l0 x4_1).f1) x6_2).f1) x8_4
                                                replace p22 := eq_true p22
                                                replace q22 := eq_true q22
                                                go_upto_if 78 with (fail)
                                                go_cut [78] (fun v78 wc => ∃ (kq : Nat) (x78_22 : Bool), v78 = .bool x78_22 ∧ Aside0 (tallyroomref36_Print.j4 kq l0 x3_1 x4_1 x5_4 x6_2 ((rd_T29 ((rd_T27 l0 x4_1).f1) x6_2).f1) x8_4 (bt ((rd_T29 ((rd_T27 l0 x4_1).f1) x6_2).f1) x8_4) x78_22 = some r) ∧ Aside0 (kq ≤ k4) ∧ Aside0 (Below w.heap.size w wc))
                                                case first =>
                                                  have H := HC23.out
                                                  clear HC23
                                                  by_cases c24 : (bt ((rd_T29 ((rd_T27 l0 x4_1).f1) x6_2).f1) x8_4) = 34
                                                  · rw [if_pos c24] at H
                                                    have c24b0 : ((bt ((rd_T29 ((rd_T27 l0 x4_1).f1) x6_2).f1) x8_4) == 34) = true := beq_iff_eq.mpr c24
                                                    have c24b1 : ((bt ((rd_T29 ((rd_T27 l0 x4_1).f1) x6_2).f1) x8_4) != 34) = false := bne_eq_false_iff_eq.mpr c24
                                                    clear c24
                                                    (first | rw [c24b0] | (simp only [i64_w, i32_w]; rw [c24b0]) | skip)
                                                    have H' := Aside0.mk H
                                                    clear H
                                                    go_wp2
                                                    go_meet
                                                    case rel => exact ⟨_, (((bt ((rd_T29 ((rd_T27 l0 x4_1).f1) x6_2).f1) x8_4) == 34)), (by first | rfl | (simp; done) | (simp [*]; done)), H', ⟨by have := HK1.out; have := HK2.out; have := HJ10.out; have := HK4.out; first | omega | exact Nat.le_refl _⟩, ⟨by repeat (first | (with_reducible first | exact HB.out | apply below_alloc | apply pw_below_drewN | apply below_drew1) | exact HB.out)⟩⟩
                                                  · rw [if_neg c24] at H
                                                    have c24b0 : ((bt ((rd_T29 ((rd_T27 l0 x4_1).f1) x6_2).f1) x8_4) == 34) = false := beq_eq_false_iff_ne.mpr c24
                                                    have c24b1 : ((bt ((rd_T29 ((rd_T27 l0 x4_1).f1) x6_2).f1) x8_4) != 34) = true := bne_iff_ne.mpr c24
                                                    (first | rw [c24b0] | (simp only [i64_w, i32_w]; rw [c24b0]) | skip)
                                                    have H' := Aside0.mk H
                                                    clear H
                                                    go_wp2
                                                    go_meet
                                                    case rel => exact ⟨_, (((bt ((rd_T29 ((rd_T27 l0 x4_1).f1) x6_2).f1) x8_4) == 92)), (by first | rfl | (simp; done) | (simp [*]; done)), H', ⟨by have := HK1.out; have := HK2.out; have := HJ10.out; have := HK4.out; first | omega | exact Nat.le_refl _⟩, ⟨by repeat (first | (with_reducible first | exact HB.out | apply below_alloc | apply pw_below_drewN | apply below_drew1) | exact HB.out)⟩⟩
                                                case rest =>
                                                  clear HC23
                                                  try clear c1
                                                  try clear p1
                                                  try clear q1
                                                  try clear hx1
                                                  try clear c2
                                                  try clear c2b0
                                                  try clear p2
                                                  try clear q2
                                                  try clear hx2
                                                  try clear c3
                                                  try clear c3b0
                                                  try clear c5
                                                  try clear c6
                                                  try clear c6b0
                                                  try clear c6b1
                                                  try clear c6b2
                                                  try clear p6
                                                  try clear c8
                                                  try clear c8b0
                                                  try clear c9
                                                  try clear c9b0
                                                  try clear c10
                                                  try clear c10b0
                                                  try clear c12
                                                  try clear c12b0
                                                  try clear c13
                                                  try clear c13b0
                                                  try clear c13b1
                                                  try clear c13b2
                                                  try clear c14
                                                  try clear c14b0
                                                  try clear c15
                                                  try clear c15b0
                                                  try clear c16
                                                  try clear c16b0
                                                  try clear p16
                                                  try clear q16
                                                  try clear hx16
                                                  try clear c17
                                                  try clear c17b0
                                                  try clear p17
                                                  try clear q17
                                                  try clear hx17
                                                  try clear c18
                                                  try clear c18b0
                                                  try clear c18b1
                                                  try clear c18b2
                                                  try clear c19
                                                  try clear c19b0
                                                  try clear c19b1
                                                  try clear c19b2
                                                  try clear c20
                                                  try clear c20b0
                                                  try clear c21
                                                  try clear c21b0
                                                  try clear p22
                                                  try clear q22
                                                  try clear hx22
                                                  try clear c24
                                                  try clear c24b0
                                                  try clear c24b1
                                                  try clear hx169_0
                                                  try clear hx169_1
                                                  try clear hx169_2
                                                  try clear hx171_0
                                                  try clear hx171_1
                                                  try clear hx171_2
                                                  try clear hx172_0
                                                  try clear hx172_1
                                                  try clear hx172_2
                                                  try clear hx175_0
                                                  try clear hx175_1
                                                  try clear hx175_2
                                                  try clear hx176_0
                                                  try clear hx176_1
                                                  try clear hx177_0
                                                  try clear hx177_1
                                                  try clear hx177_2
                                                  try clear hx178_0
                                                  try clear hx178_1
                                                  try clear p1
                                                  try clear p16
                                                  try clear p169
                                                  try clear p17
                                                  try clear p171
                                                  try clear p172
                                                  try clear p175
                                                  try clear p176
                                                  try clear p177
                                                  try clear p178
                                                  try clear p2
                                                  try clear p22
                                                  try clear p6
                                                  try clear q1
                                                  try clear q16
                                                  try clear q169
                                                  try clear q17
                                                  try clear q171
                                                  try clear q172
                                                  try clear q175
                                                  try clear q176
                                                  try clear q177
                                                  try clear q178
                                                  try clear q22
                                                  obtain ⟨kq, x78_22, rfl, HA, HJ22, HB⟩ := hcut
                                                  cases kq with
                                                  | zero => exact absurd HA.out (by simp [tallyroomref36_Print.j4])
                                                  | succ kj22 =>
                                                    have H := HA.out
                                                    clear HA
                                                    simp only [tallyroomref36_Print.j4] at H
                                                    by_cases c25 : x78_22 = true
                                                    · subst c25
                                                      have H1 : (if x5_4.size + 1 ≤ 9223372036854775807 then (if 0 ≤ x8_4 then (if x8_4 ≤ (wrap64 (x8_4 + 1)) then (if (wrap64 (x8_4 + 1)) ≤ (((rd_T29 ((rd_T27 l0 x4_1).f1) x6_2).f1).size : Int) then (if (x5_4 ++ (⟨#[92]⟩ : ByteArray)).size + (((rd_T29 ((rd_T27 l0 x4_1).f1) x6_2).f1).extract (x8_4 : Int).toNat ((wrap64 (x8_4 + 1)) : Int).toNat).size ≤ 9223372036854775807 then (tallyroomref36_Print.l2 kj22 l0 x3_1 x4_1 ((x5_4 ++ (⟨#[92]⟩ : ByteArray)) ++ (((rd_T29 ((rd_T27 l0 x4_1).f1) x6_2).f1).extract (x8_4 : Int).toNat ((wrap64 (x8_4 + 1)) : Int).toNat)) x6_2 ((rd_T29 ((rd_T27 l0 x4_1).f1) x6_2).f1) (wrap64 (x8_4 + 1))) else (none)) else (none)) else (none)) else (none)) else (none)) = some r := by rw [if_pos rfl] at H; exact H
                                                      clear H
                                                      have H := H1
                                                      clear H1
                                                      by_cases c26 : x5_4.size + 1 ≤ 9223372036854775807
                                                      · rw [if_pos c26] at H
                                                        have c26b0 := eq_true c26
                                                        have c26b1 : decide (x5_4.size + 1 ≤ 9223372036854775807) = true := decide_eq_true c26
                                                        try have c26b2 : (9223372036854775807 < x5_4.size + 1) = False := eq_false (Nat.not_lt.2 c26)
                                                        by_cases c27 : 0 ≤ x8_4
                                                        · rw [if_pos c27] at H
                                                          have c27b0 := eq_true c27
                                                          have c27b1 : decide (0 ≤ x8_4) = true := decide_eq_true c27
                                                          clear c27
                                                          by_cases c28 : x8_4 ≤ (wrap64 (x8_4 + 1))
                                                          · rw [if_pos c28] at H
                                                            have c28b0 := eq_true c28
                                                            have c28b1 : decide (x8_4 ≤ (wrap64 (x8_4 + 1))) = true := decide_eq_true c28
                                                            by_cases c29 : (wrap64 (x8_4 + 1)) ≤ (((rd_T29 ((rd_T27 l0 x4_1).f1) x6_2).f1).size : Int)
                                                            · rw [if_pos c29] at H
                                                              have c29b0 := eq_true c29
                                                              have c29b1 : decide ((wrap64 (x8_4 + 1)) ≤ (((rd_T29 ((rd_T27 l0 x4_1).f1) x6_2).f1).size : Int)) = true := decide_eq_true c29
                                                              by_cases c30 : (x5_4 ++ (⟨#[92]⟩ : ByteArray)).size + (((rd_T29 ((rd_T27 l0 x4_1).f1) x6_2).f1).extract (x8_4 : Int).toNat ((wrap64 (x8_4 + 1)) : Int).toNat).size ≤ 9223372036854775807
                                                              · rw [if_pos c30] at H
                                                                have c30b0 := eq_true c30
                                                                have c30b1 : decide ((x5_4 ++ (⟨#[92]⟩ : ByteArray)).size + (((rd_T29 ((rd_T27 l0 x4_1).f1) x6_2).f1).extract (x8_4 : Int).toNat ((wrap64 (x8_4 + 1)) : Int).toNat).size ≤ 9223372036854775807) = true := decide_eq_true c30
                                                                try have c30b2 : (9223372036854775807 < (x5_4 ++ (⟨#[92]⟩ : ByteArray)).size + (((rd_T29 ((rd_T27 l0 x4_1).f1) x6_2).f1).extract (x8_4 : Int).toNat ((wrap64 (x8_4 + 1)) : Int).toNat).size) = False := eq_false (Nat.not_lt.2 c30)
                                                                have c30b3 : ¬ (9223372036854775807 < x5_4.size + 1 + (((rd_T29 ((rd_T27 l0 x4_1).f1) x6_2).f1).extract (x8_4 : Int).toNat ((wrap64 (x8_4 + 1)) : Int).toNat).size) := by have h_ := Nat.not_lt.2 c30; simp only [ByteArray.size_append] at h_; exact h_
                                                                have H' := Aside0.mk H
                                                                clear H
                                                                go_wp2
                                                                go_roundg kj22
                                                                case measure => have := HK1.out; have := HK2.out; have := HJ10.out; have := HK4.out; have := HJ22.out; omega
                                                                case rel => exact ⟨((x5_4 ++ (⟨#[92]⟩ : ByteArray)) ++ (((rd_T29 ((rd_T27 l0 x4_1).f1) x6_2).f1).extract (x8_4 : Int).toNat ((wrap64 (x8_4 + 1)) : Int).toNat)), (wrap64 (x8_4 + 1)), (by first | rfl | (simp; done) | (simp [*]; done)), (by first | rfl | (simp; done) | (simp [*]; done)), H', ⟨by have := HK1.out; have := HK2.out; have := HJ10.out; have := HK4.out; have := HJ22.out; omega⟩, ⟨by repeat (first | (with_reducible first | exact HB.out | apply below_alloc | apply pw_below_drewN | apply below_drew1) | exact HB.out)⟩⟩
                                                              · rw [if_neg c30] at H
                                                                exact absurd H (by simp)
                                                            · rw [if_neg c29] at H
                                                              exact absurd H (by simp)
                                                          · rw [if_neg c28] at H
                                                            exact absurd H (by simp)
                                                        · rw [if_neg c27] at H
                                                          exact absurd H (by simp)
                                                      · rw [if_neg c26] at H
                                                        exact absurd H (by simp)
                                                    · replace c25 := Bool.eq_false_iff.mpr c25
                                                      subst c25
                                                      have H1 : (if (bt ((rd_T29 ((rd_T27 l0 x4_1).f1) x6_2).f1) x8_4) = 10 then (if x5_4.size + 2 ≤ 9223372036854775807 then (tallyroomref36_Print.l2 kj22 l0 x3_1 x4_1 (x5_4 ++ (⟨#[92, 110]⟩ : ByteArray)) x6_2 ((rd_T29 ((rd_T27 l0 x4_1).f1) x6_2).f1) (wrap64 (x8_4 + 1))) else (none)) else (if 0 ≤ x8_4 then (if x8_4 ≤ (wrap64 (x8_4 + 1)) then (if (wrap64 (x8_4 + 1)) ≤ (((rd_T29 ((rd_T27 l0 x4_1).f1) x6_2).f1).size : Int) then (if x5_4.size + (((rd_T29 ((rd_T27 l0 x4_1).f1) x6_2).f1).extract (x8_4 : Int).toNat ((wrap64 (x8_4 + 1)) : Int).toNat).size ≤ 9223372036854775807 then (tallyroomref36_Print.l2 kj22 l0 x3_1 x4_1 (x5_4 ++ (((rd_T29 ((rd_T27 l0 x4_1).f1) x6_2).f1).extract (x8_4 : Int).toNat ((wrap64 (x8_4 + 1)) : Int).toNat)) x6_2 ((rd_T29 ((rd_T27 l0 x4_1).f1) x6_2).f1) (wrap64 (x8_4 + 1))) else (none)) else (none)) else (none)) else (none))) = some r := by rw [if_neg (show ¬ (false = true) by decide)] at H; exact H
                                                      clear H
                                                      have H := H1
                                                      clear H1
                                                      by_cases c31 : (bt ((rd_T29 ((rd_T27 l0 x4_1).f1) x6_2).f1) x8_4) = 10
                                                      · rw [if_pos c31] at H
                                                        have c31b0 : ((bt ((rd_T29 ((rd_T27 l0 x4_1).f1) x6_2).f1) x8_4) == 10) = true := beq_iff_eq.mpr c31
                                                        have c31b1 : ((bt ((rd_T29 ((rd_T27 l0 x4_1).f1) x6_2).f1) x8_4) != 10) = false := bne_eq_false_iff_eq.mpr c31
                                                        clear c31
                                                        by_cases c32 : x5_4.size + 2 ≤ 9223372036854775807
                                                        · rw [if_pos c32] at H
                                                          have c32b0 := eq_true c32
                                                          have c32b1 : decide (x5_4.size + 2 ≤ 9223372036854775807) = true := decide_eq_true c32
                                                          try have c32b2 : (9223372036854775807 < x5_4.size + 2) = False := eq_false (Nat.not_lt.2 c32)
                                                          have H' := Aside0.mk H
                                                          clear H
                                                          go_wp2
                                                          go_roundg kj22
                                                          case measure => have := HK1.out; have := HK2.out; have := HJ10.out; have := HK4.out; have := HJ22.out; omega
                                                          case rel => exact ⟨(x5_4 ++ (⟨#[92, 110]⟩ : ByteArray)), (wrap64 (x8_4 + 1)), (by first | rfl | (simp; done) | (simp [*]; done)), (by first | rfl | (simp; done) | (simp [*]; done)), H', ⟨by have := HK1.out; have := HK2.out; have := HJ10.out; have := HK4.out; have := HJ22.out; omega⟩, ⟨by repeat (first | (with_reducible first | exact HB.out | apply below_alloc | apply pw_below_drewN | apply below_drew1) | exact HB.out)⟩⟩
                                                        · rw [if_neg c32] at H
                                                          exact absurd H (by simp)
                                                      · rw [if_neg c31] at H
                                                        have c31b0 : ((bt ((rd_T29 ((rd_T27 l0 x4_1).f1) x6_2).f1) x8_4) == 10) = false := beq_eq_false_iff_ne.mpr c31
                                                        have c31b1 : ((bt ((rd_T29 ((rd_T27 l0 x4_1).f1) x6_2).f1) x8_4) != 10) = true := bne_iff_ne.mpr c31
                                                        by_cases c33 : 0 ≤ x8_4
                                                        · rw [if_pos c33] at H
                                                          have c33b0 := eq_true c33
                                                          have c33b1 : decide (0 ≤ x8_4) = true := decide_eq_true c33
                                                          clear c33
                                                          by_cases c34 : x8_4 ≤ (wrap64 (x8_4 + 1))
                                                          · rw [if_pos c34] at H
                                                            have c34b0 := eq_true c34
                                                            have c34b1 : decide (x8_4 ≤ (wrap64 (x8_4 + 1))) = true := decide_eq_true c34
                                                            by_cases c35 : (wrap64 (x8_4 + 1)) ≤ (((rd_T29 ((rd_T27 l0 x4_1).f1) x6_2).f1).size : Int)
                                                            · rw [if_pos c35] at H
                                                              have c35b0 := eq_true c35
                                                              have c35b1 : decide ((wrap64 (x8_4 + 1)) ≤ (((rd_T29 ((rd_T27 l0 x4_1).f1) x6_2).f1).size : Int)) = true := decide_eq_true c35
                                                              by_cases c36 : x5_4.size + (((rd_T29 ((rd_T27 l0 x4_1).f1) x6_2).f1).extract (x8_4 : Int).toNat ((wrap64 (x8_4 + 1)) : Int).toNat).size ≤ 9223372036854775807
                                                              · rw [if_pos c36] at H
                                                                have c36b0 := eq_true c36
                                                                have c36b1 : decide (x5_4.size + (((rd_T29 ((rd_T27 l0 x4_1).f1) x6_2).f1).extract (x8_4 : Int).toNat ((wrap64 (x8_4 + 1)) : Int).toNat).size ≤ 9223372036854775807) = true := decide_eq_true c36
                                                                try have c36b2 : (9223372036854775807 < x5_4.size + (((rd_T29 ((rd_T27 l0 x4_1).f1) x6_2).f1).extract (x8_4 : Int).toNat ((wrap64 (x8_4 + 1)) : Int).toNat).size) = False := eq_false (Nat.not_lt.2 c36)
                                                                have H' := Aside0.mk H
                                                                clear H
                                                                go_wp2
                                                                go_roundg kj22
                                                                case measure => have := HK1.out; have := HK2.out; have := HJ10.out; have := HK4.out; have := HJ22.out; omega
                                                                case rel => exact ⟨(x5_4 ++ (((rd_T29 ((rd_T27 l0 x4_1).f1) x6_2).f1).extract (x8_4 : Int).toNat ((wrap64 (x8_4 + 1)) : Int).toNat)), (wrap64 (x8_4 + 1)), (by first | rfl | (simp; done) | (simp [*]; done)), (by first | rfl | (simp; done) | (simp [*]; done)), H', ⟨by have := HK1.out; have := HK2.out; have := HJ10.out; have := HK4.out; have := HJ22.out; omega⟩, ⟨by repeat (first | (with_reducible first | exact HB.out | apply below_alloc | apply pw_below_drewN | apply below_drew1) | exact HB.out)⟩⟩
                                                              · rw [if_neg c36] at H
                                                                exact absurd H (by simp)
                                                            · rw [if_neg c35] at H
                                                              exact absurd H (by simp)
                                                          · rw [if_neg c34] at H
                                                            exact absurd H (by simp)
                                                        · rw [if_neg c33] at H
                                                          exact absurd H (by simp)
                                              · rw [if_neg c21] at H
                                                exact absurd H (by simp)
                                            · rw [if_neg c20] at H
                                              have c20b0 : decide (x8_4 < (((rd_T29 ((rd_T27 l0 x4_1).f1) x6_2).f1).size : Int)) = false := decide_eq_false c20
                                              clear c20
                                              by_cases c37 : x5_4.size + 1 ≤ 9223372036854775807
                                              · rw [if_pos c37] at H
                                                have c37b0 := eq_true c37
                                                have c37b1 : decide (x5_4.size + 1 ≤ 9223372036854775807) = true := decide_eq_true c37
                                                try have c37b2 : (9223372036854775807 < x5_4.size + 1) = False := eq_false (Nat.not_lt.2 c37)
                                                have H' := Aside0.mk H
                                                clear H
                                                go_wp2
                                                go_roundg k4
                                                case measure => have := HK1.out; have := HK2.out; have := HJ10.out; have := HK4.out; omega
                                                case rel => exact ⟨(x5_4 ++ (⟨#[34]⟩ : ByteArray)), (wrap64 (x6_2 + 1)), (by first | rfl | (simp; done) | (simp [*]; done)), (by first | rfl | (simp; done) | (simp [*]; done)), H', ⟨by have := HK1.out; have := HK2.out; have := HJ10.out; have := HK4.out; omega⟩, ⟨by repeat (first | (with_reducible first | exact HB.out | apply below_alloc | apply pw_below_drewN | apply below_drew1) | exact HB.out)⟩⟩
                                              · rw [if_neg c37] at H
                                                exact absurd H (by simp)
                                      · rw [if_neg c19] at H
                                        exact absurd H (by simp)
                                    · rw [if_neg c18] at H
                                      exact absurd H (by simp)
                                  · rw [if_neg c17] at H
                                    exact absurd H (by simp)
                                · rw [if_neg c16] at H
                                  exact absurd H (by simp)
                              · rw [if_neg c15] at H
                                exact absurd H (by simp)
                            · rw [if_neg c14] at H
                              exact absurd H (by simp)
                      · rw [if_neg c10] at H
                        have c10b0 : decide (x6_2 < (((rd_T27 l0 x4_1).f1).length : Int)) = false := decide_eq_false c10
                        clear c10
                        by_cases c38 : x3_1.size + x5_2.size ≤ 9223372036854775807
                        · rw [if_pos c38] at H
                          have c38b0 := eq_true c38
                          have c38b1 : decide (x3_1.size + x5_2.size ≤ 9223372036854775807) = true := decide_eq_true c38
                          try have c38b2 : (9223372036854775807 < x3_1.size + x5_2.size) = False := eq_false (Nat.not_lt.2 c38)
                          by_cases c39 : (x3_1 ++ x5_2).size + 2 ≤ 9223372036854775807
                          · rw [if_pos c39] at H
                            have c39b0 := eq_true c39
                            have c39b1 : decide ((x3_1 ++ x5_2).size + 2 ≤ 9223372036854775807) = true := decide_eq_true c39
                            try have c39b2 : (9223372036854775807 < (x3_1 ++ x5_2).size + 2) = False := eq_false (Nat.not_lt.2 c39)
                            have c39b3 : ¬ (9223372036854775807 < x3_1.size + x5_2.size + 2) := by have h_ := Nat.not_lt.2 c39; simp only [ByteArray.size_append] at h_; exact h_
                            replace H := Option.bind_eq_some_iff.mp H
                            obtain ⟨t174, A400, H⟩ := H
                            replace H : (if ((x3_1 ++ x5_2) ++ (⟨#[125, 32]⟩ : ByteArray)).size + t174.size ≤ 9223372036854775807 then (if (((x3_1 ++ x5_2) ++ (⟨#[125, 32]⟩ : ByteArray)) ++ t174).size + 1 ≤ 9223372036854775807 then (tallyroomref36_Print.l0 k2 l0 ((((x3_1 ++ x5_2) ++ (⟨#[125, 32]⟩ : ByteArray)) ++ t174) ++ (⟨#[10]⟩ : ByteArray)) (wrap64 (x4_1 + 1))) else (none)) else (none)) = some r := H
                            have A40 := Aside0.mk A400
                            clear A400
                            by_cases c41 : ((x3_1 ++ x5_2) ++ (⟨#[125, 32]⟩ : ByteArray)).size + t174.size ≤ 9223372036854775807
                            · rw [if_pos c41] at H
                              have c41b0 := eq_true c41
                              have c41b1 : decide (((x3_1 ++ x5_2) ++ (⟨#[125, 32]⟩ : ByteArray)).size + t174.size ≤ 9223372036854775807) = true := decide_eq_true c41
                              try have c41b2 : (9223372036854775807 < ((x3_1 ++ x5_2) ++ (⟨#[125, 32]⟩ : ByteArray)).size + t174.size) = False := eq_false (Nat.not_lt.2 c41)
                              have c41b3 : ¬ (9223372036854775807 < x3_1.size + x5_2.size + 2 + t174.size) := by have h_ := Nat.not_lt.2 c41; simp only [ByteArray.size_append] at h_; exact h_
                              by_cases c42 : (((x3_1 ++ x5_2) ++ (⟨#[125, 32]⟩ : ByteArray)) ++ t174).size + 1 ≤ 9223372036854775807
                              · rw [if_pos c42] at H
                                have c42b0 := eq_true c42
                                have c42b1 : decide ((((x3_1 ++ x5_2) ++ (⟨#[125, 32]⟩ : ByteArray)) ++ t174).size + 1 ≤ 9223372036854775807) = true := decide_eq_true c42
                                try have c42b2 : (9223372036854775807 < (((x3_1 ++ x5_2) ++ (⟨#[125, 32]⟩ : ByteArray)) ++ t174).size + 1) = False := eq_false (Nat.not_lt.2 c42)
                                have c42b3 : ¬ (9223372036854775807 < x3_1.size + x5_2.size + 2 + t174.size + 1) := by have h_ := Nat.not_lt.2 c42; simp only [ByteArray.size_append] at h_; exact h_
                                have H' := Aside0.mk H
                                clear H
                                have p172 : 0 ≤ (x4_1 : Int) := of_decide_eq_true (by first | (with_reducible assumption) | assumption)
                                have q172 : x4_1 < (l0.length : Int) := of_decide_eq_true (by first | (with_reducible assumption) | assumption)
                                obtain ⟨ad172, A172_1, c172_1, e172, hx172_0, hx172_1, hx172_2, hl172_1, hi172_1⟩ := at_T27 HR0.out x4_1 p172 q172
                                obtain rfl : ad169 = ad172 := (by injection e172)
                                replace hx172_0 := (HB.out.cell (World.block_lt_of_cell? w _ hx172_0)).trans hx172_0
                                replace hx172_1 := (HB.out.cell (World.block_lt_of_cell? w _ hx172_1)).trans hx172_1
                                replace hx172_2 := (HB.out.cell (World.block_lt_of_cell? w _ hx172_2)).trans hx172_2
                                have HR172_1 := Aside0.mk hi172_1
                                have HC172_1 := Aside0.mk hl172_1
                                clear hi172_1 hl172_1
                                replace p172 := eq_true p172
                                replace q172 := eq_true q172
                                have p173 : 0 ≤ (x4_1 : Int) := of_decide_eq_true (by first | (with_reducible assumption) | assumption)
                                have q173 : x4_1 < (l0.length : Int) := of_decide_eq_true (by first | (with_reducible assumption) | assumption)
                                obtain ⟨ad173, A173_1, c173_1, e173, hx173_0, hx173_1, hx173_2, hl173_1, hi173_1⟩ := at_T27 HR0.out x4_1 p173 q173
                                obtain rfl : ad169 = ad173 := (by injection e173)
                                replace hx173_0 := (HB.out.cell (World.block_lt_of_cell? w _ hx173_0)).trans hx173_0
                                replace hx173_1 := (HB.out.cell (World.block_lt_of_cell? w _ hx173_1)).trans hx173_1
                                replace hx173_2 := (HB.out.cell (World.block_lt_of_cell? w _ hx173_2)).trans hx173_2
                                have HR173_1 := Aside0.mk hi173_1
                                have HC173_1 := Aside0.mk hl173_1
                                clear hi173_1 hl173_1
                                replace p173 := eq_true p173
                                replace q173 := eq_true q173
                                have ea_ := Option.some.inj (hx172_1.symm.trans hx173_1)
                                injection ea_ with ea_ en_ ec_
                                subst ea_
                                subst ec_
                                clear en_
                                go_wp2_with (first | ((with_reducible refine gate_callee (f := 26) rfl ?_); refine goesL_ (some 104) rfl rfl Tryd.func26 (by kernel_rfl) rfl #[.int .u64 ((rd_T27 l0 x4_1).f2)] rfl (by (try simp only [List.map_toArray, List.map_cons, List.map_nil]); first | done | rfl | (simp only [List.length_drop, List.length_take]; rfl)) ?_; (with_reducible refine (tallyroomref22_Digits.calls k2 ((rd_T27 l0 x4_1).f2) t174 _ A40.out).mono ?_); rintro e w43 ⟨rfl, hb⟩; refine ⟨_, rfl, ?_⟩; have n0_ := Aside0.mk (below_step (by repeat (first | (with_reducible first | exact HB.out | apply below_alloc | apply pw_below_drewN | apply below_drew1) | exact HB.out)) hb); clear HB; have HB := n0_; clear n0_; (try clear hb); (try clear hb2); (try clear hk); (try clear hi)))
                                go_roundg k2
                                case measure => have := HK1.out; have := HK2.out; omega
                                case rel => exact ⟨((((x3_1 ++ x5_2) ++ (⟨#[125, 32]⟩ : ByteArray)) ++ t174) ++ (⟨#[10]⟩ : ByteArray)), (wrap64 (x4_1 + 1)), (by first | rfl | (simp; done) | (simp [*]; done)), (by first | rfl | (simp; done) | (simp [*]; done)), H', ⟨by have := HK1.out; have := HK2.out; omega⟩, ⟨by repeat (first | (with_reducible first | exact HB.out | apply below_alloc | apply pw_below_drewN | apply below_drew1) | exact HB.out)⟩⟩
                              · rw [if_neg c42] at H
                                exact absurd H (by simp)
                            · rw [if_neg c41] at H
                              exact absurd H (by simp)
                          · rw [if_neg c39] at H
                            exact absurd H (by simp)
                        · rw [if_neg c38] at H
                          exact absurd H (by simp)
                    · rw [if_neg c9] at H
                      exact absurd H (by simp)
                  · rw [if_neg c8] at H
                    exact absurd H (by simp)
            · rw [if_neg c6] at H
              exact absurd H (by simp)
          · replace c5 := Bool.eq_false_iff.mpr c5
            subst c5
            have H1 : (tallyroomref36_Print.l0 k1 l0 x3_1 (wrap64 (x4_1 + 1))) = some r := by rw [if_neg (show ¬ (false = true) by decide)] at H; exact H
            clear H
            have H := H1
            clear H1
            have H' := Aside0.mk H
            clear H
            have p169 : 0 ≤ (x4_1 : Int) := of_decide_eq_true (by first | (with_reducible assumption) | assumption)
            have q169 : x4_1 < (l0.length : Int) := of_decide_eq_true (by first | (with_reducible assumption) | assumption)
            obtain ⟨ad169, A169_1, c169_1, e169, hx169_0, hx169_1, hx169_2, hl169_1, hi169_1⟩ := at_T27 HR0.out x4_1 p169 q169
            cases e169
            replace hx169_0 := (HB.out.cell (World.block_lt_of_cell? w _ hx169_0)).trans hx169_0
            replace hx169_1 := (HB.out.cell (World.block_lt_of_cell? w _ hx169_1)).trans hx169_1
            replace hx169_2 := (HB.out.cell (World.block_lt_of_cell? w _ hx169_2)).trans hx169_2
            have HR169_1 := Aside0.mk hi169_1
            have HC169_1 := Aside0.mk hl169_1
            clear hi169_1 hl169_1
            replace p169 := eq_true p169
            replace q169 := eq_true q169
            go_wp2_with (first | ((with_reducible refine gate_callee (f := 8) rfl ?_); refine goesL_ (some 19) rfl rfl Tryd.func8 (by kernel_rfl) rfl #[.agg #[.string ((rd_T27 l0 x4_1).f0), .slice A169_1 ((rd_T27 l0 x4_1).f1).length c169_1, .int .u64 ((rd_T27 l0 x4_1).f2)]] rfl (by (try simp only [List.map_toArray, List.map_cons, List.map_nil]); first | done | rfl | (simp only [List.length_drop, List.length_take]; rfl)) ?_; (with_reducible refine (tallyroomref36_Right.calls k1 ((rd_T27 l0 x4_1).f0) _ _ ((rd_T27 l0 x4_1).f1) ((rd_T27 l0 x4_1).f2) false _ ?side1 ?side2 A4.out).mono ?_); (case side1 => repeat (first | exact (Kd.C_below HR169_1.out HB.out) | (with_reducible refine Kd.C_alloc ?_ _) | (with_reducible refine Kd.C_drewN ?_ _) | (with_reducible refine Kd.C_drew ?_))); (case side2 => exact HC169_1.out); rintro e w44 ⟨rfl, hb⟩; refine ⟨_, rfl, ?_⟩; have n0_ := Aside0.mk (below_step (by repeat (first | (with_reducible first | exact HB.out | apply below_alloc | apply pw_below_drewN | apply below_drew1) | exact HB.out)) hb); clear HB; have HB := n0_; clear n0_; (try clear hb); (try clear hb2); (try clear hk); (try clear hi)))
            go_roundg k1
            case measure => have := HK1.out; omega
            case rel => exact ⟨(x3_1), (wrap64 (x4_1 + 1)), (by first | rfl | (simp; done) | (simp [*]; done)), (by first | rfl | (simp; done) | (simp [*]; done)), H', ⟨by have := HK1.out; omega⟩, ⟨by repeat (first | (with_reducible first | exact HB.out | apply below_alloc | apply pw_below_drewN | apply below_drew1) | exact HB.out)⟩⟩
        · rw [if_neg c3] at H
          exact absurd H (by simp)
      · rw [if_neg c2] at H
        have c2b0 : decide (x4_1 < (l0.length : Int)) = false := decide_eq_false c2
        clear c2
        obtain rfl := Option.some.inj H
        go_wp2
        go_ret
        exact ⟨by first | rfl | (simp [errW_none, errW_some] <;> rfl) | (simp [*, errW_none, errW_some] <;> rfl), by repeat (first | (with_reducible first | exact HB.out | apply below_alloc | apply pw_below_drewN | apply below_drew1) | exact HB.out)⟩



end Go.Proofs.YtdbmcikoiilanaaDoor.Pp
namespace Go.Proofs.YtdbmcikoiilanaaDoor.Pp
open Go.RowKit Go.Proofs.YtdbmcikoiilanaaDoorW.PrintWords Go.Proofs.YtdbmcikoiilanaaDoorW.PrintLast Go.Proofs.YtdbmcikoiilanaaDoorW.PrintMore
attribute [local go_sem] max2_int min2_int max_two min_two max_three min_three max_four min_four
set_option linter.unusedVariables false
set_option linter.unusedSimpArgs false

theorem eqA29 (d : Nat) (w : World) (x0 y0 : ByteArray) (x1 y1 : ByteArray) :
    (Op.equalIn (d + 2) 29 (.agg #[.string x0, .string x1]) (.agg #[.string y0, .string y1])).run Tryd.prog w = .ok (x0.toList == y0.toList && (x1.toList == y1.toList)) w := by
  refine eqA_of Tryd.underlying29 (by kernel_rfl) ?_
  refine eqf_cons (by rfl) (by go_simp; rfl) (by go_simp; rfl) (by go_simp) ?_
  exact eqf_last (by rfl) (by go_simp; rfl) (by go_simp; rfl) (by go_simp)

attribute [local go_sem high] eqA71 eqA29
/-! ### tallyroomlaw36_same: function 13 -/
mutual
def tallyroomlaw36_same.l0 : Nat → List (S43) → List (S27) → Int → Option (Bool)
  | 0, _, _, _ => none
  | k + 1, x0, x1, x5 => if x5 < (x0.length : Int) then (if 0 ≤ x5 then (if x5 < (x1.length : Int) then (if ((rd_T43 x0 x5).f0).toList = ((rd_T27 x1 x5).f0).toList then (if ((rd_T43 x0 x5).f2) = ((rd_T27 x1 x5).f2) then (tallyroomlaw36_same.j1 k x0 x1 x5 ((((rd_T43 x0 x5).f1).length : Int) != (((rd_T27 x1 x5).f1).length : Int))) else (tallyroomlaw36_same.j1 k x0 x1 x5 true)) else (tallyroomlaw36_same.j1 k x0 x1 x5 true)) else (none)) else (none)) else (some true)
def tallyroomlaw36_same.j1 : Nat → List (S43) → List (S27) → Int → Bool → Option (Bool)
  | 0, _, _, _, _ => none
  | k + 1, x0, x1, x5, x56 => if x56 = true then (some false) else (tallyroomlaw36_same.l1 k x0 x1 x5 0)
def tallyroomlaw36_same.l1 : Nat → List (S43) → List (S27) → Int → Int → Option (Bool)
  | 0, _, _, _, _ => none
  | k + 1, x0, x1, x5, x6 => if 0 ≤ x5 then (if x5 < (x0.length : Int) then (if x6 < (((rd_T43 x0 x5).f1).length : Int) then (if 0 ≤ x6 then (if x5 < (x1.length : Int) then (if x6 < (((rd_T27 x1 x5).f1).length : Int) then (if (!((((rd_T71 ((rd_T43 x0 x5).f1) x6).f0).toList) == (((rd_T29 ((rd_T27 x1 x5).f1) x6).f0).toList)) || (!((((rd_T71 ((rd_T43 x0 x5).f1) x6).f1).toList) == (((rd_T29 ((rd_T27 x1 x5).f1) x6).f1).toList)))) = true then (some false) else (tallyroomlaw36_same.l1 k x0 x1 x5 (wrap64 (x6 + 1)))) else (none)) else (none)) else (none)) else (tallyroomlaw36_same.l0 k x0 x1 (wrap64 (x5 + 1)))) else (none)) else (none)
end
def tallyroomlaw36_same.f (k : Nat) (l0 : List (S43)) (l1 : List (S27)) : Option (Bool) := if (l0.length : Int) = (l1.length : Int) then (tallyroomlaw36_same.l0 k l0 l1 0) else (some false)
theorem tallyroomlaw36_same.mono_l : ∀ k, (∀ y0 y1 y2, LeO (tallyroomlaw36_same.l0 k y0 y1 y2) (tallyroomlaw36_same.l0 (k + 1) y0 y1 y2)) ∧ (∀ y0 y1 y2 y3, LeO (tallyroomlaw36_same.j1 k y0 y1 y2 y3) (tallyroomlaw36_same.j1 (k + 1) y0 y1 y2 y3)) ∧ (∀ y0 y1 y2 y3, LeO (tallyroomlaw36_same.l1 k y0 y1 y2 y3) (tallyroomlaw36_same.l1 (k + 1) y0 y1 y2 y3))
  | 0 => ⟨fun _ _ _ r h => by simp [tallyroomlaw36_same.l0] at h, fun _ _ _ _ r h => by simp [tallyroomlaw36_same.j1] at h, fun _ _ _ _ r h => by simp [tallyroomlaw36_same.l1] at h⟩
  | k + 1 => by
    obtain ⟨ih0, ih1, ih2⟩ := tallyroomlaw36_same.mono_l k
    refine ⟨?_, ?_, ?_⟩
    · intro y0 y1 y2
      unfold tallyroomlaw36_same.l0
      repeat' first
      | (with_reducible exact ih0 _ _ _)
      | (with_reducible exact ih1 _ _ _ _)
      | (with_reducible exact ih2 _ _ _ _)
      | (with_reducible exact LeO.refl _)
      | (with_reducible exact LeO.none _)
      | (with_reducible refine LeO.ite ?_ ?_)
      | (with_reducible refine LeO.bind ?_ (fun _ => ?_))
      | exact ih0 _ _ _
      | exact ih1 _ _ _ _
      | exact ih2 _ _ _ _
      | exact LeO.none _
      | refine LeO.ite ?_ ?_
      | refine LeO.bind ?_ (fun _ => ?_)
    · intro y0 y1 y2 y3
      unfold tallyroomlaw36_same.j1
      repeat' first
      | (with_reducible exact ih0 _ _ _)
      | (with_reducible exact ih1 _ _ _ _)
      | (with_reducible exact ih2 _ _ _ _)
      | (with_reducible exact LeO.refl _)
      | (with_reducible exact LeO.none _)
      | (with_reducible refine LeO.ite ?_ ?_)
      | (with_reducible refine LeO.bind ?_ (fun _ => ?_))
      | exact ih0 _ _ _
      | exact ih1 _ _ _ _
      | exact ih2 _ _ _ _
      | exact LeO.none _
      | refine LeO.ite ?_ ?_
      | refine LeO.bind ?_ (fun _ => ?_)
    · intro y0 y1 y2 y3
      unfold tallyroomlaw36_same.l1
      repeat' first
      | (with_reducible exact ih0 _ _ _)
      | (with_reducible exact ih1 _ _ _ _)
      | (with_reducible exact ih2 _ _ _ _)
      | (with_reducible exact LeO.refl _)
      | (with_reducible exact LeO.none _)
      | (with_reducible refine LeO.ite ?_ ?_)
      | (with_reducible refine LeO.bind ?_ (fun _ => ?_))
      | exact ih0 _ _ _
      | exact ih1 _ _ _ _
      | exact ih2 _ _ _ _
      | exact LeO.none _
      | refine LeO.ite ?_ ?_
      | refine LeO.bind ?_ (fun _ => ?_)
theorem tallyroomlaw36_same.mono : ∀ a0 a1 k, LeO (tallyroomlaw36_same.f k a0 a1) (tallyroomlaw36_same.f (k + 1) a0 a1) := by
  intro a0 a1 k
  obtain ⟨ih0, ih1, ih2⟩ := tallyroomlaw36_same.mono_l k
  unfold tallyroomlaw36_same.f
  repeat' first
      | (with_reducible exact ih0 _ _ _)
      | (with_reducible exact ih1 _ _ _ _)
      | (with_reducible exact ih2 _ _ _ _)
      | (with_reducible exact LeO.refl _)
      | (with_reducible exact LeO.none _)
      | (with_reducible refine LeO.ite ?_ ?_)
      | (with_reducible refine LeO.bind ?_ (fun _ => ?_))
      | exact ih0 _ _ _
      | exact ih1 _ _ _ _
      | exact ih2 _ _ _ _
      | exact LeO.none _
      | refine LeO.ite ?_ ?_
      | refine LeO.bind ?_ (fun _ => ?_)
set_option maxHeartbeats 8000000 in
set_option maxRecDepth 100000 in
theorem tallyroomlaw36_same.calls (k : Nat) (A0 : Option Addr) (c0 : Nat) (l0 : List (S43)) (A1 : Option Addr) (c1 : Nat) (l1 : List (S27)) (r : Bool) (w : World) (hr0 : Kd.C k43 w A0 l0.length l0) (hc0 : l0.length ≤ c0) (hr1 : Kd.C k27 w A1 l1.length l1) (hc1 : l1.length ≤ c1) (h : tallyroomlaw36_same.f k l0 l1 = some r) :
    Calls Tryd.prog 13 #[.slice A0 l0.length c0, .slice A1 l1.length c1] w fun e w' => e = .returned (.bool r) ∧ Drawn0 w w' := by
  have hu71 := Tryd.underlying71
  have hu29 := Tryd.underlying29
  have HR0 := Aside0.mk hr0
  have HC0 := Aside0.mk hc0
  clear hr0 hc0
  have HR1 := Aside0.mk hr1
  have HC1 := Aside0.mk hc1
  clear hr1 hc1
  have H : (if (l0.length : Int) = (l1.length : Int) then (tallyroomlaw36_same.l0 k l0 l1 0) else (some false)) = some r := h
  clear h
  by_cases c3 : (l0.length : Int) = (l1.length : Int)
  · rw [if_pos c3] at H
    have c3b0 : ((l0.length : Int) == (l1.length : Int)) = true := beq_iff_eq.mpr c3
    have c3b1 : ((l0.length : Int) != (l1.length : Int)) = false := bne_eq_false_iff_eq.mpr c3
    have c3b2 : (l0.length == l1.length) = true := by first | simpa using c3 | (simp at c3 ⊢; omega)
    clear c3
    have H' := Aside0.mk H
    clear H
    go_enter Tryd.func13, Tryd.ntmps13
    go_wp2
    repeat (go_quiet (fail); try go_wp2)
    go_loopg [5] k (fun kq v5 w' => ∃ (x5_1 : Int), v5 = .int .i64 x5_1 ∧ Aside0 (tallyroomlaw36_same.l0 kq l0 l1 x5_1 = some r) ∧ Aside0 (kq ≤ k) ∧ Drawn0 w w')
    case atStart => exact ⟨(0), (by first | rfl | (simp; done) | (simp [*]; done)), H', ⟨Nat.le_refl _⟩, by repeat (first | exact Drawn0.refl _ | apply Drawn0.step)⟩
    case round =>
      clear H'
      try clear c1
      try clear p2
      try clear c3
      try clear c3b0
      try clear c3b1
      try clear c3b2
      obtain ⟨x5_1, rfl, HA, HK1, ⟨m1, rfl⟩⟩ := hrel
      cases gk with
      | zero => exact absurd HA.out (by simp [tallyroomlaw36_same.l0])
      | succ k1 =>
        have H := HA.out
        clear HA
        simp only [tallyroomlaw36_same.l0] at H
        by_cases c4 : x5_1 < (l0.length : Int)
        · rw [if_pos c4] at H
          have c4b0 : decide (x5_1 < (l0.length : Int)) = true := decide_eq_true c4
          clear c4
          have HC5 := Aside0.mk H
          clear H
          go_upto_region 6 with (fail)
          repeat (go_quiet (fail); go_upto_region 6 with (fail))
          go_cut [56] (fun v56 wc => ∃ (kq : Nat) (x56_4 : Bool), v56 = .bool x56_4 ∧ Aside0 (tallyroomlaw36_same.j1 kq l0 l1 x5_1 x56_4 = some r) ∧ Aside0 (kq ≤ k1) ∧ Drawn0 w wc)
          case first =>
            have H := HC5.out
            clear HC5
            by_cases c6 : 0 ≤ x5_1
            · rw [if_pos c6] at H
              have c6b0 : decide (0 ≤ x5_1) = true := decide_eq_true c6
              clear c6
              (first | rw [c6b0] | (simp only [i64_w, i32_w]; rw [c6b0]) | skip)
              by_cases c7 : x5_1 < (l1.length : Int)
              · rw [if_pos c7] at H
                have c7b0 : decide (x5_1 < (l1.length : Int)) = true := decide_eq_true c7
                clear c7
                by_cases c8 : ((rd_T43 l0 x5_1).f0).toList = ((rd_T27 l1 x5_1).f0).toList
                · rw [if_pos c8] at H
                  have c8b0 : (((rd_T43 l0 x5_1).f0).toList == ((rd_T27 l1 x5_1).f0).toList) = true := beq_iff_eq.mpr c8
                  have c8b1 : (((rd_T43 l0 x5_1).f0).toList != ((rd_T27 l1 x5_1).f0).toList) = false := bne_eq_false_iff_eq.mpr c8
                  clear c8
                  by_cases c9 : ((rd_T43 l0 x5_1).f2) = ((rd_T27 l1 x5_1).f2)
                  · rw [if_pos c9] at H
                    have c9b0 : (((rd_T43 l0 x5_1).f2) == ((rd_T27 l1 x5_1).f2)) = true := beq_iff_eq.mpr c9
                    have c9b1 : (((rd_T43 l0 x5_1).f2) != ((rd_T27 l1 x5_1).f2)) = false := bne_eq_false_iff_eq.mpr c9
                    clear c9
                    have H' := Aside0.mk H
                    clear H
                    have p179 : 0 ≤ (x5_1 : Int) := of_decide_eq_true (by first | (with_reducible assumption) | assumption)
                    have q179 : x5_1 < (l0.length : Int) := of_decide_eq_true (by first | (with_reducible assumption) | assumption)
                    obtain ⟨ad179, A179_1, c179_1, e179, hx179_0, hx179_1, hx179_2, hl179_1, hi179_1⟩ := at_T43 HR0.out x5_1 p179 q179
                    cases e179
                    have HR179_1 := Aside0.mk hi179_1
                    have HC179_1 := Aside0.mk hl179_1
                    clear hi179_1 hl179_1
                    replace p179 := eq_true p179
                    replace q179 := eq_true q179
                    have p180 : 0 ≤ (x5_1 : Int) := of_decide_eq_true (by first | (with_reducible assumption) | assumption)
                    have q180 : x5_1 < (l1.length : Int) := of_decide_eq_true (by first | (with_reducible assumption) | assumption)
                    obtain ⟨ad180, A180_1, c180_1, e180, hx180_0, hx180_1, hx180_2, hl180_1, hi180_1⟩ := at_T27 HR1.out x5_1 p180 q180
                    cases e180
                    have HR180_1 := Aside0.mk hi180_1
                    have HC180_1 := Aside0.mk hl180_1
                    clear hi180_1 hl180_1
                    replace p180 := eq_true p180
                    replace q180 := eq_true q180
                    have p181 : 0 ≤ (x5_1 : Int) := of_decide_eq_true (by first | (with_reducible assumption) | assumption)
                    have q181 : x5_1 < (l0.length : Int) := of_decide_eq_true (by first | (with_reducible assumption) | assumption)
                    obtain ⟨ad181, A181_1, c181_1, e181, hx181_0, hx181_1, hx181_2, hl181_1, hi181_1⟩ := at_T43 HR0.out x5_1 p181 q181
                    obtain rfl : ad179 = ad181 := (by injection e181)
                    have HR181_1 := Aside0.mk hi181_1
                    have HC181_1 := Aside0.mk hl181_1
                    clear hi181_1 hl181_1
                    replace p181 := eq_true p181
                    replace q181 := eq_true q181
                    have ea_ := Option.some.inj (hx179_1.symm.trans hx181_1)
                    injection ea_ with ea_ en_ ec_
                    subst ea_
                    subst ec_
                    clear en_
                    have p182 : 0 ≤ (x5_1 : Int) := of_decide_eq_true (by first | (with_reducible assumption) | assumption)
                    have q182 : x5_1 < (l1.length : Int) := of_decide_eq_true (by first | (with_reducible assumption) | assumption)
                    obtain ⟨ad182, A182_1, c182_1, e182, hx182_0, hx182_1, hx182_2, hl182_1, hi182_1⟩ := at_T27 HR1.out x5_1 p182 q182
                    obtain rfl : ad180 = ad182 := (by injection e182)
                    have HR182_1 := Aside0.mk hi182_1
                    have HC182_1 := Aside0.mk hl182_1
                    clear hi182_1 hl182_1
                    replace p182 := eq_true p182
                    replace q182 := eq_true q182
                    have ea_ := Option.some.inj (hx180_1.symm.trans hx182_1)
                    injection ea_ with ea_ en_ ec_
                    subst ea_
                    subst ec_
                    clear en_
                    have p183 : 0 ≤ (x5_1 : Int) := of_decide_eq_true (by first | (with_reducible assumption) | assumption)
                    have q183 : x5_1 < (l0.length : Int) := of_decide_eq_true (by first | (with_reducible assumption) | assumption)
                    obtain ⟨ad183, A183_1, c183_1, e183, hx183_0, hx183_1, hx183_2, hl183_1, hi183_1⟩ := at_T43 HR0.out x5_1 p183 q183
                    obtain rfl : ad179 = ad183 := (by injection e183)
                    have HR183_1 := Aside0.mk hi183_1
                    have HC183_1 := Aside0.mk hl183_1
                    clear hi183_1 hl183_1
                    replace p183 := eq_true p183
                    replace q183 := eq_true q183
                    have ea_ := Option.some.inj (hx179_1.symm.trans hx183_1)
                    injection ea_ with ea_ en_ ec_
                    subst ea_
                    subst ec_
                    clear en_
                    have p184 : 0 ≤ (x5_1 : Int) := of_decide_eq_true (by first | (with_reducible assumption) | assumption)
                    have q184 : x5_1 < (l1.length : Int) := of_decide_eq_true (by first | (with_reducible assumption) | assumption)
                    obtain ⟨ad184, A184_1, c184_1, e184, hx184_0, hx184_1, hx184_2, hl184_1, hi184_1⟩ := at_T27 HR1.out x5_1 p184 q184
                    obtain rfl : ad180 = ad184 := (by injection e184)
                    have HR184_1 := Aside0.mk hi184_1
                    have HC184_1 := Aside0.mk hl184_1
                    clear hi184_1 hl184_1
                    replace p184 := eq_true p184
                    replace q184 := eq_true q184
                    have ea_ := Option.some.inj (hx180_1.symm.trans hx184_1)
                    injection ea_ with ea_ en_ ec_
                    subst ea_
                    subst ec_
                    clear en_
                    go_wp2
                    repeat (go_quiet (fail); try go_wp2)
                    go_meet
                    case rel => exact ⟨_, (((((rd_T43 l0 x5_1).f1).length : Int) != (((rd_T27 l1 x5_1).f1).length : Int))), (by first | rfl | (simp; done) | (simp [*]; done)), H', ⟨by have := HK1.out; first | omega | exact Nat.le_refl _⟩, by repeat (first | exact Drawn0.refl _ | apply Drawn0.step)⟩
                  · rw [if_neg c9] at H
                    have c9b0 : (((rd_T43 l0 x5_1).f2) == ((rd_T27 l1 x5_1).f2)) = false := beq_eq_false_iff_ne.mpr c9
                    have c9b1 : (((rd_T43 l0 x5_1).f2) != ((rd_T27 l1 x5_1).f2)) = true := bne_iff_ne.mpr c9
                    have H' := Aside0.mk H
                    clear H
                    have p179 : 0 ≤ (x5_1 : Int) := of_decide_eq_true (by first | (with_reducible assumption) | assumption)
                    have q179 : x5_1 < (l0.length : Int) := of_decide_eq_true (by first | (with_reducible assumption) | assumption)
                    obtain ⟨ad179, A179_1, c179_1, e179, hx179_0, hx179_1, hx179_2, hl179_1, hi179_1⟩ := at_T43 HR0.out x5_1 p179 q179
                    cases e179
                    have HR179_1 := Aside0.mk hi179_1
                    have HC179_1 := Aside0.mk hl179_1
                    clear hi179_1 hl179_1
                    replace p179 := eq_true p179
                    replace q179 := eq_true q179
                    have p180 : 0 ≤ (x5_1 : Int) := of_decide_eq_true (by first | (with_reducible assumption) | assumption)
                    have q180 : x5_1 < (l1.length : Int) := of_decide_eq_true (by first | (with_reducible assumption) | assumption)
                    obtain ⟨ad180, A180_1, c180_1, e180, hx180_0, hx180_1, hx180_2, hl180_1, hi180_1⟩ := at_T27 HR1.out x5_1 p180 q180
                    cases e180
                    have HR180_1 := Aside0.mk hi180_1
                    have HC180_1 := Aside0.mk hl180_1
                    clear hi180_1 hl180_1
                    replace p180 := eq_true p180
                    replace q180 := eq_true q180
                    have p181 : 0 ≤ (x5_1 : Int) := of_decide_eq_true (by first | (with_reducible assumption) | assumption)
                    have q181 : x5_1 < (l0.length : Int) := of_decide_eq_true (by first | (with_reducible assumption) | assumption)
                    obtain ⟨ad181, A181_1, c181_1, e181, hx181_0, hx181_1, hx181_2, hl181_1, hi181_1⟩ := at_T43 HR0.out x5_1 p181 q181
                    obtain rfl : ad179 = ad181 := (by injection e181)
                    have HR181_1 := Aside0.mk hi181_1
                    have HC181_1 := Aside0.mk hl181_1
                    clear hi181_1 hl181_1
                    replace p181 := eq_true p181
                    replace q181 := eq_true q181
                    have ea_ := Option.some.inj (hx179_1.symm.trans hx181_1)
                    injection ea_ with ea_ en_ ec_
                    subst ea_
                    subst ec_
                    clear en_
                    have p182 : 0 ≤ (x5_1 : Int) := of_decide_eq_true (by first | (with_reducible assumption) | assumption)
                    have q182 : x5_1 < (l1.length : Int) := of_decide_eq_true (by first | (with_reducible assumption) | assumption)
                    obtain ⟨ad182, A182_1, c182_1, e182, hx182_0, hx182_1, hx182_2, hl182_1, hi182_1⟩ := at_T27 HR1.out x5_1 p182 q182
                    obtain rfl : ad180 = ad182 := (by injection e182)
                    have HR182_1 := Aside0.mk hi182_1
                    have HC182_1 := Aside0.mk hl182_1
                    clear hi182_1 hl182_1
                    replace p182 := eq_true p182
                    replace q182 := eq_true q182
                    have ea_ := Option.some.inj (hx180_1.symm.trans hx182_1)
                    injection ea_ with ea_ en_ ec_
                    subst ea_
                    subst ec_
                    clear en_
                    go_wp2
                    repeat (go_quiet (fail); try go_wp2)
                    go_meet
                    case rel => exact ⟨_, (true), (by first | rfl | (simp; done) | (simp [*]; done)), H', ⟨by have := HK1.out; first | omega | exact Nat.le_refl _⟩, by repeat (first | exact Drawn0.refl _ | apply Drawn0.step)⟩
                · rw [if_neg c8] at H
                  have c8b0 : (((rd_T43 l0 x5_1).f0).toList == ((rd_T27 l1 x5_1).f0).toList) = false := beq_eq_false_iff_ne.mpr c8
                  have c8b1 : (((rd_T43 l0 x5_1).f0).toList != ((rd_T27 l1 x5_1).f0).toList) = true := bne_iff_ne.mpr c8
                  have H' := Aside0.mk H
                  clear H
                  have p179 : 0 ≤ (x5_1 : Int) := of_decide_eq_true (by first | (with_reducible assumption) | assumption)
                  have q179 : x5_1 < (l0.length : Int) := of_decide_eq_true (by first | (with_reducible assumption) | assumption)
                  obtain ⟨ad179, A179_1, c179_1, e179, hx179_0, hx179_1, hx179_2, hl179_1, hi179_1⟩ := at_T43 HR0.out x5_1 p179 q179
                  cases e179
                  have HR179_1 := Aside0.mk hi179_1
                  have HC179_1 := Aside0.mk hl179_1
                  clear hi179_1 hl179_1
                  replace p179 := eq_true p179
                  replace q179 := eq_true q179
                  have p180 : 0 ≤ (x5_1 : Int) := of_decide_eq_true (by first | (with_reducible assumption) | assumption)
                  have q180 : x5_1 < (l1.length : Int) := of_decide_eq_true (by first | (with_reducible assumption) | assumption)
                  obtain ⟨ad180, A180_1, c180_1, e180, hx180_0, hx180_1, hx180_2, hl180_1, hi180_1⟩ := at_T27 HR1.out x5_1 p180 q180
                  cases e180
                  have HR180_1 := Aside0.mk hi180_1
                  have HC180_1 := Aside0.mk hl180_1
                  clear hi180_1 hl180_1
                  replace p180 := eq_true p180
                  replace q180 := eq_true q180
                  go_wp2
                  repeat (go_quiet (fail); try go_wp2)
                  go_meet
                  case rel => exact ⟨_, (true), (by first | rfl | (simp; done) | (simp [*]; done)), H', ⟨by have := HK1.out; first | omega | exact Nat.le_refl _⟩, by repeat (first | exact Drawn0.refl _ | apply Drawn0.step)⟩
              · rw [if_neg c7] at H
                exact absurd H (by simp)
            · rw [if_neg c6] at H
              exact absurd H (by simp)
          case rest =>
            clear HC5
            try clear c1
            try clear p1
            try clear q1
            try clear hx1
            try clear p2
            try clear c3
            try clear c3b0
            try clear c3b1
            try clear c3b2
            try clear c4
            try clear c4b0
            try clear c6
            try clear c6b0
            try clear c7
            try clear c7b0
            try clear c8
            try clear c8b0
            try clear c8b1
            try clear c9
            try clear c9b0
            try clear c9b1
            try clear hx179_0
            try clear hx179_1
            try clear hx179_2
            try clear hx180_0
            try clear hx180_1
            try clear hx180_2
            try clear hx181_0
            try clear hx181_1
            try clear hx181_2
            try clear hx182_0
            try clear hx182_1
            try clear hx182_2
            try clear hx183_0
            try clear hx183_1
            try clear hx183_2
            try clear hx184_0
            try clear hx184_1
            try clear hx184_2
            try clear p179
            try clear p180
            try clear p181
            try clear p182
            try clear p183
            try clear p184
            try clear p2
            try clear q179
            try clear q180
            try clear q181
            try clear q182
            try clear q183
            try clear q184
            obtain ⟨kq, x56_4, rfl, HA, HJ4, ⟨mc4, rfl⟩⟩ := hcut
            cases kq with
            | zero => exact absurd HA.out (by simp [tallyroomlaw36_same.j1])
            | succ kj4 =>
              have H := HA.out
              clear HA
              simp only [tallyroomlaw36_same.j1] at H
              by_cases c10 : x56_4 = true
              · subst c10
                have H1 : (some false) = some r := by rw [if_pos rfl] at H; exact H
                clear H
                have H := H1
                clear H1
                obtain rfl := Option.some.inj H
                go_wp2
                repeat (go_quiet (fail); try go_wp2)
                go_ret
                exact ⟨by first | rfl | (simp; done) | (simp [*]; done), by repeat (first | exact Drawn0.refl _ | apply Drawn0.step)⟩
              · replace c10 := Bool.eq_false_iff.mpr c10
                subst c10
                have H1 : (tallyroomlaw36_same.l1 kj4 l0 l1 x5_1 0) = some r := by rw [if_neg (show ¬ (false = true) by decide)] at H; exact H
                clear H
                have H := H1
                clear H1
                have H' := Aside0.mk H
                clear H
                go_wp2
                repeat (go_quiet (fail); try go_wp2)
                go_loopg [6] kj4 (fun kq v6 w' => ∃ (x6_3 : Int), v6 = .int .i64 x6_3 ∧ Aside0 (tallyroomlaw36_same.l1 kq l0 l1 x5_1 x6_3 = some r) ∧ Aside0 (kq ≤ kj4) ∧ Drawn0 w w')
                case atStart => exact ⟨(0), (by first | rfl | (simp; done) | (simp [*]; done)), H', ⟨Nat.le_refl _⟩, by repeat (first | exact Drawn0.refl _ | apply Drawn0.step)⟩
                case round =>
                  clear H'
                  try clear c1
                  try clear p1
                  try clear q1
                  try clear hx1
                  try clear p2
                  try clear c3
                  try clear c3b0
                  try clear c3b1
                  try clear c3b2
                  try clear c4
                  try clear c4b0
                  try clear c6
                  try clear c6b0
                  try clear c7
                  try clear c7b0
                  try clear c8
                  try clear c8b0
                  try clear c8b1
                  try clear c9
                  try clear c9b0
                  try clear c9b1
                  try clear c10
                  try clear hx179_0
                  try clear hx179_1
                  try clear hx179_2
                  try clear hx180_0
                  try clear hx180_1
                  try clear hx180_2
                  try clear hx181_0
                  try clear hx181_1
                  try clear hx181_2
                  try clear hx182_0
                  try clear hx182_1
                  try clear hx182_2
                  try clear hx183_0
                  try clear hx183_1
                  try clear hx183_2
                  try clear hx184_0
                  try clear hx184_1
                  try clear hx184_2
                  try clear p1
                  try clear p179
                  try clear p180
                  try clear p181
                  try clear p182
                  try clear p183
                  try clear p184
                  try clear p2
                  try clear q1
                  try clear q179
                  try clear q180
                  try clear q181
                  try clear q182
                  try clear q183
                  try clear q184
                  obtain ⟨x6_3, rfl, HA, HK3, ⟨m3, rfl⟩⟩ := hrel
                  cases gk with
                  | zero => exact absurd HA.out (by simp [tallyroomlaw36_same.l1])
                  | succ k3 =>
                    have H := HA.out
                    clear HA
                    simp only [tallyroomlaw36_same.l1] at H
                    by_cases c11 : 0 ≤ x5_1
                    · rw [if_pos c11] at H
                      have c11b0 : decide (0 ≤ x5_1) = true := decide_eq_true c11
                      clear c11
                      by_cases c12 : x5_1 < (l0.length : Int)
                      · rw [if_pos c12] at H
                        have c12b0 : decide (x5_1 < (l0.length : Int)) = true := decide_eq_true c12
                        clear c12
                        by_cases c13 : x6_3 < (((rd_T43 l0 x5_1).f1).length : Int)
                        · rw [if_pos c13] at H
                          have c13b0 : decide (x6_3 < (((rd_T43 l0 x5_1).f1).length : Int)) = true := decide_eq_true c13
                          clear c13
                          by_cases c14 : 0 ≤ x6_3
                          · rw [if_pos c14] at H
                            have c14b0 : decide (0 ≤ x6_3) = true := decide_eq_true c14
                            clear c14
                            by_cases c15 : x5_1 < (l1.length : Int)
                            · rw [if_pos c15] at H
                              have c15b0 : decide (x5_1 < (l1.length : Int)) = true := decide_eq_true c15
                              clear c15
                              by_cases c16 : x6_3 < (((rd_T27 l1 x5_1).f1).length : Int)
                              · rw [if_pos c16] at H
                                have c16b0 : decide (x6_3 < (((rd_T27 l1 x5_1).f1).length : Int)) = true := decide_eq_true c16
                                clear c16
                                by_cases c17 : (!((((rd_T71 ((rd_T43 l0 x5_1).f1) x6_3).f0).toList) == (((rd_T29 ((rd_T27 l1 x5_1).f1) x6_3).f0).toList)) || (!((((rd_T71 ((rd_T43 l0 x5_1).f1) x6_3).f1).toList) == (((rd_T29 ((rd_T27 l1 x5_1).f1) x6_3).f1).toList)))) = true
                                · rw [if_pos c17] at H
                                  have c17b0 : (!((((rd_T71 ((rd_T43 l0 x5_1).f1) x6_3).f0).toList) == (((rd_T29 ((rd_T27 l1 x5_1).f1) x6_3).f0).toList)) || (!((((rd_T71 ((rd_T43 l0 x5_1).f1) x6_3).f1).toList) == (((rd_T29 ((rd_T27 l1 x5_1).f1) x6_3).f1).toList)))) = true := c17
                                  clear c17
                                  obtain rfl := Option.some.inj H
                                  have p185 : 0 ≤ (x5_1 : Int) := of_decide_eq_true (by first | (with_reducible assumption) | assumption)
                                  have q185 : x5_1 < (l0.length : Int) := of_decide_eq_true (by first | (with_reducible assumption) | assumption)
                                  obtain ⟨ad185, A185_1, c185_1, e185, hx185_0, hx185_1, hx185_2, hl185_1, hi185_1⟩ := at_T43 HR0.out x5_1 p185 q185
                                  cases e185
                                  have HR185_1 := Aside0.mk hi185_1
                                  have HC185_1 := Aside0.mk hl185_1
                                  clear hi185_1 hl185_1
                                  replace p185 := eq_true p185
                                  replace q185 := eq_true q185
                                  have p186 : 0 ≤ (x5_1 : Int) := of_decide_eq_true (by first | (with_reducible assumption) | assumption)
                                  have q186 : x5_1 < (l0.length : Int) := of_decide_eq_true (by first | (with_reducible assumption) | assumption)
                                  obtain ⟨ad186, A186_1, c186_1, e186, hx186_0, hx186_1, hx186_2, hl186_1, hi186_1⟩ := at_T43 HR0.out x5_1 p186 q186
                                  obtain rfl : ad185 = ad186 := (by injection e186)
                                  have HR186_1 := Aside0.mk hi186_1
                                  have HC186_1 := Aside0.mk hl186_1
                                  clear hi186_1 hl186_1
                                  replace p186 := eq_true p186
                                  replace q186 := eq_true q186
                                  have ea_ := Option.some.inj (hx185_1.symm.trans hx186_1)
                                  injection ea_ with ea_ en_ ec_
                                  subst ea_
                                  subst ec_
                                  clear en_
                                  have p187 : 0 ≤ (x6_3 : Int) := of_decide_eq_true (by first | (with_reducible assumption) | assumption)
                                  have q187 : x6_3 < (((rd_T43 l0 x5_1).f1).length : Int) := of_decide_eq_true (by first | (with_reducible assumption) | assumption)
                                  obtain ⟨ad187, e187, hx187_0, hx187_1⟩ := at_T71 HR186_1.out x6_3 p187 q187
                                  cases e187
                                  replace p187 := eq_true p187
                                  replace q187 := eq_true q187
                                  have p188 : 0 ≤ (x5_1 : Int) := of_decide_eq_true (by first | (with_reducible assumption) | assumption)
                                  have q188 : x5_1 < (l1.length : Int) := of_decide_eq_true (by first | (with_reducible assumption) | assumption)
                                  obtain ⟨ad188, A188_1, c188_1, e188, hx188_0, hx188_1, hx188_2, hl188_1, hi188_1⟩ := at_T27 HR1.out x5_1 p188 q188
                                  cases e188
                                  have HR188_1 := Aside0.mk hi188_1
                                  have HC188_1 := Aside0.mk hl188_1
                                  clear hi188_1 hl188_1
                                  replace p188 := eq_true p188
                                  replace q188 := eq_true q188
                                  have p189 : 0 ≤ (x6_3 : Int) := of_decide_eq_true (by first | (with_reducible assumption) | assumption)
                                  have q189 : x6_3 < (((rd_T27 l1 x5_1).f1).length : Int) := of_decide_eq_true (by first | (with_reducible assumption) | assumption)
                                  obtain ⟨ad189, e189, hx189_0, hx189_1⟩ := at_T29 HR188_1.out x6_3 p189 q189
                                  cases e189
                                  replace p189 := eq_true p189
                                  replace q189 := eq_true q189
                                  go_wp2
                                  repeat (go_quiet (fail); try go_wp2)
                                  go_ret
                                  exact ⟨by first | rfl | (simp; done) | (simp [*]; done), by repeat (first | exact Drawn0.refl _ | apply Drawn0.step)⟩
                                · rw [if_neg c17] at H
                                  have c17b0 : (!((((rd_T71 ((rd_T43 l0 x5_1).f1) x6_3).f0).toList) == (((rd_T29 ((rd_T27 l1 x5_1).f1) x6_3).f0).toList)) || (!((((rd_T71 ((rd_T43 l0 x5_1).f1) x6_3).f1).toList) == (((rd_T29 ((rd_T27 l1 x5_1).f1) x6_3).f1).toList)))) = false := by simpa using c17
                                  clear c17
                                  have H' := Aside0.mk H
                                  clear H
                                  have p185 : 0 ≤ (x5_1 : Int) := of_decide_eq_true (by first | (with_reducible assumption) | assumption)
                                  have q185 : x5_1 < (l0.length : Int) := of_decide_eq_true (by first | (with_reducible assumption) | assumption)
                                  obtain ⟨ad185, A185_1, c185_1, e185, hx185_0, hx185_1, hx185_2, hl185_1, hi185_1⟩ := at_T43 HR0.out x5_1 p185 q185
                                  cases e185
                                  have HR185_1 := Aside0.mk hi185_1
                                  have HC185_1 := Aside0.mk hl185_1
                                  clear hi185_1 hl185_1
                                  replace p185 := eq_true p185
                                  replace q185 := eq_true q185
                                  have p186 : 0 ≤ (x5_1 : Int) := of_decide_eq_true (by first | (with_reducible assumption) | assumption)
                                  have q186 : x5_1 < (l0.length : Int) := of_decide_eq_true (by first | (with_reducible assumption) | assumption)
                                  obtain ⟨ad186, A186_1, c186_1, e186, hx186_0, hx186_1, hx186_2, hl186_1, hi186_1⟩ := at_T43 HR0.out x5_1 p186 q186
                                  obtain rfl : ad185 = ad186 := (by injection e186)
                                  have HR186_1 := Aside0.mk hi186_1
                                  have HC186_1 := Aside0.mk hl186_1
                                  clear hi186_1 hl186_1
                                  replace p186 := eq_true p186
                                  replace q186 := eq_true q186
                                  have ea_ := Option.some.inj (hx185_1.symm.trans hx186_1)
                                  injection ea_ with ea_ en_ ec_
                                  subst ea_
                                  subst ec_
                                  clear en_
                                  have p187 : 0 ≤ (x6_3 : Int) := of_decide_eq_true (by first | (with_reducible assumption) | assumption)
                                  have q187 : x6_3 < (((rd_T43 l0 x5_1).f1).length : Int) := of_decide_eq_true (by first | (with_reducible assumption) | assumption)
                                  obtain ⟨ad187, e187, hx187_0, hx187_1⟩ := at_T71 HR186_1.out x6_3 p187 q187
                                  cases e187
                                  replace p187 := eq_true p187
                                  replace q187 := eq_true q187
                                  have p188 : 0 ≤ (x5_1 : Int) := of_decide_eq_true (by first | (with_reducible assumption) | assumption)
                                  have q188 : x5_1 < (l1.length : Int) := of_decide_eq_true (by first | (with_reducible assumption) | assumption)
                                  obtain ⟨ad188, A188_1, c188_1, e188, hx188_0, hx188_1, hx188_2, hl188_1, hi188_1⟩ := at_T27 HR1.out x5_1 p188 q188
                                  cases e188
                                  have HR188_1 := Aside0.mk hi188_1
                                  have HC188_1 := Aside0.mk hl188_1
                                  clear hi188_1 hl188_1
                                  replace p188 := eq_true p188
                                  replace q188 := eq_true q188
                                  have p189 : 0 ≤ (x6_3 : Int) := of_decide_eq_true (by first | (with_reducible assumption) | assumption)
                                  have q189 : x6_3 < (((rd_T27 l1 x5_1).f1).length : Int) := of_decide_eq_true (by first | (with_reducible assumption) | assumption)
                                  obtain ⟨ad189, e189, hx189_0, hx189_1⟩ := at_T29 HR188_1.out x6_3 p189 q189
                                  cases e189
                                  replace p189 := eq_true p189
                                  replace q189 := eq_true q189
                                  go_wp2
                                  repeat (go_quiet (fail); try go_wp2)
                                  go_roundg k3
                                  case measure => have := HK1.out; have := HJ4.out; have := HK3.out; omega
                                  case rel => exact ⟨(wrap64 (x6_3 + 1)), (by first | rfl | (simp; done) | (simp [*]; done)), H', ⟨by have := HK1.out; have := HJ4.out; have := HK3.out; omega⟩, by repeat (first | exact Drawn0.refl _ | apply Drawn0.step)⟩
                              · rw [if_neg c16] at H
                                exact absurd H (by simp)
                            · rw [if_neg c15] at H
                              exact absurd H (by simp)
                          · rw [if_neg c14] at H
                            exact absurd H (by simp)
                        · rw [if_neg c13] at H
                          have c13b0 : decide (x6_3 < (((rd_T43 l0 x5_1).f1).length : Int)) = false := decide_eq_false c13
                          clear c13
                          have H' := Aside0.mk H
                          clear H
                          have p185 : 0 ≤ (x5_1 : Int) := of_decide_eq_true (by first | (with_reducible assumption) | assumption)
                          have q185 : x5_1 < (l0.length : Int) := of_decide_eq_true (by first | (with_reducible assumption) | assumption)
                          obtain ⟨ad185, A185_1, c185_1, e185, hx185_0, hx185_1, hx185_2, hl185_1, hi185_1⟩ := at_T43 HR0.out x5_1 p185 q185
                          cases e185
                          have HR185_1 := Aside0.mk hi185_1
                          have HC185_1 := Aside0.mk hl185_1
                          clear hi185_1 hl185_1
                          replace p185 := eq_true p185
                          replace q185 := eq_true q185
                          go_wp2
                          repeat (go_quiet (fail); try go_wp2)
                          go_roundg k3
                          case measure => have := HK1.out; have := HJ4.out; have := HK3.out; omega
                          case rel => exact ⟨(wrap64 (x5_1 + 1)), (by first | rfl | (simp; done) | (simp [*]; done)), H', ⟨by have := HK1.out; have := HJ4.out; have := HK3.out; omega⟩, by repeat (first | exact Drawn0.refl _ | apply Drawn0.step)⟩
                      · rw [if_neg c12] at H
                        exact absurd H (by simp)
                    · rw [if_neg c11] at H
                      exact absurd H (by simp)
        · rw [if_neg c4] at H
          have c4b0 : decide (x5_1 < (l0.length : Int)) = false := decide_eq_false c4
          clear c4
          obtain rfl := Option.some.inj H
          go_wp2
          repeat (go_quiet (fail); try go_wp2)
          go_ret
          exact ⟨by first | rfl | (simp; done) | (simp [*]; done), by repeat (first | exact Drawn0.refl _ | apply Drawn0.step)⟩
  · rw [if_neg c3] at H
    have c3b0 : ((l0.length : Int) == (l1.length : Int)) = false := beq_eq_false_iff_ne.mpr c3
    have c3b1 : ((l0.length : Int) != (l1.length : Int)) = true := bne_iff_ne.mpr c3
    have c3b2 : (l0.length == l1.length) = false := by first | simpa using c3 | (simp at c3 ⊢; omega)
    obtain rfl := Option.some.inj H
    go_enter Tryd.func13, Tryd.ntmps13
    go_wp2
    repeat (go_quiet (fail); try go_wp2)
    go_ret
    exact ⟨by first | rfl | (simp; done) | (simp [*]; done), by repeat (first | exact Drawn0.refl _ | apply Drawn0.step)⟩


end Go.Proofs.YtdbmcikoiilanaaDoor.Pp
set_option linter.unusedVariables false
set_option linter.unusedSimpArgs false
namespace Go.Proofs.YtdbmcikoiilanaaDoor.Xp
open Go.RowKit Go.Proofs.YtdbmcikoiilanaaDoor.B0 Go.Proofs.YtdbmcikoiilanaaDoorW.PrintWords Go.Proofs.YtdbmcikoiilanaaDoor.Bld Go.Proofs.YtdbmcikoiilanaaDoor.Pp

def B (l : BL) : ByteArray := ⟨l.toArray⟩
theorem B_app (a b : BL) : B a ++ B b = B (a ++ b) := by apply ByteArray.ext; simp [B]
theorem B_size (a : BL) : (B a).size = a.length := rfl
theorem B_of (s : ByteArray) : B s.data.toList = s := rfl
theorem B_ext (s : ByteArray) (i : Nat) (h : i < s.size) : s.extract i (i + 1) = B [s[i]'h] := by
  apply ByteArray.ext
  apply Array.ext
  · simp [B]; show min (i + 1) s.size - i = 1; omega
  · intro j h1 h2
    have hj : j = 0 := by simp [B] at h2; omega
    subst hj
    simp [B]
    rfl
theorem dig_any (n : Nat) (h : n < 18446744073709551616) : ∀ j, tallyroomref22_Digits.f (20 + j) n = some (B (Lib.decDigits n))
  | 0 => dig_f n h
  | j + 1 => by
    have h1 := dig_any n h j
    unfold tallyroomref22_Digits.f at h1 ⊢
    exact tallyroomref22_Digits.mono_l (20 + j) _ _ _ h1
theorem byte_eq (c : UInt8) (n : Nat) (h : n < 256) : ((c.toNat : Int) = (n : Int)) ↔ c = UInt8.ofNat n := by
  constructor
  · intro e
    have e1 : c.toNat = n := by omega
    rw [← e1]; exact (UInt8.ofNat_toNat).symm
  · rintro rfl
    rw [UInt8.toNat_ofNat', Nat.mod_eq_of_lt h]
theorem esc_a (c : UInt8) (h : c = 34 ∨ c = 92) : esc c = [92, c] := by unfold esc; rw [if_pos h.symm]
theorem esc_b : esc 10 = [92, 110] := by decide
theorem esc_c (c : UInt8) (h : c ≠ 34) (h2 : c ≠ 92) (h3 : c ≠ 10) : esc c = [c] := by unfold esc; rw [if_neg (by simp [h, h2]), if_neg h3]

theorem txt_l (x0 : List RLin) (p3 : BL) (x4 : Int) (x6 : Nat) (x7 : ByteArray) (hs : x7.size ≤ 1000000) (h6 : x6 ≤ 1000000) : ∀ (m i k : Nat) (p5 : BL), i + m = x7.size → p5.length + 2 * m ≤ 100000000 →
    tallyroomref36_Print.l2 (k + 2 * m + 1) x0 (B p3) x4 (B p5) x6 x7 i = tallyroomref36_Print.l1 k x0 (B p3) x4 (B (p5 ++ ((x7.data.toList.drop i).flatMap esc ++ [34]))) ((x6 + 1 : Nat) : Int)
  | 0, i, k, p5, h, hp => by
    have hd : x7.data.toList.drop i = [] := List.drop_of_length_le (by show x7.size ≤ i; omega)
    rw [show k + 2 * 0 + 1 = k + 1 from rfl, tallyroomref36_Print.l2, if_neg (by omega), B_size, if_pos (by omega), hd, show (⟨#[34]⟩ : ByteArray) = B [34] from rfl, B_app, List.flatMap_nil, List.nil_append,
      show Go.RowKit.wrap64 ((x6 : Int) + 1) = ((x6 + 1 : Nat) : Int) from by rw [wrap64_small _ (by omega) (by omega)]; omega]
  | m + 1, i, k, p5, h, hp => by
    have hlt : i < x7.size := by omega
    obtain ⟨c, hc⟩ : ∃ c, x7[i]'hlt = c := ⟨_, rfl⟩
    have hbt : bt x7 i = (c.toNat : Int) := by
      have := bt_at x7 (i : Int) (by omega)
      rw [← hc, ← this]; congr 2
    have hd : x7.data.toList.drop i = c :: x7.data.toList.drop (i + 1) := by
      rw [List.drop_eq_getElem_cons (show i < x7.data.toList.length from hlt), ← hc]; rfl
    have ew : Go.RowKit.wrap64 ((i : Int) + 1) = ((i + 1 : Nat) : Int) := by rw [wrap64_small _ (by omega) (by omega)]; omega
    have ex : x7.extract ((i : Int).toNat) (((i + 1 : Nat) : Int).toNat) = B [c] := by
      rw [show ((i : Int)).toNat = i from by omega, show (((i + 1 : Nat) : Int)).toNat = i + 1 from by omega, B_ext x7 i hlt, hc]
    have h34 := byte_eq c 34 (by decide)
    have h92 := byte_eq c 92 (by decide)
    have h10 := byte_eq c 10 (by decide)
    have ih := fun (p : BL) (hp' : p.length + 2 * m ≤ 100000000) => txt_l x0 p3 x4 x6 x7 hs h6 m (i + 1) k p (by omega) hp'
    rw [show k + 2 * (m + 1) + 1 = (k + 2 * m + 1) + 1 + 1 from by omega, tallyroomref36_Print.l2, if_pos (by omega), if_pos (by omega), hbt, hd, List.flatMap_cons]
    by_cases e1 : c = 34 ∨ c = 92
    · have hq : (if (c.toNat : Int) = 34 then tallyroomref36_Print.j4 (k + 2 * m + 1 + 1) x0 (B p3) x4 (B p5) x6 x7 i c.toNat ((c.toNat : Int) == 34) else tallyroomref36_Print.j4 (k + 2 * m + 1 + 1) x0 (B p3) x4 (B p5) x6 x7 i c.toNat ((c.toNat : Int) == 92)) =
          tallyroomref36_Print.j4 (k + 2 * m + 1 + 1) x0 (B p3) x4 (B p5) x6 x7 i c.toNat true := by
        rcases e1 with e | e
        · have e' : (c.toNat : Int) = 34 := h34.2 e
          rw [if_pos e', e']; rfl
        · have e' : (c.toNat : Int) = 92 := h92.2 e
          rw [if_neg (by omega), e']; rfl
      rw [hq, tallyroomref36_Print.j4, if_pos rfl, B_size, if_pos (by omega), if_pos (by omega), ew, if_pos (by omega), if_pos (by omega), ex, show (⟨#[92]⟩ : ByteArray) = B [92] from rfl, B_app, B_size, B_size, if_pos (by simp only [List.length_append, List.length_cons, List.length_nil]; omega), B_app,
        ih _ (by simp only [List.length_append, List.length_cons, List.length_nil]; omega), esc_a c e1]
      simp only [List.append_assoc, List.cons_append, List.nil_append]
    · have n1 : c ≠ 34 := fun e => e1 (.inl e)
      have n2 : c ≠ 92 := fun e => e1 (.inr e)
      have i1 : ¬ (c.toNat : Int) = 34 := fun e => n1 (h34.1 e)
      have i2 : ((c.toNat : Int) == 92) = false := by rw [beq_eq_false_iff_ne]; exact fun e => n2 (h92.1 e)
      rw [if_neg i1, i2, tallyroomref36_Print.j4, if_neg (by simp)]
      by_cases e2 : c = 10
      · have i3 : (c.toNat : Int) = 10 := h10.2 e2
        rw [if_pos i3, B_size, if_pos (by omega), ew, show (⟨#[92, 110]⟩ : ByteArray) = B [92, 110] from rfl, B_app, ih _ (by simp only [List.length_append, List.length_cons, List.length_nil]; omega), e2, esc_b]
        simp only [List.append_assoc, List.cons_append, List.nil_append]
      · have i3 : ¬ (c.toNat : Int) = 10 := fun e => e2 (h10.1 e)
        rw [if_neg i3, if_pos (by omega), ew, if_pos (by omega), if_pos (by omega), ex, B_size, B_size, if_pos (by simp only [List.length_cons, List.length_nil]; omega), B_app, ih _ (by simp only [List.length_append, List.length_cons, List.length_nil]; omega), esc_c c n1 n2 e2]
        simp only [List.append_assoc, List.cons_append, List.nil_append]

def cl (y : RLab) : Nat := 2 * y.f1.size + 3
def cx (x : RLin) : Nat := (x.f1.map cl).sum + 2
def lbR (y : RLab) : Lb := lbM (cvB y)
def restL (j : Nat) (ls : List RLab) : BL := if j = 0 then labsL (ls.map lbR) else ((ls.drop j).map lbR).flatMap fun y => 44 :: labL y
theorem restL_step (j : Nat) (ls : List RLab) (y : RLab) (h : j < ls.length) (e : ls[j] = y) : restL j ls = (if j = 0 then [] else [44]) ++ (y.f0.data.toList ++ 61 :: 34 :: (y.f1.data.toList.flatMap esc ++ [34])) ++ restL (j + 1) ls := by
  have hd : ls.drop j = y :: ls.drop (j + 1) := by rw [List.drop_eq_getElem_cons h, e]
  unfold restL
  rw [if_neg (Nat.succ_ne_zero j)]
  by_cases h0 : j = 0
  · subst h0
    rw [if_pos rfl, if_pos rfl]
    rw [List.drop_zero] at hd
    rw [hd]
    simp [labsL, labL, lbR, lbM, cvB, quoteL]
  · rw [if_neg h0, if_neg h0, hd]
    simp [labL, lbR, lbM, cvB, quoteL]
theorem restL_end (ls : List RLab) : restL ls.length ls = [] := by
  unfold restL
  by_cases h0 : ls.length = 0
  · rw [if_pos h0, List.eq_nil_of_length_eq_zero h0]; rfl
  · rw [if_neg h0, List.drop_of_length_le (Nat.le_refl _)]; rfl

theorem lab_q (x0 : List RLin) (i : Nat) (x : RLin) (hi : i < x0.length) (hx : x0[i] = x) (h0 : x0.length ≤ 1000000) (hl : x.f1.length ≤ 1000) (hs : ∀ y ∈ x.f1, y.f0.size + y.f1.size ≤ 1000) (hv : 0 ≤ x.f2 ∧ x.f2 ≤ 18446744073709551615) (p3 : BL) (hp3 : p3.length ≤ 10000000) (k : Nat) (hk : 20 ≤ k) :
    ∀ (m j : Nat) (p5 : BL), j + m = x.f1.length → p5.length + (restL j x.f1).length ≤ 10000000 →
    tallyroomref36_Print.l1 (k + ((x.f1.drop j).map cl).sum + 1) x0 (B p3) i (B p5) j = tallyroomref36_Print.l0 k x0 (B (p3 ++ (p5 ++ restL j x.f1 ++ 125 :: 32 :: (Lib.decDigits x.f2.toNat ++ [10])))) ((i + 1 : Nat) : Int)
  | 0, j, p5, h, hp => by
    have hj : j = x.f1.length := by omega
    subst hj
    have hd := dig_any x.f2.toNat (by omega) (k - 20)
    rw [show 20 + (k - 20) = k from by omega, show ((x.f2.toNat : Nat) : Int) = x.f2 from by omega] at hd
    have hdl := dec_len20 x.f2.toNat (by omega)
    rw [restL_end] at hp ⊢
    rw [List.drop_of_length_le (Nat.le_refl _), List.map_nil, List.sum_nil, Nat.add_zero k, tallyroomref36_Print.l1, rdL_at x0 i hi, hx, if_pos (by omega), if_pos (by omega), if_neg (by omega), B_size, B_size, if_pos (by omega), B_app, B_size, if_pos (by simp only [List.length_append]; simp at hp; omega),
      hd, Option.bind_some, show (⟨#[125, 32]⟩ : ByteArray) = B [125, 32] from rfl, show (⟨#[10]⟩ : ByteArray) = B [10] from rfl, B_app, B_app, B_app, B_size, B_size, B_size, if_pos (by simp only [List.length_append, List.length_cons, List.length_nil]; simp at hp; omega), if_pos (by simp only [List.length_append, List.length_cons, List.length_nil]; simp at hp; omega),
      show Go.RowKit.wrap64 ((i : Int) + 1) = ((i + 1 : Nat) : Int) from by rw [wrap64_small _ (by omega) (by omega)]; omega]
    congr 2
    simp only [List.append_assoc, List.cons_append, List.nil_append, List.append_nil]
  | m + 1, j, p5, h, hp => by
    have hj : j < x.f1.length := by omega
    obtain ⟨y, hy⟩ : ∃ y, x.f1[j] = y := ⟨_, rfl⟩
    have hys := hs y (by rw [← hy]; exact List.getElem_mem hj)
    have hd : x.f1.drop j = y :: x.f1.drop (j + 1) := by rw [List.drop_eq_getElem_cons hj, hy]
    have hst := restL_step j x.f1 y hj hy
    have hkl : y.f0.data.toList.length = y.f0.size := rfl
    have hlen : p5.length + (if j = 0 then ([] : BL) else [44]).length + y.f0.size + (y.f1.data.toList.flatMap esc).length + 3 + (restL (j + 1) x.f1).length ≤ 10000000 := by
      rw [hst] at hp
      simp only [List.length_append, List.length_cons, List.length_nil, hkl] at hp
      omega
    have hq : tallyroomref36_Print.l1 (k + ((x.f1.drop j).map cl).sum + 1) x0 (B p3) i (B p5) j = tallyroomref36_Print.j2 (k + ((x.f1.drop j).map cl).sum) x0 (B p3) i (B (p5 ++ (if j = 0 then [] else [44]))) j := by
      rw [tallyroomref36_Print.l1, rdL_at x0 i hi, hx, if_pos (by omega), if_pos (by omega), if_pos (by omega)]
      by_cases h0 : j = 0
      · rw [if_neg (by omega), if_pos h0, List.append_nil]
      · rw [if_pos (by omega), if_neg h0, B_size, if_pos (by omega), show (⟨#[44]⟩ : ByteArray) = B [44] from rfl, B_app]
    have hfu : k + ((x.f1.drop j).map cl).sum = ((k + ((x.f1.drop (j + 1)).map cl).sum + 1) + 2 * y.f1.size + 1) + 1 := by
      rw [hd, List.map_cons, List.sum_cons]
      unfold cl; omega
    rw [hq, hfu, tallyroomref36_Print.j2, rdL_at x0 i hi, hx, rdB_at x.f1 j hj, hy, if_pos (by omega), if_pos (by omega), if_pos (by omega), if_pos (by omega), ← B_of y.f0, B_app, B_size, B_size, if_pos (by simp only [List.length_append]; omega), B_size, if_pos (by simp only [List.length_append]; omega),
      show (⟨#[61, 34]⟩ : ByteArray) = B [61, 34] from rfl, B_app]
    have ht := txt_l x0 p3 i j y.f1 (by omega) (by omega) y.f1.size 0 (k + ((x.f1.drop (j + 1)).map cl).sum + 1) (p5 ++ (if j = 0 then [] else [44]) ++ y.f0.data.toList ++ [61, 34]) (by omega) (by simp only [List.length_append, List.length_cons, List.length_nil]; omega)
    rw [show ((0 : Nat) : Int) = 0 from rfl, List.drop_zero] at ht
    rw [ht, lab_q x0 i x hi hx h0 hl hs hv p3 hp3 k hk m (j + 1) _ (by omega) (by simp only [List.length_append, List.length_cons, List.length_nil]; omega), hst]
    congr 2
    simp only [List.append_assoc, List.cons_append, List.nil_append, List.append_nil]

def lnR (x : RLin) : Ln := lnM (cvL x)
theorem right_R (x : RLin) : rightL (lnR x) = (keyL x.f0.data.toList && x.f1.all fun y => keyL y.f0.data.toList) := by
  unfold lnR
  rw [right_model]
  show (keyL x.f0.data.toList && (x.f1.map cvB).all fun y => keyL y.f0.data.toList) = _
  rw [List.all_map]; rfl
theorem printP_cons (x : Ln) (l : List Ln) : printP (x :: l) = (if rightL x = true then lineP x else []) ++ printP l := by
  unfold printP
  by_cases h : rightL x = true
  · rw [List.filter_cons_of_pos h, if_pos h, List.flatMap_cons]
  · rw [List.filter_cons_of_neg h, if_neg h, List.nil_append]
theorem print_l (x0 : List RLin) (hg : ∀ x ∈ x0, goodX x) (hu : u64L x0) (h0 : x0.length ≤ 1000000) : ∀ (m i k : Nat) (p3 : BL), i + m = x0.length → 1200 ≤ k → p3.length + m * 31000 ≤ 5000000 →
    tallyroomref36_Print.l0 (k + ((x0.drop i).map cx).sum + 1) x0 (B p3) i = some (B (p3 ++ printP ((x0.drop i).map lnR)))
  | 0, i, k, p3, h, hk, hp => by
    have hd : x0.drop i = [] := List.drop_of_length_le (by omega)
    rw [tallyroomref36_Print.l0, if_neg (by omega), hd]
    simp [printP]
  | m + 1, i, k, p3, h, hk, hp => by
    have hi : i < x0.length := by omega
    obtain ⟨x, hx⟩ : ∃ x, x0[i] = x := ⟨_, rfl⟩
    have hm : x ∈ x0 := by rw [← hx]; exact List.getElem_mem hi
    have hgx := hg x hm
    have hv := hu x hm
    have hd : x0.drop i = x :: x0.drop (i + 1) := by rw [List.drop_eq_getElem_cons hi, hx]
    have hlb := line_bound x hgx hv
    have hK : k + ((x0.drop i).map cx).sum = (k + ((x0.drop (i + 1)).map cx).sum + 1) + (x.f1.map cl).sum + 1 := by
      rw [hd, List.map_cons, List.sum_cons]; unfold cx; omega
    obtain ⟨K, hKK⟩ : ∃ K, k + ((x0.drop (i + 1)).map cx).sum + 1 = K := ⟨_, rfl⟩
    have hrr : tallyroomref36_Right.f (K + (x.f1.map cl).sum + 1) x.f0 x.f1 x.f2 = some (rightL (lnR x)) := by
      rw [right_R]
      unfold tallyroomref36_Right.f
      have h1 := hgx.1; have h2 := hgx.2.1
      have h3 : ∀ y ∈ x.f1, y.f0.size ≤ 1000 := fun y hy => by have := hgx.2.2 y hy; omega
      rw [key_f x.f0 (by omega) _ (by omega), Option.bind_some]
      exact rright_l x.f0 x.f2 x.f1 (by omega) h3 x.f1.length _ 0 _ (Nat.zero_le _) (by omega) (by omega)
    rw [hK, hKK, tallyroomref36_Print.l0, rdL_at x0 i hi, hx, if_pos (by omega), if_pos (by omega), hrr, Option.bind_some, hd, List.map_cons, printP_cons]
    by_cases hr : rightL (lnR x) = true
    · have h2 := hgx.2.1
      have hz : lnR x = lnM (cvL x) := rfl
      have e1 : lineP (lnR x) = x.f0.data.toList ++ [123] ++ restL 0 x.f1 ++ 125 :: 32 :: (Lib.decDigits x.f2.toNat ++ [10]) := by
        show x.f0.data.toList ++ 123 :: (labsL ((x.f1.map cvB).map lbM) ++ _) = _
        have : (x.f1.map cvB).map lbM = x.f1.map lbR := by rw [List.map_map]; rfl
        rw [this]
        unfold restL
        rw [if_pos rfl]
        simp only [List.append_assoc, List.cons_append, List.nil_append]
        rfl
      have hlen : (x.f0.data.toList ++ [123]).length + (restL 0 x.f1).length ≤ 31000 := by
        have h5 := hlb
        rw [← hz, e1] at h5
        simp only [List.length_append] at h5 ⊢
        omega
      rw [if_pos hr, if_pos (by omega), if_pos hr, ← B_of x.f0, show (⟨#[123]⟩ : ByteArray) = B [123] from rfl, B_app]
      have hq := lab_q x0 i x hi hx h0 (by have := hgx.1; omega) (fun y hy => by have := hgx.2.2 y hy; omega) hv p3 (by omega) K (by omega) x.f1.length 0 (x.f0.data.toList ++ [123]) (by omega) (by omega)
      rw [List.drop_zero, show ((0 : Nat) : Int) = 0 from rfl] at hq
      rw [hq, ← hKK, print_l x0 hg hu h0 m (i + 1) k _ (by omega) hk (by
        have h5 := hlb
        rw [← hz, e1] at h5
        simp only [List.length_append, Nat.succ_mul] at h5 hp ⊢
        omega), e1]
      congr 2
      simp only [List.append_assoc]
    · have hp2 : p3.length + m * 31000 ≤ 5000000 := Nat.le_trans (Nat.add_le_add_left (Nat.mul_le_mul_right _ (Nat.le_succ m)) _) hp
      have hk2 : 1200 ≤ k + 1 + (x.f1.map cl).sum := Nat.le_trans hk (Nat.le_trans (Nat.le_succ k) (Nat.le_add_right _ _))
      rw [if_neg hr, if_neg hr, List.nil_append, show Go.RowKit.wrap64 ((i : Int) + 1) = ((i + 1 : Nat) : Int) from by rw [wrap64_small _ (by omega) (by omega)]; omega,
        show K + (x.f1.map cl).sum + 1 = (k + 1 + (x.f1.map cl).sum) + ((x0.drop (i + 1)).map cx).sum + 1 from by omega,
        print_l x0 hg hu h0 m (i + 1) (k + 1 + (x.f1.map cl).sum) p3 (by omega) hk2 hp2]
theorem print_f (l : List RLin) (hg : ∀ x ∈ l, goodX x) (hu : u64L l) (hl : l.length ≤ 100) (k : Nat) (hk : 1200 ≤ k) : tallyroomref36_Print.f (k + (l.map cx).sum + 1) l = some (B (printP (l.map lnR))) := by
  unfold tallyroomref36_Print.f
  have h := print_l l hg hu (by omega) l.length 0 k [] (by omega) hk (by rw [List.length_nil]; omega)
  rw [show ((0 : Nat) : Int) = 0 from rfl, List.drop_zero, List.nil_append] at h
  exact h

theorem rdS_at (xs : List SLin) (i : Nat) (h : i < xs.length) : rd_T43 xs (i : Int) = xs[i] := by
  unfold rd_T43; rw [show ((i : Int)).toNat = i from by omega, List.getD_eq_getElem?_getD, List.getElem?_eq_getElem h]; rfl
theorem rdSB_at (xs : List SLab) (i : Nat) (h : i < xs.length) : rd_T71 xs (i : Int) = xs[i] := by
  unfold rd_T71; rw [show ((i : Int)).toNat = i from by omega, List.getD_eq_getElem?_getD, List.getElem?_eq_getElem h]; rfl
theorem same_l1 (l : List RLin) (i : Nat) (x : RLin) (hi : i < l.length) (hx : l[i] = x) (h0 : l.length ≤ 1000000) (hl : x.f1.length ≤ 1000000) : ∀ (m j k : Nat), j + m = x.f1.length →
    tallyroomlaw36_same.l1 (k + m + 1) (l.map cvL) l i j = tallyroomlaw36_same.l0 k (l.map cvL) l ((i + 1 : Nat) : Int)
  | m, j, k, h => by
    have hi2 : i < (l.map cvL).length := by rw [List.length_map]; exact hi
    have e1 : rd_T43 (l.map cvL) (i : Int) = cvL x := by rw [rdS_at _ i hi2, List.getElem_map, hx]
    have e2 : (cvL x).f1 = x.f1.map cvB := rfl
    have e3 : (l.map cvL).length = l.length := List.length_map _
    have e4 : (x.f1.map cvB).length = x.f1.length := List.length_map _
    match m, h with
    | 0, h =>
      rw [tallyroomlaw36_same.l1, e1, e2, e3, e4, if_pos (by omega), if_pos (by omega), if_neg (by omega), show Go.RowKit.wrap64 ((i : Int) + 1) = ((i + 1 : Nat) : Int) from by rw [wrap64_small _ (by omega) (by omega)]; omega]
    | m + 1, h =>
      have hj : j < x.f1.length := by omega
      rw [show k + (m + 1) + 1 = (k + m + 1) + 1 from by omega, tallyroomlaw36_same.l1, e1, e2, e3, e4, rdL_at l i hi, hx, rdB_at x.f1 j hj, rdSB_at _ j (by rw [e4]; exact hj), List.getElem_map, if_pos (by omega), if_pos (by omega), if_pos (by omega), if_pos (by omega), if_pos (by omega), if_pos (by omega),
        if_neg (by simp [cvB]), show Go.RowKit.wrap64 ((j : Int) + 1) = ((j + 1 : Nat) : Int) from by rw [wrap64_small _ (by omega) (by omega)]; omega]
      exact same_l1 l i x hi hx h0 hl m (j + 1) k (by omega)
theorem same_l0 (l : List RLin) (h0 : l.length ≤ 1000000) (hl : ∀ x ∈ l, x.f1.length ≤ 1000000) : ∀ (m i k : Nat), i + m = l.length →
    tallyroomlaw36_same.l0 (k + ((l.drop i).map fun x => x.f1.length + 3).sum + 1) (l.map cvL) l i = some true
  | 0, i, k, h => by
    have e3 : (l.map cvL).length = l.length := List.length_map _
    rw [tallyroomlaw36_same.l0, e3, if_neg (by omega)]
  | m + 1, i, k, h => by
    have hi : i < l.length := by omega
    obtain ⟨x, hx⟩ : ∃ x, l[i] = x := ⟨_, rfl⟩
    have hi2 : i < (l.map cvL).length := by rw [List.length_map]; exact hi
    have e1 : rd_T43 (l.map cvL) (i : Int) = cvL x := by rw [rdS_at _ i hi2, List.getElem_map, hx]
    have e2 : (cvL x).f1 = x.f1.map cvB := rfl
    have e3 : (l.map cvL).length = l.length := List.length_map _
    have e4 : (x.f1.map cvB).length = x.f1.length := List.length_map _
    have hd : l.drop i = x :: l.drop (i + 1) := by rw [List.drop_eq_getElem_cons hi, hx]
    have hK : k + ((l.drop i).map fun x => x.f1.length + 3).sum = (((k + ((l.drop (i + 1)).map fun x => x.f1.length + 3).sum + 1) + x.f1.length + 1)) + 1 := by
      rw [hd, List.map_cons, List.sum_cons]; omega
    rw [hK, tallyroomlaw36_same.l0, e1, e2, e3, e4, rdL_at l i hi, hx, if_pos (by omega), if_pos (by omega), if_pos (by omega), if_pos (by rfl), if_pos (by rfl), tallyroomlaw36_same.j1, if_neg (by simp)]
    have h1 := same_l1 l i x hi hx h0 (hl x (by rw [← hx]; exact List.getElem_mem hi)) x.f1.length 0 (k + ((l.drop (i + 1)).map fun x => x.f1.length + 3).sum + 1) (by omega)
    rw [show ((0 : Nat) : Int) = 0 from rfl] at h1
    rw [h1]
    exact same_l0 l h0 hl m (i + 1) k (by omega)
theorem same_f (l : List RLin) (h0 : l.length ≤ 1000000) (hl : ∀ x ∈ l, x.f1.length ≤ 1000000) : ∃ k, tallyroomlaw36_same.f k (l.map cvL) l = some true := by
  refine ⟨0 + ((l.drop 0).map fun x => x.f1.length + 3).sum + 1, ?_⟩
  unfold tallyroomlaw36_same.f
  rw [if_pos (by rw [List.length_map])]
  exact same_l0 l h0 hl l.length 0 0 (by omega)
theorem BL_inj {a b : ByteArray} (h : a.data.toList = b.data.toList) : a = b := by
  apply ByteArray.ext; exact Array.ext' h
theorem lbM_inj {a b : SLab} (h : lbM a = lbM b) : a = b := by
  cases a; cases b
  have h1 := BL_inj (congrArg Lb.k h)
  have h2 := BL_inj (congrArg Lb.t h)
  simp only at h1 h2
  rw [h1, h2]
theorem map_inj {α β : Type} {f : α → β} (hf : ∀ a b, f a = f b → a = b) : ∀ (l m : List α), l.map f = m.map f → l = m
  | [], [], _ => rfl
  | [], _ :: _, h => by simp at h
  | _ :: _, [], h => by simp at h
  | a :: l, b :: m, h => by
    rw [List.map_cons, List.map_cons] at h
    rw [hf a b (List.cons.inj h).1, map_inj hf l m (List.cons.inj h).2]
theorem lines_inj : ∀ (l m : List SLin), okV l → okV m → l.map lnM = m.map lnM → l = m
  | [], [], _, _, _ => rfl
  | [], _ :: _, _, _, h => by simp at h
  | _ :: _, [], _, _, h => by simp at h
  | a :: l, b :: m, ha, hb, h => by
    rw [List.map_cons, List.map_cons] at h
    have h1 := (List.cons.inj h).1
    have hn := BL_inj (congrArg Ln.n h1)
    have hls := map_inj (fun _ _ => lbM_inj) _ _ (congrArg Ln.ls h1)
    have hv : a.f2.toNat = b.f2.toNat := congrArg Ln.v h1
    have q1 := ha a List.mem_cons_self
    have q2 := hb b List.mem_cons_self
    have hi : a.f2 = b.f2 := by omega
    have e : a = b := by
      cases a; cases b
      simp only at hn hls hi
      rw [hn, hls, hi]
    rw [e, lines_inj l m (fun x hx => ha x (List.mem_cons_of_mem _ hx)) (fun x hx => hb x (List.mem_cons_of_mem _ hx)) (List.cons.inj h).2]
end Go.Proofs.YtdbmcikoiilanaaDoor.Xp
set_option linter.unusedVariables false
set_option linter.unusedSimpArgs false
namespace Go.Proofs.YtdbmcikoiilanaaDoor.expoPrints
open Go.RowKit Go.Proofs.YtdbmcikoiilanaaDoor.B0 Go.Proofs.YtdbmcikoiilanaaDoor.Pp Go.Proofs.YtdbmcikoiilanaaDoorW.PrintWords Go.Proofs.YtdbmcikoiilanaaDoorW.PrintLast Go.Proofs.YtdbmcikoiilanaaDoor.Bld Go.Proofs.YtdbmcikoiilanaaDoor.Xp

/-- those of the first k that may be told. -/
def mayL (l : List RLin) (k : Nat) : List RLin := (l.take k).filter fun x => rightL (lnR x)
theorem mayL_succ (l : List RLin) (k : Nat) (x : RLin) (h : l[k]? = some x) : mayL l (k + 1) = mayL l k ++ (if rightL (lnR x) = true then [x] else []) := by
  obtain ⟨hl, e⟩ := List.getElem?_eq_some_iff.1 h
  unfold mayL
  rw [List.take_succ_eq_append_getElem hl, e, List.filter_append]
  by_cases hr : rightL (lnR x) = true
  · rw [if_pos hr, List.filter_cons_of_pos (by exact hr)]; rfl
  · rw [if_neg hr, List.filter_cons_of_neg (by exact hr)]; rfl
theorem mayL_len (l : List RLin) (k : Nat) : (mayL l k).length ≤ k := Nat.le_trans (List.length_filter_le _ _) (by rw [List.length_take]; omega)

set_option maxHeartbeats 8000000 in
set_option maxRecDepth 100000 in
theorem expoPrints_walk (w : World) (hP : LP w) (A : Option Addr) (ca : Nat) (l : List RLin) (hC : Kd.C k27 w A l.length l) (hc : l.length ≤ ca) (hl0 : l.length ≤ 1048576) (hW : ∀ x ∈ l, Ob.WB27 x) :
    Calls Tryd.prog 3 #[.slice A l.length ca] w fun e w' => e = .returned (.bool true) ∧ Below w.heap.size w w' := by
  have HL := Lib.hid hP; clear hP
  have hal := Lib.hid (alive_c w HL.out)
  have HU : Hid (u64L l ∧ smL l) := ⟨u64L_of hW, smL_of hW⟩
  clear hW
  obtain ⟨n, hn⟩ : ∃ n, Hid (l.length = n) := ⟨_, Lib.hid rfl⟩
  rw [hn.out] at hC hc hl0 ⊢
  have HC := Lib.hid hC; have Hca := Lib.hid hc
  clear hC hc
  go_enter Tryd.func3, Tryd.ntmps3
  go_wp2_with fail
  refine hal.out.mono ?_
  rintro e w1 ⟨rfl, hb1⟩
  have HB1 := Lib.hid hb1; clear hb1 hal
  by_cases h3 : n > 20
  · have hq : decide ((20 : Int) < (n : Int)) = true := decide_eq_true (by omega)
    have hq2 : decide (20 < n) = true := decide_eq_true (by omega)
    go_wp2_with fail
    go_ret
    exact ⟨rfl, HB1.out⟩
  have hq : decide ((20 : Int) < (n : Int)) = false := decide_eq_false (by omega)
  have hq2 : decide (20 < n) = false := decide_eq_false (by omega)
  go_wp2_with fail
  clear hq hq2
  go_loopw [4, 3] (fun iv mv wr => ∃ (k : Nat) (av : Value), iv = .int .i64 k ∧ mv = av ∧ k ≤ n ∧ Hid ((atK k27 w).R 27 wr w.heap.size (fun _ => True) av (mayL l k) ∧ Below w.heap.size w wr ∧ ∀ j x, j < k → l[j]? = some x → goodX x)) (fun iv _ _ => n - (intOf iv).toNat)
  case atStart => exact ⟨0, _, rfl, rfl, Nat.zero_le _, Kd.R_nil _ _ _ _ _, HB1.out, fun j x h => absurd h (Nat.not_lt_zero _)⟩
  case round =>
    obtain ⟨k, av, rfl, rfl, hk, HR⟩ := hrel
    by_cases hlt : k < n
    · have hki : (k : Int) < (n : Int) := by omega
      obtain ⟨ad, A4, c4, rfl, d0, d1, d2, hl4, hi4⟩ := at_T27 HC.out k (by omega) (by omega)
      rw [show ((k : Int)).toNat = k from by omega] at d0 d1 d2
      obtain ⟨y, hy⟩ : ∃ y, Hid (rd_T27 l k = y ∧ l[k]? = some y) := ⟨_, rfl, by unfold rd_T27; rw [show ((k : Int)).toNat = k from by omega, List.getD_eq_getElem?_getD, List.getElem?_eq_getElem (by have := hn.out; omega)]; rfl⟩
      rw [hy.out.1] at d0 d1 d2 hl4 hi4
      have HK4 : Hid (k27.K w y [.string y.f0, .slice A4 y.f1.length c4, .int .u64 y.f2]) := k27_mk w y hl4 hi4
      obtain ⟨ny, hny⟩ : ∃ ny, Hid (y.f1.length = ny) := ⟨_, Lib.hid rfl⟩
      rw [hny.out] at d1 hi4 hl4 HK4
      have HI4 : Hid (Kd.C k29 w A4 ny y.f1 ∧ ny ≤ c4) := ⟨hi4, hl4⟩
      clear hl4 hi4
      have HD : Hid (∀ W, Below w.heap.size w W → W.cell? (ad.add (k * 3)) = some (.string y.f0) ∧ W.cell? ⟨(ad.add (k * 3)).block, (ad.add (k * 3)).off + 1, none⟩ = some (.slice A4 ny c4) ∧ W.cell? ⟨(ad.add (k * 3)).block, (ad.add (k * 3)).off + 2, none⟩ = some (.int .u64 y.f2)) := fun W hb => ⟨pw_cell_below hb d0, pw_cell_below hb d1, pw_cell_below hb d2⟩
      clear d0 d1 d2
      have hmem : y ∈ l := List.mem_of_getElem? hy.out.2
      have HSM : Hid (∀ z ∈ y.f1, z.f0.size ≤ 1048576 ∧ z.f1.size ≤ 1048576) := (HU.out.2 y hmem).2.2
      clear hmem
      obtain ⟨q0, q1, q2⟩ := HD.out wr HR.out.2.1
      by_cases h5 : ny > 20
      · have hr : decide ((20 : Int) < (ny : Int)) = true := decide_eq_true (by omega)
        have hr2 : decide (20 < ny) = true := decide_eq_true (by omega)
        go_wp2_with fail
        go_ret
        exact ⟨rfl, HR.out.2.1⟩
      have hr : decide ((20 : Int) < (ny : Int)) = false := decide_eq_false (by omega)
      have hr2 : decide (20 < ny) = false := decide_eq_false (by omega)
      by_cases h6 : y.f0.size > 200
      · have hr3 : decide ((200 : Int) < (y.f0.size : Int)) = true := decide_eq_true (by omega)
        have hr4 : decide (200 < y.f0.size) = true := decide_eq_true (by omega)
        go_wp2_with fail
        go_ret
        exact ⟨rfl, HR.out.2.1⟩
      have hr3 : decide ((200 : Int) < (y.f0.size : Int)) = false := decide_eq_false (by omega)
      have hr4 : decide (200 < y.f0.size) = false := decide_eq_false (by omega)
      have HY0 : Hid (y.f0.size ≤ 200) := by show _ ≤ _; omega
      go_wp2_with fail
      clear hr hr2 hr3 hr4 q0 q1 q2 h6
      obtain ⟨wo, hwo⟩ : ∃ wo, wr = wo := ⟨_, rfl⟩
      subst hwo
      go_loopw [5] (fun jv wx => ∃ j : Nat, jv = .int .i64 j ∧ j ≤ ny ∧ Hid ((atK k27 w).R 27 wx w.heap.size (fun _ => True) u3 (mayL l k) ∧ Below w.heap.size w wx ∧ ∀ q z, q < j → y.f1[q]? = some z → z.f0.size + z.f1.size ≤ 500)) (fun jv _ => ny - (intOf jv).toNat)
      case atStart => exact ⟨0, rfl, Nat.zero_le _, HR.out.1, HR.out.2.1, fun q z h => absurd h (Nat.not_lt_zero _)⟩
      case round =>
        obtain ⟨j, rfl, hj, HJ⟩ := hrel
        obtain ⟨q0, q1, q2⟩ := HD.out wr HJ.out.2.1
        by_cases hjl : j < ny
        · have hji : (j : Int) < (ny : Int) := by omega
          obtain ⟨ad5, rfl, e0, e1⟩ := at_T29 (Kd.C_below HI4.out.1 HJ.out.2.1) j (by omega) (by omega)
          rw [show ((j : Int)).toNat = j from by omega] at e0 e1
          obtain ⟨z, hz⟩ : ∃ z, Hid (rd_T29 y.f1 j = z ∧ y.f1[j]? = some z) := ⟨_, rfl, by unfold rd_T29; rw [show ((j : Int)).toNat = j from by omega, List.getD_eq_getElem?_getD, List.getElem?_eq_getElem (by rw [hny.out]; exact hjl)]; rfl⟩
          rw [hz.out.1] at e0 e1
          have hz1 := (HSM.out z (List.mem_of_getElem? hz.out.2)).1
          have hz2 := (HSM.out z (List.mem_of_getElem? hz.out.2)).2
          by_cases h9 : z.f0.size + z.f1.size > 500
          · have hr : decide ((500 : Int) < (z.f0.size : Int) + (z.f1.size : Int)) = true := decide_eq_true (by omega)
            have hr2 : decide (500 < z.f0.size + z.f1.size) = true := decide_eq_true (by omega)
            go_upto_region 14 with fail
            go_quiet (fail)
            go_wp2_with fail
            go_ret
            exact ⟨rfl, by first | exact HJ.out.2.1 | exact Below_drewN HJ.out.2.1 _⟩
          · have hr : decide ((500 : Int) < (z.f0.size : Int) + (z.f1.size : Int)) = false := decide_eq_false (by omega)
            have hr2 : decide (500 < z.f0.size + z.f1.size) = false := decide_eq_false (by omega)
            have HZ : Hid (z.f0.size + z.f1.size ≤ 500) := by show _ ≤ _; omega
            go_upto_region 14 with fail
            go_quiet (fail)
            go_wp2_with fail
            go_roundw
            case rel =>
              refine ⟨j + 1, by go_num, by omega, by first | exact HJ.out.1 | exact Kd.R_drew HJ.out.1 | exact Kd.R_drewN HJ.out.1 _, by first | exact HJ.out.2.1 | exact Below_drewN HJ.out.2.1 _, fun q z' hq hz' => ?_⟩
              rcases Nat.lt_or_ge q j with h | h
              · exact HJ.out.2.2 q z' h hz'
              · obtain rfl : q = j := by omega
                rw [hz.out.2] at hz'
                obtain rfl := Option.some.inj hz'
                exact HZ.out
            case measure => simp [intOf]; omega
        · obtain rfl : j = ny := by omega
          have HG : Hid (goodX y) := ⟨by rw [hny.out]; omega, HY0.out, fun z hz => by
            obtain ⟨q, hq, e⟩ := List.mem_iff_getElem.1 hz
            exact HJ.out.2.2 q z (by rw [hny.out] at hq; exact hq) (by rw [List.getElem?_eq_getElem hq, e])⟩
          obtain ⟨rt, hrt⟩ : ∃ rt, Hid (rightL (lnR y) = rt) := ⟨_, Lib.hid rfl⟩
          have HRC : Hid (Calls Tryd.prog 8 #[.agg #[.string y.f0, .slice A4 j c4, .int .u64 y.f2]] wr fun e w' => e = .returned (.bool rt) ∧ Below wr.heap.size wr w') := by
            have h := tallyroomref36_Right.calls 1200 y.f0 A4 c4 y.f1 y.f2 rt wr (by rw [hny.out]; exact Kd.C_below HI4.out.1 HJ.out.2.1) (by rw [hny.out]; exact HI4.out.2) (by
              rw [← hrt.out, right_R]
              exact rright_f y.f0 y.f2 y.f1 (by have := HG.out.1; omega) (by have := HG.out.2.1; omega) (fun z hz => by have := HG.out.2.2 z hz; omega))
            rw [hny.out] at h; exact h
          have HGK : Hid (∀ i x, i < k + 1 → l[i]? = some x → goodX x) := fun i x hi hx => by
            rcases Nat.lt_or_ge i k with h | h
            · exact HR.out.2.2 i x h hx
            · obtain rfl : i = k := by omega
              rw [hy.out.2] at hx
              obtain rfl := Option.some.inj hx
              exact HG.out
          have HMS := Lib.hid (mayL_succ l k y hy.out.2)
          have HML := Lib.hid (mayL_len l k)
          rw [hrt.out] at HMS
          go_wp2_with fail
          refine HRC.out.mono ?_
          rintro e w5 ⟨rfl, hb5⟩
          have H5 : Hid ((atK k27 w).R 27 w5 w.heap.size (fun _ => True) u3 (mayL l k) ∧ Below w.heap.size w w5) := ⟨Kd.R_below HJ.out.1 hb5, HJ.out.2.1.trans (hb5.mono HJ.out.2.1.size)⟩
          clear hb5 HRC q0 q1 q2
          cases rt
          · go_wp2_with fail
            go_roundw
            case rel => exact ⟨k + 1, _, by go_num, rfl, by omega, by rw [HMS.out]; simpa using H5.out.1, H5.out.2, HGK.out⟩
            case measure => simp [intOf]; omega
          · obtain ⟨q0, q1, q2⟩ := HD.out w5 H5.out.2
            go_wp2_with (at_builtin; go_loud (refine Kd.R_append (atK k27 w) (w0 := w) w.heap.size rfl _ _ 22 27 (.agg #[(.string ⟨#[]⟩), (.slice none 0 0), (.int .u64 0)]) 48 rfl Tryd.underlying22 infoR rfl (Nat.zero_lt_succ 2) (by decide) u3 (mayL l k) y [.string y.f0, .slice A4 j c4, .int .u64 y.f2] (fun _ => True) (fun _ => False) rfl rfl HK4.out (fun _ h => h.elim) (fun _ _ => trivial) H5.out.1 H5.out.2 H5.out.2.size (by have := HML.out; omega) ?_))
            intro v6 w6 hr6 hb6 hg6 hat6
            have H6 : Hid ((atK k27 w).R 27 w6 w.heap.size (fun _ => True) v6 (mayL l (k + 1)) ∧ Below w.heap.size w w6) := ⟨by rw [HMS.out]; exact hr6, hb6⟩
            clear hr6 hb6 hg6 hat6 q0 q1 q2
            go_wp2_with fail
            go_roundw
            case rel => exact ⟨k + 1, v6, by go_num, rfl, by omega, H6.out.1, H6.out.2, HGK.out⟩
            case measure => simp [intOf]; omega
    · obtain rfl : k = n := by omega
      have HG : Hid (∀ x ∈ l, goodX x) := fun x hx => by
        obtain ⟨j, hj, e⟩ := List.mem_iff_getElem.1 hx
        exact HR.out.2.2 j x (by rw [hn.out] at hj; exact hj) (by rw [List.getElem?_eq_getElem hj, e])
      have hml : mayL l k = l.filter fun x => rightL (lnR x) := by unfold mayL; rw [List.take_of_length_le (by rw [hn.out]; exact Nat.le_refl _)]
      obtain ⟨may, hmay⟩ : ∃ may, Hid ((l.filter fun x => rightL (lnR x)) = may ∧ may.length ≤ k ∧ (∀ x ∈ may, x ∈ l) ∧ ((l.map cvL).map lnM).filter rightL = (may.map cvL).map lnM) := ⟨_, rfl, by rw [← hml]; exact mayL_len l k, fun x hx => (List.mem_filter.1 hx).1, by
        rw [List.map_map, List.map_map, List.filter_map]; rfl⟩
      rw [hml, hmay.out.1] at HR
      obtain ⟨A3, c3, e3, hl3, hC3⟩ := Kd.R_reads HR.out.1
      have hC3' := atK_C hC3 HR.out.2.1
      obtain ⟨nm, hnm⟩ : ∃ nm, Hid (may.length = nm) := ⟨_, Lib.hid rfl⟩
      rw [hnm.out] at e3
      subst e3
      have HM : Hid (Kd.C k27 wr A3 may.length may ∧ may.length ≤ c3 ∧ Below w.heap.size w wr) := ⟨hC3', hl3, HR.out.2.1⟩
      clear HR hC3 hC3' hl3 hml
      obtain ⟨xa, hxa⟩ : ∃ xa, Hid (l.map cvL = xa ∧ xa.length = k ∧ okV xa ∧ ((xa.map lnM).flatMap lineP).length ≤ 620000 ∧ printP (xa.map lnM) = printP (l.map lnR)) := ⟨_, rfl, by rw [List.length_map]; exact hn.out, of_okV l HU.out.1, by have h := of_bound l HG.out HU.out.1; rw [hn.out] at h; omega, by rw [List.map_map]; rfl⟩
      have HOA : Hid (Calls Tryd.prog 10 #[.slice A k ca] wr fun e w'' => ∃ v0 : Value, e = .returned v0 ∧ LW w'' wr.heap.size v0 xa ∧ Below wr.heap.size wr w'') := by
        have h := Of_q wr A ca l (by rw [hn.out]; exact Kd.C_below HC.out HM.out.2.2) (by rw [hn.out]; exact Hca.out) (by rw [hn.out]; omega) HG.out
        rw [hn.out, hxa.out.1] at h; exact h
      obtain ⟨s1, hs1⟩ : ∃ s1 : ByteArray, Hid (strV (printP (xa.map lnM)) = .string s1 ∧ s1.data.toList = printP (xa.map lnM) ∧ s1.size ≤ 620000 ∧ B (printP (l.map lnR)) = s1) := ⟨⟨(printP (xa.map lnM)).toArray⟩, rfl, rfl, by
        have h := filter_len (xa.map lnM); have h2 := hxa.out.2.2.2.1; show (printP (xa.map lnM)).length ≤ _; omega, by rw [hxa.out.2.2.2.2]; rfl⟩
      go_wp2_with fail
      refine HOA.out.mono ?_
      rintro e w2 ⟨v2, rfl, hS2, hb2⟩
      obtain ⟨A2, c2, e2, hc2, hC2⟩ := hS2.reads
      rw [hxa.out.2.1] at e2
      subst e2
      have H2 : Hid (Below wr.heap.size wr w2 ∧ Below w.heap.size w w2 ∧ Kd.C k43 w2 A2 xa.length xa) := ⟨hb2, HM.out.2.2.trans (hb2.mono HM.out.2.2.size), hC2⟩
      clear hS2 hb2 hC2 hc2 HOA
      have HPR := Lib.hid (Print_c w2 (HL.out.below H2.out.2.1) A2 c2 xa H2.out.2.2 hxa.out.2.2.1 (by have h2 := hxa.out.2.2.2.1; omega))
      rw [hxa.out.2.1, hs1.out.1] at HPR
      go_wp2_with fail
      refine HPR.out.mono ?_
      rintro e w3 ⟨rfl, hb3⟩
      have H3 : Hid (Below wr.heap.size wr w3 ∧ Below w.heap.size w w3) := ⟨H2.out.1.trans (hb3.mono H2.out.1.size), H2.out.2.1.trans (hb3.mono H2.out.2.1.size)⟩
      clear hb3 HPR H2
      have HP1 := Lib.hid (Parse_c s1 (by have := hs1.out.2.2.1; omega) w3 (HL.out.below H3.out.2))
      go_wp2_with fail
      refine HP1.out.mono ?_
      rintro e w4 ⟨v4, er4, rfl, hp4, hb4⟩
      obtain ⟨ys, hys, rfl, hS4, hv4, _⟩ := hp4.some (by rw [hs1.out.2.1]; exact parseR_print _ (vs_of _ hxa.out.2.2.1))
      obtain ⟨A4, c4, e4, hc4, hC4⟩ := Kd.S_reads hS4
      have hye : ys = may.map cvL := lines_inj _ _ hv4 (of_okV may (fun x hx => HU.out.1 x (hmay.out.2.2.1 x hx))) (by rw [hys, ← hxa.out.1]; exact hmay.out.2.2.2)
      have hyl : ys.length = nm := by rw [hye, List.length_map, hnm.out]
      rw [hyl] at e4
      subst e4
      have H4 : Hid (Below wr.heap.size wr w4 ∧ Below w.heap.size w w4 ∧ Kd.C k43 w4 A4 ys.length ys ∧ ys.length ≤ c4) := ⟨H3.out.1.trans (hb4.mono H3.out.1.size), H3.out.2.trans (hb4.mono H3.out.2.size), hC4, hc4⟩
      have HRP : Hid (Calls Tryd.prog 12 #[.slice A k ca] w4 fun e w' => e = .returned (.string s1) ∧ Below w4.heap.size w4 w') := by
        have h := tallyroomref36_Print.calls _ A ca l s1 w4 (by rw [hn.out]; exact Kd.C_below HC.out H4.out.2.1) (by rw [hn.out]; exact Hca.out) (by rw [← hs1.out.2.2.2]; exact print_f l HG.out HU.out.1 (by rw [hn.out]; omega) 1200 (Nat.le_refl _))
        rw [hn.out] at h; exact h
      obtain ⟨ks, hks⟩ := same_f may (by rw [hnm.out]; have := hmay.out.2.1; rw [hnm.out] at this; omega) (fun x hx => by have := (HG.out x (hmay.out.2.2.1 x hx)).1; omega)
      have HSM : Hid (∀ W, Below w4.heap.size w4 W → Calls Tryd.prog 13 #[.slice A4 nm c4, .slice A3 nm c3] W fun e w' => e = .returned (.bool true) ∧ Below W.heap.size W w') := fun W hb => by
        have h := tallyroomlaw36_same.calls ks A4 c4 ys A3 c3 may true W (Kd.C_below H4.out.2.2.1 hb) H4.out.2.2.2 (Kd.C_below HM.out.1 (H4.out.1.trans (hb.mono H4.out.1.size))) HM.out.2.1 (by rw [hye]; exact hks)
        rw [hyl, hnm.out] at h
        exact h.mono (fun _ _ h => ⟨h.1, h.2.below⟩)
      clear hp4 hb4 hS4 hv4 hys hC4 hc4 hye hyl hks HP1
      have hee : (s1.toList == s1.toList) = true := by simp
      go_wp2_with fail
      refine HRP.out.mono ?_
      rintro e w5 ⟨rfl, hb5⟩
      have H5 := Lib.hid hb5
      clear hb5 HRP
      go_wp2_with fail
      refine (HSM.out w5 H5.out).mono ?_
      rintro e w6 ⟨rfl, hb6⟩
      have H6 : Hid (Below w.heap.size w w6) := H4.out.2.1.trans ((H5.out.trans (hb6.mono H5.out.size)).mono H4.out.2.1.size)
      clear hb6 HSM
      go_wp2_with fail
      go_ret
      exact ⟨rfl, H6.out⟩
end Go.Proofs.YtdbmcikoiilanaaDoor.expoPrints
