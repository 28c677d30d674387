/- ScriptJoins: the law's walk. -/
import Derived.Test.YtbcdlbdljejlcaaDoorSc15
set_option linter.unusedVariables false
set_option linter.unusedSimpArgs false
namespace Go.Proofs.YtbcdlbdljejlcaaDoor.scriptJoins
open Go.RowKit Go.Proofs.YtbcdlbdljejlcaaDoor.B0 Go.Proofs.YtbcdlbdljejlcaaDoor.Ps Go.Proofs.YtbcdlbdljejlcaaDoorW.PrintWords Go.Proofs.YtbcdlbdljejlcaaDoorW.PrintLast Go.Proofs.YtbcdlbdljejlcaaDoor.Bld Go.Proofs.YtbcdlbdljejlcaaDoor.Sc

/-- what the first loop lets through. -/
def good (x : RStp) : Prop := okS (toS x) ∧ x.f3.length ≤ 3000

set_option maxHeartbeats 8000000 in
set_option maxRecDepth 100000 in
theorem scriptJoins_walk (w : World) (hP : LP w) (A : Option Addr) (ca : Nat) (a : List RStp) (hCa : Kd.C k35 w A a.length a) (hca : a.length ≤ ca) (hal0 : a.length ≤ maxLen) (hWa : ∀ x ∈ a, W35 x)
    (B : Option Addr) (cb : Nat) (b : List RStp) (hCb : Kd.C k35 w B b.length b) (hcb : b.length ≤ cb) (hbl0 : b.length ≤ maxLen) (hWb : ∀ x ∈ b, W35 x) :
    Calls Tryd.prog 4 #[.slice A a.length ca, .slice B b.length cb] w fun e w' => e = .returned (.bool true) ∧ Below w.heap.size w w' := by
  have HL := Lib.hid hP; clear hP
  have hal := Lib.hid (alive29 w HL.out)
  have HW : Hid ((∀ x ∈ a, isB x.f3) ∧ (∀ x ∈ b, isB x.f3)) := ⟨fun x hx y hy => by have := wf_u8 ((hWa x hx).2.2.2.2 y hy); omega, fun x hx y hy => by have := wf_u8 ((hWb x hx).2.2.2.2 y hy); omega⟩
  clear hWa hWb
  have HCa := Lib.hid hCa; have HCb := Lib.hid hCb; have Hca := Lib.hid hca; have Hcb := Lib.hid hcb
  clear hCa hCb hca hcb
  obtain ⟨na, hna⟩ : ∃ na, a.length = na := ⟨_, rfl⟩
  obtain ⟨nb, hnb⟩ : ∃ nb, b.length = nb := ⟨_, rfl⟩
  have HCa' : Hid (Kd.C k35 w A na a) := by rw [← hna]; exact HCa
  have HCb' : Hid (Kd.C k35 w B nb b) := by rw [← hnb]; exact HCb
  rw [hna] at Hca; rw [hnb] at Hcb
  rw [hna, hnb]
  clear HCa HCb
  have HNA := Lib.hid hna; have HNB := Lib.hid hnb
  clear hna hnb
  go_enter Tryd.func4, Tryd.ntmps4
  go_wp2_with fail
  refine hal.out.mono ?_
  rintro e w1 ⟨rfl, hb1⟩
  have HB1 := Lib.hid hb1; clear hb1 hal
  by_cases h3 : na > 20
  · have hq : decide ((20 : Int) < (na : Int)) = true := decide_eq_true (by omega)
    have hq2 : decide (20 < na) = true := decide_eq_true (by omega)
    go_wp2_with fail
    go_ret
    exact ⟨rfl, HB1.out⟩
  have hq : decide ((20 : Int) < (na : Int)) = false := decide_eq_false (by omega)
  have hq2 : decide (20 < na) = false := decide_eq_false (by omega)
  by_cases h4 : nb > 20
  · have hr : decide ((20 : Int) < (nb : Int)) = true := decide_eq_true (by omega)
    have hr2 : decide (20 < nb) = true := decide_eq_true (by omega)
    go_wp2_with fail
    go_ret
    exact ⟨rfl, HB1.out⟩
  have hr : decide ((20 : Int) < (nb : Int)) = false := decide_eq_false (by omega)
  have hr2 : decide (20 < nb) = false := decide_eq_false (by omega)
  go_wp2_with fail
  clear hq hq2 hr hr2
  have hwz : IntKind.i64.wrap 0 = 0 := by decide
  go_loopw [5] (fun iv wr => ∃ k : Nat, iv = .int .i64 k ∧ k ≤ na + nb ∧ Hid (Below w.heap.size w wr ∧ ∀ j x, j < k → (a ++ b)[j]? = some x → good x)) (fun iv _ => na + nb - (intOf iv).toNat)
  case atStart => exact ⟨0, rfl, Nat.zero_le _, HB1.out, fun j x h => absurd h (Nat.not_lt_zero _)⟩
  case round =>
    obtain ⟨k, rfl, hk, HR⟩ := hrel
    by_cases hlt : k < na + nb
    · have hki : (k : Int) < (na : Int) + (nb : Int) := by omega
      have hsz : w.heap.size ≤ wr.heap.size := HR.out.1.size
      go_wp2_with ((with_reducible refine gate_dst (N := 36) rfl ?_); go_loud (refine Kd.R_lit (atK k35 w) (w0 := w) w.heap.size 35 ?hg (N := 36) ?hd (xs := ([] : List RStp)) (inner := []) (ok := fun _ => True) (okp := fun _ => False) ?hr ?hp (fun _ _ => trivial) trivial HR.out.1 hsz (by simp) ?_); (case hd => rfl); (case hg => rfl); (case hr => first | (go_simp; done) | (go_simp; rfl)); (case hp => exact (Reps.none _ _)))
      intro v1 wn ho1 hbn hg1 hn0 hn1 hn2
      have H1 : Hid ((atK k35 w).R 35 wn w.heap.size (fun _ => True) v1 ([] : List RStp) ∧ Below w.heap.size w wn) := ⟨ho1, hbn⟩
      clear ho1 hbn hg1 hn1 hn2
      have hrA := Lib.hid (atK_of HCa'.out H1.out.2)
      go_wp2_with (at_builtin; go_loud (refine Kd.R_append_rows (atK k35 w) (Rr := k35.K w) (w0 := w) w.heap.size rfl _ _ 34 35 (.agg #[(.int .i64 0), (.int .i64 0), (.int .i64 0), (.slice none 0 0)]) 48 rfl Tryd.underlying34 info35 rfl (Nat.zero_lt_succ 3) (by decide) v1 [] a A na ca (fun _ => True) (fun _ => False) rfl rfl H1.out.1 hrA.out (fun _ _ h => h) (fun _ h => h.elim) (fun _ _ => trivial) H1.out.2 H1.out.2.size (by simp only [List.length_nil]; omega) ?_))
      intro v2 w2 ho2 hb2 hg2 hat2
      have H2 : Hid ((atK k35 w).R 35 w2 w.heap.size (fun _ => True) v2 a ∧ Below w.heap.size w w2) := ⟨ho2, hb2⟩
      clear ho2 hb2 hg2 hat2 hrA H1
      have hrB := Lib.hid (atK_of HCb'.out H2.out.2)
      go_wp2_with (at_builtin; go_loud (refine Kd.R_append_rows (atK k35 w) (Rr := k35.K w) (w0 := w) w.heap.size rfl _ _ 34 35 (.agg #[(.int .i64 0), (.int .i64 0), (.int .i64 0), (.slice none 0 0)]) 48 rfl Tryd.underlying34 info35 rfl (Nat.zero_lt_succ 3) (by decide) v2 a b B nb cb (fun _ => True) (fun _ => False) rfl rfl H2.out.1 hrB.out (fun _ _ h => h) (fun _ h => h.elim) (fun _ _ => trivial) H2.out.2 H2.out.2.size (by have := HNA.out; omega) ?_))
      intro v3 w3 ho3 hb3 hg3 hat3
      obtain ⟨A3, c3, rfl, hl3, hC3⟩ := Kd.R_reads ho3
      have hC3' := atK_C hC3 hb3
      obtain ⟨ab, hab⟩ : ∃ ab, Hid (a ++ b = ab ∧ ab.length = na + nb) := ⟨_, rfl, by rw [List.length_append, HNA.out, HNB.out]⟩
      rw [hab.out.1] at hC3' HR
      rw [hab.out.1]
      have hnl : (a ++ b).length = na + nb := by rw [hab.out.1]; exact hab.out.2
      rw [hab.out.2] at hC3'
      rw [hab.out.2]
      obtain ⟨ad, A4, c4, rfl, d0, d1, d2, d3, hl4, hi4⟩ := at_T35 hC3' k (by omega) (by omega)
      rw [show ((k : Int)).toNat = k from by omega] at d0 d1 d2 d3
      obtain ⟨y, hy⟩ : ∃ y, Hid (rd_T35 ab k = y ∧ ab[k]? = some y) := ⟨_, rfl, by unfold rd_T35; rw [show ((k : Int)).toNat = k from by omega, List.getD_eq_getElem?_getD, List.getElem?_eq_getElem (by have := hab.out.2; omega)]; rfl⟩
      rw [hy.out.1] at d0 d1 d2 d3 hl4 hi4
      have HB3 : Hid (Below w.heap.size w w3) := hb3
      clear ho3 hb3 hg3 hat3 hl3 hC3 hC3' H2 hrB hl4 hi4 hnl
      obtain ⟨ny, hny⟩ : ∃ ny, Hid (y.f3.length = ny) := ⟨_, Lib.hid rfl⟩
      rw [hny.out] at d3
      have hki2 : (k : Int) < ((na + nb : Nat) : Int) := by omega
      obtain ⟨wm, hwm⟩ : ∃ wm, Hid (w3.alloc (.cells #[.int .i64 y.f0, .int .i64 y.f1, .int .i64 y.f2, .slice A4 ny c4] 35) = wm) := ⟨_, Lib.hid rfl⟩
      have hbm : Below w3.heap.size w3 wm := by rw [← hwm.out]; exact (Below.refl _ _).alloc (Nat.le_refl _) _
      have hxm : wm.heap[w3.heap.size]? = some (.cells #[.int .i64 y.f0, .int .i64 y.f1, .int .i64 y.f2, .slice A4 ny c4] 35) := by rw [← hwm.out]; exact allocN _ _
      have q0 : wm.cell? ⟨w3.heap.size, 0, none⟩ = some (.int .i64 y.f0) := by rw [cellB hxm]; rfl
      have q1 : wm.cell? ⟨w3.heap.size, 1, none⟩ = some (.int .i64 y.f1) := by rw [cellB hxm]; rfl
      have q2 : wm.cell? ⟨w3.heap.size, 2, none⟩ = some (.int .i64 y.f2) := by rw [cellB hxm]; rfl
      have q3 : wm.cell? ⟨w3.heap.size, 3, none⟩ = some (.slice A4 ny c4) := by rw [cellB hxm]; rfl
      have HBm : Hid (Below w.heap.size w wm) := HB3.out.trans (hbm.mono HB3.out.size)
      clear hbm hxm
      go_upto_region 9 with fail
      rw [hwm.out]
      by_cases h5 : ny > 3000
      · have hr : decide ((3000 : Int) < (ny : Int)) = true := decide_eq_true (by omega)
        have hr2 : decide (3000 < ny) = true := decide_eq_true (by omega)
        go_wp2_with fail
        go_ret
        exact ⟨rfl, HBm.out⟩
      have hr : decide ((3000 : Int) < (ny : Int)) = false := decide_eq_false (by omega)
      have hr2 : decide (3000 < ny) = false := decide_eq_false (by omega)
      obtain ⟨r, hr01, hr0, hck⟩ := RCheck_c y (by rw [hny.out]; omega) A4 c4 wm
      unfold rstepV at hck
      rw [hny.out] at hck
      have HCK := Lib.hid hck; clear hck
      rcases hr01 with rfl | rfl
      · have HG : Hid (good y) := ⟨hr0.1 rfl, by rw [hny.out]; omega⟩
        clear hr0
        go_wp2_with fail
        refine HCK.out.mono ?_
        rintro e w5 ⟨rfl, hb5⟩
        have HB5 := Lib.hid (HBm.out.trans (hb5.mono HBm.out.size))
        clear hb5 HCK q0 q1 q2 q3 d0 d1 d2 d3
        go_wp2_with fail
        go_roundw
        case rel =>
          refine ⟨k + 1, by go_num, by omega, HB5.out, fun j x hj hx => ?_⟩
          rw [hab.out.1] at hx
          rcases Nat.lt_or_ge j k with h | h
          · exact HR.out.2 j x h hx
          · obtain rfl : j = k := by omega
            rw [hy.out.2] at hx
            obtain rfl := Option.some.inj hx
            exact HG.out
        case measure => simp [intOf]; omega
      · go_wp2_with fail
        refine HCK.out.mono ?_
        rintro e w5 ⟨rfl, hb5⟩
        have HB5 := Lib.hid (HBm.out.trans (hb5.mono HBm.out.size))
        clear hb5 HCK
        go_wp2_with fail
        go_ret
        exact ⟨rfl, HB5.out⟩
    · have hkk : k = na + nb := by omega
      have HG : Hid ((∀ x ∈ a, good x) ∧ (∀ x ∈ b, good x)) := by
        constructor
        · intro x hx
          obtain ⟨j, hj, e⟩ := List.mem_iff_getElem.1 hx
          exact HR.out.2 j x (by have := HNA.out; omega) (by rw [List.getElem?_append_left hj, List.getElem?_eq_getElem hj, e])
        · intro x hx
          obtain ⟨j, hj, e⟩ := List.mem_iff_getElem.1 hx
          exact HR.out.2 (na + j) x (by have := HNB.out; omega) (by rw [List.getElem?_append_right (by have := HNA.out; omega), show na + j - a.length = j from by (have := HNA.out; omega), List.getElem?_eq_getElem hj, e])
      have hki : decide ((k : Int) < (na : Int) + (nb : Int)) = false := decide_eq_false (by omega)
      have HBR : Hid (Below w.heap.size w wr) := HR.out.1
      clear HR hlt hk
      obtain ⟨xa, hxa⟩ : ∃ xa, Hid (a.map toS = xa ∧ xa.length = na ∧ ∀ x ∈ xa, okS x ∧ isB x.f3 ∧ x.f3.length ≤ 3000) := ⟨_, rfl, by rw [List.length_map]; exact HNA.out, fun x hx => by
        obtain ⟨y, hy, rfl⟩ := List.mem_map.1 hx
        exact ⟨(HG.out.1 y hy).1, HW.out.1 y hy, (HG.out.1 y hy).2⟩⟩
      obtain ⟨xb, hxb⟩ : ∃ xb, Hid (b.map toS = xb ∧ xb.length = nb ∧ ∀ x ∈ xb, okS x ∧ isB x.f3 ∧ x.f3.length ≤ 3000) := ⟨_, rfl, by rw [List.length_map]; exact HNB.out, fun x hx => by
        obtain ⟨y, hy, rfl⟩ := List.mem_map.1 hx
        exact ⟨(HG.out.2 y hy).1, HW.out.2 y hy, (HG.out.2 y hy).2⟩⟩
      have hofa : ∀ w' : World, Below w.heap.size w w' → Calls Tryd.prog 11 #[.slice A na ca] w' fun e w'' => ∃ v0 : Value, e = .returned v0 ∧ Kd.S k32 32 w'' w'.heap.size (fun _ => True) v0 xa ∧ Below w'.heap.size w' w'' := by
        intro w' hb
        have h := tallyroomlaw29_Of.calls 1001 A ca a (a.map toS) w' (by rw [HNA.out]; exact Kd.C_below HCa'.out hb) (by rw [HNA.out]; exact Hca.out) (of_f a (by have := HNA.out; omega) (fun x hx => by have := (HG.out.1 x hx).2; omega))
        rw [HNA.out, hxa.out.1] at h; exact h
      have hofb : ∀ w' : World, Below w.heap.size w w' → Calls Tryd.prog 11 #[.slice B nb cb] w' fun e w'' => ∃ v0 : Value, e = .returned v0 ∧ Kd.S k32 32 w'' w'.heap.size (fun _ => True) v0 xb ∧ Below w'.heap.size w' w'' := by
        intro w' hb
        have h := tallyroomlaw29_Of.calls 1001 B cb b (b.map toS) w' (by rw [HNB.out]; exact Kd.C_below HCb'.out hb) (by rw [HNB.out]; exact Hcb.out) (of_f b (by have := HNB.out; omega) (fun x hx => by have := (HG.out.2 x hx).2; omega))
        rw [HNB.out, hxb.out.1] at h; exact h
      have HOA := Lib.hid hofa; have HOB := Lib.hid hofb; clear hofa hofb
      obtain ⟨s1, hs1⟩ : ∃ s1 : ByteArray, Hid (strV (printL xa) = .string s1 ∧ s1.data.toList = printL xa ∧ s1.size ≤ 130000) := ⟨⟨(printL xa).toArray⟩, rfl, rfl, by
        have h := printL_bound xa hxa.out.2.2; have h2 := hxa.out.2.1; show (printL xa).length ≤ _; omega⟩
      obtain ⟨s2, hs2⟩ : ∃ s2 : ByteArray, Hid (strV (printL xb) = .string s2 ∧ s2.data.toList = printL xb ∧ s2.size ≤ 130000) := ⟨⟨(printL xb).toArray⟩, rfl, rfl, by
        have h := printL_bound xb hxb.out.2.2; have h2 := hxb.out.2.1; show (printL xb).length ≤ _; omega⟩
      go_wp2_with fail
      refine (HOA.out wr HBR.out).mono ?_
      rintro e w2 ⟨v2, rfl, hS2, hb2⟩
      obtain ⟨A2, c2, rfl, hc2, hC2⟩ := Kd.S_reads hS2
      have H2 : Hid (Below w.heap.size w w2 ∧ Kd.C k32 w2 A2 xa.length xa) := ⟨HBR.out.trans (hb2.mono HBR.out.size), hC2⟩
      clear hS2 hb2 hC2 hc2
      go_wp2_with fail
      refine (Print_c w2 (HL.out.below H2.out.1) A2 c2 xa H2.out.2 (fun x hx => ⟨(hxa.out.2.2 x hx).1, (hxa.out.2.2 x hx).2.1⟩) (by have h := printL_bound xa hxa.out.2.2; have h2 := hxa.out.2.1; omega)).mono ?_
      rintro e w3 ⟨rfl, hb3⟩
      rw [hs1.out.1]
      have H3 : Hid (Below w.heap.size w w3) := H2.out.1.trans (hb3.mono H2.out.1.size)
      clear hb3 H2
      go_wp2_with fail
      refine (HOB.out w3 H3.out).mono ?_
      rintro e w4 ⟨v4, rfl, hS4, hb4⟩
      obtain ⟨A4, c4, rfl, hc4, hC4⟩ := Kd.S_reads hS4
      have H4 : Hid (Below w.heap.size w w4 ∧ Kd.C k32 w4 A4 xb.length xb) := ⟨H3.out.trans (hb4.mono H3.out.size), hC4⟩
      clear hS4 hb4 hC4 hc4
      go_wp2_with fail
      refine (Print_c w4 (HL.out.below H4.out.1) A4 c4 xb H4.out.2 (fun x hx => ⟨(hxb.out.2.2 x hx).1, (hxb.out.2.2 x hx).2.1⟩) (by have h := printL_bound xb hxb.out.2.2; have h2 := hxb.out.2.1; omega)).mono ?_
      rintro e w5 ⟨rfl, hb5⟩
      rw [hs2.out.1]
      have H5 : Hid (Below w.heap.size w w5) := H4.out.1.trans (hb5.mono H4.out.1.size)
      clear hb5 H4 H3
      have n1 : ¬ (9223372036854775807 < s1.size + s2.size) := by have := hs1.out.2.2; have := hs2.out.2.2; omega
      obtain ⟨xs, hxs⟩ : ∃ xs, Hid (xa ++ xb = xs ∧ xs.length = na + nb ∧ (∀ x ∈ xs, okS x ∧ isB x.f3) ∧ ((a ++ b).map toS = xs)) := ⟨_, rfl, by rw [List.length_append, hxa.out.2.1, hxb.out.2.1], fun x hx => by
        rcases List.mem_append.1 hx with h | h
        · exact ⟨(hxa.out.2.2 x h).1, (hxa.out.2.2 x h).2.1⟩
        · exact ⟨(hxb.out.2.2 x h).1, (hxb.out.2.2 x h).2.1⟩, by rw [List.map_append, hxa.out.1, hxb.out.1]⟩
      have HPS := Lib.hid (Parse_some (s1 ++ s2) xs (by
        have e : (s1 ++ s2).data.toList = printL xs := by rw [← hxs.out.1, printL_append, ← hs1.out.2.1, ← hs2.out.2.1]; simp
        rw [e]; exact print_parse0 _ hxs.out.2.2.1) (by rw [ByteArray.size_append]; have := hs1.out.2.2; have := hs2.out.2.2; omega) w5 (HL.out.below H5.out))
      go_wp2_with fail
      refine HPS.out.mono ?_
      rintro e w6 ⟨A6, c6, rfl, hc6, hS6, hC6, hb6⟩
      rw [hxs.out.2.1] at hc6 hS6 hC6
      rw [hxs.out.2.1]
      have H6 : Hid (Below w.heap.size w w6 ∧ PSL w6 w5.heap.size (.slice A6 (na + nb) c6) xs ∧ Kd.C k32 w6 A6 (na + nb) xs) := ⟨H5.out.trans (hb6.mono H5.out.size), hS6, hC6⟩
      have Hc6 := Lib.hid hc6
      clear hc6 hS6 hC6 hb6 HPS
      go_wp2_with ((with_reducible refine gate_dst (N := 84) rfl ?_); refine wpList_step fun K hK => ?_; go_loud (refine Kd.R_lit_step (atK k35 w) (w0 := w6) w6.heap.size 35 (by rfl) (N := 84) ?hd (xs := ([] : List RStp)) (inner := []) (ok := fun _ => True) (okp := fun _ => False) ?hr ?hp (fun _ _ => trivial) trivial (Below.refl _ _) (Nat.le_refl _) (by simp) ?_); (case hd => rfl); (case hr => first | (go_simp; done) | (go_simp; rfl)); (case hp => exact (Reps.none _ _)))
      intro v7 w7 ho7 hb7 hg7 hx7 hx8 hx9
      refine hK _ _ ?_
      clear hK K hg7 hx8 hx9 hx7
      have H7 : Hid ((atK k35 w).R 35 w7 w6.heap.size (fun _ => True) v7 ([] : List RStp) ∧ Below w6.heap.size w6 w7 ∧ Below w.heap.size w w7) := ⟨ho7, hb7, H6.out.1.trans (hb7.mono H6.out.1.size)⟩
      clear ho7 hb7
      have hrA := Lib.hid (atK_of HCa'.out H7.out.2.2)
      go_wp2_with ((with_reducible refine gate_dst (N := 86) rfl ?_); refine wpList_step fun K hK => ?_; go_loud (refine Kd.R_append_rows_step (atK k35 w) (Rr := k35.K w) (w0 := w6) w6.heap.size (by rfl) _ _ 34 35 (.agg #[(.int .i64 0), (.int .i64 0), (.int .i64 0), (.slice none 0 0)]) 48 rfl Tryd.underlying34 info35 rfl (Nat.zero_lt_succ 3) (by decide) v7 [] a A na ca (fun _ => True) (fun _ => False) rfl rfl H7.out.1 hrA.out (fun _ _ h => h) (fun _ h => h.elim) (fun _ _ => trivial) H7.out.2.1 H7.out.2.1.size (by simp only [List.length_nil]; omega) ?_))
      intro v8 w8 ho8 hb8 hg8 hat8
      refine hK _ _ ?_
      clear hK K hg8 hat8
      have H8 : Hid ((atK k35 w).R 35 w8 w6.heap.size (fun _ => True) v8 a ∧ Below w6.heap.size w6 w8 ∧ Below w.heap.size w w8) := ⟨ho8, hb8, H6.out.1.trans (hb8.mono H6.out.1.size)⟩
      clear ho8 hb8 hrA H7
      have hrB := Lib.hid (atK_of HCb'.out H8.out.2.2)
      go_wp2_with ((with_reducible refine gate_dst (N := 88) rfl ?_); refine wpList_step fun K hK => ?_; go_loud (refine Kd.R_append_rows_step (atK k35 w) (Rr := k35.K w) (w0 := w6) w6.heap.size (by rfl) _ _ 34 35 (.agg #[(.int .i64 0), (.int .i64 0), (.int .i64 0), (.slice none 0 0)]) 48 rfl Tryd.underlying34 info35 rfl (Nat.zero_lt_succ 3) (by decide) v8 a b B nb cb (fun _ => True) (fun _ => False) rfl rfl H8.out.1 hrB.out (fun _ _ h => h) (fun _ h => h.elim) (fun _ _ => trivial) H8.out.2.1 H8.out.2.1.size (by have := HNA.out; omega) ?_))
      intro v9 w9 ho9 hb9 hg9 hat9
      refine hK _ _ ?_
      clear hK K hg9 hat9
      obtain ⟨A9, c9, rfl, hl9, hC9⟩ := Kd.R_reads ho9
      have hC9' := atK_C hC9 (H6.out.1.trans (hb9.mono H6.out.1.size))
      have hsame := tallyroomlaw29_same.calls 1001 A6 c6 xs A9 c9 (a ++ b) true w9 (by rw [hxs.out.2.1]; exact Kd.C_below H6.out.2.2 hb9) (by rw [hxs.out.2.1]; exact Hc6.out) hC9' hl9 (by rw [← hxs.out.2.2.2]; exact same_f _ (by rw [List.length_append, HNA.out, HNB.out]; omega))
      have hnl : (a ++ b).length = na + nb := by rw [List.length_append, HNA.out, HNB.out]
      rw [hxs.out.2.1, hnl] at hsame
      rw [hnl]
      have H9 : Hid (PSL w9 w5.heap.size (.slice A6 (na + nb) c6) xs ∧ Below w.heap.size w w9) := ⟨Kd.S_below H6.out.2.1 hb9, H6.out.1.trans (hb9.mono H6.out.1.size)⟩
      have HSM := Lib.hid hsame
      clear hsame hnl ho9 hb9 hl9 hC9 hC9' H8 hrB
      go_wp2_with fail
      refine HSM.out.mono ?_
      rintro e w10 ⟨rfl, hb10⟩
      have H10 : Hid (PSL w10 w5.heap.size (.slice A6 (na + nb) c6) xs ∧ Below w.heap.size w w10 ∧ w.heap.size ≤ w5.heap.size) := ⟨Kd.S_below H9.out.1 hb10, H9.out.2.trans (hb10.mono H9.out.2.size), H5.out.size⟩
      clear hb10 HSM H9 H6
      obtain ⟨ad6, hA6⟩ : ∃ ad, na + nb ≠ 0 → A6 = some ad := by
        rcases A6 with _ | ad
        · refine ⟨⟨0, 0, none⟩, fun h => ?_⟩
          obtain ⟨_, ad, _, _, he, _⟩ := B_elem H10.out.1 0 (by omega)
          cases he
        · exact ⟨ad, fun _ => rfl⟩
      have HA6 := Lib.hid hA6; clear hA6
      clear HBR n1 Hc6 HOA HOB
      go_wp2_with fail
      go_loopw [13] (fun iv wr => ∃ i : Nat, iv = .int .i64 i ∧ i ≤ na + nb ∧ Hid (∃ ys, PSL wr w5.heap.size (.slice A6 (na + nb) c6) ys ∧ Below w.heap.size w wr)) (fun iv _ => na + nb - (intOf iv).toNat)
      case atStart => exact ⟨0, rfl, Nat.zero_le _, xs, H10.out.1, H10.out.2.1⟩
      case round =>
        obtain ⟨i, rfl, hi, HO⟩ := hrel
        by_cases hlt : i < na + nb
        · have hki1 : (i : Int) < (na : Int) + (nb : Int) := by omega
          have hki2 : (i : Int) < ((na + nb : Nat) : Int) := by omega
          obtain rfl := HA6.out (by omega)
          obtain ⟨ys0, hys0⟩ := HO.out
          obtain ⟨L, hL⟩ : ∃ L, Hid ((ys0.getD i z32).f3.length = L) := ⟨_, Lib.hid rfl⟩
          have HY0 := Lib.hid hys0; clear hys0
          go_wp2_with fail
          go_loopw [14] (fun jv wr => ∃ k : Nat, jv = .int .i64 k ∧ k ≤ L ∧ Hid (∃ ys, PSL wr w5.heap.size (.slice (some ad6) (na + nb) c6) ys ∧ (ys.getD i z32).f3.length = L ∧ Below w.heap.size w wr)) (fun jv _ => L - (intOf jv).toNat)
          case atStart => exact ⟨0, rfl, Nat.zero_le _, ys0, HY0.out.1, hL.out, HY0.out.2⟩
          case round =>
            obtain ⟨k, rfl, hk, HI⟩ := hrel
            obtain ⟨ys, hS, hyl, hB⟩ := HI.out
            obtain ⟨hyn, ad, A3, c3, he, d3, hl3, hlb, hst⟩ := B_elem hS i hlt
            obtain rfl := Option.some.inj he
            rw [hyl] at d3 hl3 hlb hst
            clear he
            by_cases hlk : k < L
            · have hkL : (k : Int) < (L : Int) := by omega
              obtain ⟨g, u, rfl, hc1, hf1, hbg, hgs, hS'⟩ := hst k hlk
              have HN : Hid (PSL (wr.setCell ⟨g, k, none⟩ (.int .u8 7)) w5.heap.size (.slice (some ad6) (na + nb) c6) _ ∧ Below w.heap.size w (wr.setCell ⟨g, k, none⟩ (.int .u8 7)) ∧ ys.length = na + nb) := ⟨hS', hB.setCell (by have := H10.out.2.2; show w.heap.size ≤ g; omega) _, hyn⟩
              clear hS' hst hS hB hyn
              have HYL := Lib.hid hyl; clear hyl
              go_wp2_with fail
              go_roundw
              case rel => exact ⟨k + 1, by go_num, by omega, _, HN.out.1, by have h1 := HN.out.2.2; have h2 := HYL.out; rw [List.getD_eq_getElem?_getD, List.getElem?_set_self (by omega)]; simpa using h2, HN.out.2.1⟩
              case measure => simp [intOf]; omega
            · obtain rfl : k = L := by omega
              have HN : Hid (PSL wr w5.heap.size (.slice (some ad6) (na + nb) c6) ys ∧ Below w.heap.size w wr) := ⟨hS, hB⟩
              clear hst hS hB hyn hyl
              go_wp2_with fail
              go_roundw
              case rel => exact ⟨i + 1, by go_num, by omega, ys, HN.out.1, HN.out.2⟩
              case measure => simp [intOf]; omega
        · obtain rfl : i = na + nb := by omega
          have HBo : Hid (Below w.heap.size w wr) := by obtain ⟨_, _, h⟩ := HO.out; exact h
          clear HO hlt hi
          have HPS := Lib.hid (Parse_some s1 xa (by rw [hs1.out.2.1]; exact print_parse0 _ (fun x hx => ⟨(hxa.out.2.2 x hx).1, (hxa.out.2.2 x hx).2.1⟩)) (by have := hs1.out.2.2; omega) wr (HL.out.below HBo.out))
          go_wp2_with fail
          refine HPS.out.mono ?_
          rintro e w11 ⟨A11, c11, rfl, hc11, _, hC11, hb11⟩
          rw [hxa.out.2.1] at hc11 hC11
          rw [hxa.out.2.1]
          have H11 : Hid (Below w.heap.size w w11 ∧ Kd.C k32 w11 A11 na xa ∧ na ≤ c11) := ⟨HBo.out.trans (hb11.mono HBo.out.size), hC11, hc11⟩
          clear hb11 hC11 hc11 HPS
          have HSM : Hid (Calls Tryd.prog 12 #[.slice A11 na c11, .slice A na ca] w11 fun e w' => e = .returned (.bool true) ∧ Below w11.heap.size w11 w') := by
            have h := tallyroomlaw29_same.calls 1001 A11 c11 xa A ca a true w11 (by rw [hxa.out.2.1]; exact H11.out.2.1) (by rw [hxa.out.2.1]; exact H11.out.2.2) (by rw [HNA.out]; exact Kd.C_below HCa'.out H11.out.1) (by rw [HNA.out]; exact Hca.out) (by rw [← hxa.out.1]; exact same_f _ (by rw [HNA.out]; omega))
            rw [hxa.out.2.1, HNA.out] at h; exact h
          by_cases h0 : na = 0
          · have hq0 : decide ((0 : Int) < (na : Int)) = false := decide_eq_false (by omega)
            have hq1 : decide (0 < na) = false := decide_eq_false (by omega)
            have HEN : ∀ w' : World, Below w11.heap.size w11 w' → Calls Tryd.prog 13 #[.slice A11 na c11] w' fun e w'' => e = .returned (.bool false) ∧ Below w'.heap.size w' w'' := by
              intro w' hb
              have h := script_Ends.calls A11 c11 xa false w' (by rw [hxa.out.2.1]; exact Kd.C_below H11.out.2.1 hb) (by rw [hxa.out.2.1]; exact H11.out.2.2) (by rw [← hxa.out.1, ends_f _ (by rw [HNA.out]; omega), HNA.out, hq1, Bool.false_and])
              rw [hxa.out.2.1] at h; exact h.mono (fun _ _ h => ⟨h.1, h.2.below⟩)
            have HEN' := Lib.hid HEN; clear HEN
            clear h0
            go_wp2_with fail
            refine HSM.out.mono ?_
            rintro e w12 ⟨rfl, hb12⟩
            have HB12 := Lib.hid hb12; clear hb12
            go_wp2_with fail
            refine (HEN'.out w12 HB12.out).mono ?_
            rintro e w13 ⟨rfl, hb13⟩
            have H13 := Lib.hid (H11.out.1.trans ((HB12.out.trans (hb13.mono HB12.out.size)).mono H11.out.1.size))
            clear hb13
            go_wp2_with fail
            go_ret
            exact ⟨rfl, H13.out⟩
          · have hq0 : decide ((0 : Int) < (na : Int)) = true := decide_eq_true (by omega)
            have hq1 : decide (0 < na) = true := decide_eq_true (by omega)
            obtain ⟨bq, hbq⟩ : ∃ bq, Hid (((rd_T35 a ((na : Int) - 1)).f0 == 4) = bq) := ⟨_, Lib.hid rfl⟩
            have HEN : ∀ w' : World, Below w11.heap.size w11 w' → Calls Tryd.prog 13 #[.slice A11 na c11] w' fun e w'' => e = .returned (.bool bq) ∧ Below w'.heap.size w' w'' := by
              intro w' hb
              have h := script_Ends.calls A11 c11 xa bq w' (by rw [hxa.out.2.1]; exact Kd.C_below H11.out.2.1 hb) (by rw [hxa.out.2.1]; exact H11.out.2.2) (by rw [← hxa.out.1, ends_f _ (by rw [HNA.out]; omega), HNA.out, hq1, Bool.true_and, hbq.out])
              rw [hxa.out.2.1] at h; exact h.mono (fun _ _ h => ⟨h.1, h.2.below⟩)
            have HEN' := Lib.hid HEN; clear HEN
            go_wp2_with fail
            refine HSM.out.mono ?_
            rintro e w12 ⟨rfl, hb12⟩
            have HB12 := Lib.hid hb12; clear hb12
            go_wp2_with fail
            refine (HEN'.out w12 HB12.out).mono ?_
            rintro e w13 ⟨rfl, hb13⟩
            have H13 := Lib.hid (H11.out.1.trans ((HB12.out.trans (hb13.mono HB12.out.size)).mono H11.out.1.size))
            clear hb13
            have hn0 : 0 < na := by omega
            obtain ⟨ad, A14, c14, rfl, d0, _, _, _, _, _⟩ := at_T35 (Kd.C_below HCa'.out H13.out) ((na : Int) - 1) (by omega) (by omega)
            have hbq2 : ((rd_T35 a ((na : Int) - 1)).f0 == 4) = bq := hbq.out
            rw [show ((na : Int) - 1).toNat = na - 1 from by omega] at d0
            go_wp2_with fail
            go_ret
            exact ⟨rfl, H13.out⟩
end Go.Proofs.YtbcdlbdljejlcaaDoor.scriptJoins
