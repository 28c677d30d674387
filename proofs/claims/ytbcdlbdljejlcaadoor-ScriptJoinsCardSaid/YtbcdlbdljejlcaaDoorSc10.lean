/- script: Parse, as a Call. -/
import Derived.Test.YtbcdlbdljejlcaaDoorSc9
set_option linter.unusedVariables false
set_option linter.unusedSimpArgs false
namespace Go.Proofs.YtbcdlbdljejlcaaDoor.Sc
open Go.RowKit Go.Proofs.YtbcdlbdljejlcaaDoor.B0 Go.Proofs.YtbcdlbdljejlcaaDoor.Ps Go.Proofs.YtbcdlbdljejlcaaDoorW.PrintWords Go.Proofs.YtbcdlbdljejlcaaDoor.Bld

theorem parseL_step (l : List UInt8) (h : l ≠ []) : parseL l = if (Lib.cut l [10]).2.2 = true then (stepL (Lib.cut l [10]).1).bind fun x => if okS x then (parseL (Lib.cut l [10]).2.1).map (x :: ·) else none else none := by
  have e : parseL l = parseF (l.length + 1) l := rfl
  rw [e, parseF_succ, if_neg h]
  rcases cut_cases l with ⟨_, ec⟩ | ⟨a, b, _, es, ec⟩
  · rw [ec]; rfl
  · rw [ec, parseL_of l.length b (by rw [es, List.length_append, List.length_cons]; omega)]
theorem cut_len (l : List UInt8) : (Lib.cut l [10]).1.length ≤ l.length ∧ ((Lib.cut l [10]).2.2 = true → (Lib.cut l [10]).2.1.length < l.length) := by
  rcases cut_cases l with ⟨_, ec⟩ | ⟨a, b, _, es, ec⟩
  · rw [ec]; exact ⟨Nat.le_refl _, fun h => by cases h⟩
  · rw [ec, es, List.length_append, List.length_cons]; exact ⟨by show a.length ≤ _; omega, fun _ => by show b.length < _; omega⟩
def strSize (v : Value) : Nat := match v with | .string b => b.size | _ => 0
/-- the steps so far. -/
def PSL (w : World) (B : Nat) (v : Value) (xs : List Stp) : Prop := Kd.S k32 32 w B (fun _ => True) v xs

set_option maxHeartbeats 8000000 in
set_option maxRecDepth 100000 in
theorem Parse_c (s : ByteArray) (hs : s.size ≤ 4194304) (w : World) (h : LP w) :
    Calls Tryd.prog 7 #[.string s] w fun e w' => ∃ (v : Value) (er : Int), e = .returned (.tuple #[v, .int .i64 er]) ∧
      ((∃ xs, parseL s.data.toList = some xs ∧ er = 0 ∧ PSL w' w.heap.size v xs) ∨ (parseL s.data.toList = none ∧ er = 11 ∧ v = .slice none 0 0)) ∧ Below w.heap.size w w' := by
  have HL := Lib.hid h; clear h
  obtain ⟨P0, hP0⟩ : ∃ P0, Hid (parseL s.data.toList = P0) := ⟨_, Lib.hid rfl⟩
  have hln : decide ((4194304 : Int) < (s.size : Int)) = false := decide_eq_false (by omega)
  have hln2 : decide (4194304 < s.size) = false := decide_eq_false (by omega)
  rw [hP0.out]
  go_enter Tryd.func7, Tryd.ntmps7
  go_wp2_with fail
  go_loopw [0, 4] (fun sv lv wr => ∃ (sr : ByteArray) (xs : List Stp) (av : Value), sv = .string sr ∧ lv = av ∧ sr.size ≤ s.size ∧ xs.length + sr.size ≤ s.size ∧ Hid (P0 = (parseL sr.data.toList).map (xs ++ ·) ∧ PSL wr w.heap.size av xs ∧ Below w.heap.size w wr)) (fun sv _ _ => strSize sv)
  case atStart =>
    refine ⟨s, [], _, rfl, rfl, Nat.le_refl _, by simp, ?_, Kd.S_nil _ _ _ _ _, Below.refl _ _⟩
    rw [← hP0.out]; cases parseL s.data.toList <;> rfl
  case round =>
    obtain ⟨sr, xs, av, rfl, rfl, hsr, hxs, HW⟩ := hrel
    by_cases h0 : sr.data.toList = []
    · have hq : (sr.toList == []) = true := by rw [ba_toList, h0]; rfl
      obtain rfl : sr = ⟨#[]⟩ := by obtain ⟨⟨l⟩⟩ := sr; simp at h0; subst h0; rfl
      have HP : Hid (P0 = some xs) := by
        rw [HW.out.1]
        show (parseF 1 []).map _ = _
        simp [parseF]
      go_wp2_with fail
      go_ret2
      exact ⟨_, _, rfl, .inl ⟨xs, HP.out, rfl, HW.out.2.1⟩, HW.out.2.2⟩
    · have hq : (sr.toList == []) = false := by rw [ba_toList]; exact beq_eq_false_iff_ne.2 h0
      have HPS := Lib.hid (parseL_step _ h0)
      have HCL := Lib.hid (cut_len sr.data.toList)
      clear h0
      have HLr : Hid (LP wr) := HL.out.below HW.out.2.2
      go_wp2_with fail
      refine (Cut_c sr wr (by omega) HLr.out).mono ?_
      rintro e w1 ⟨rfl, hb1⟩
      have H1 : Hid (Below w.heap.size w w1 ∧ PSL w1 w.heap.size u4 xs) := ⟨HW.out.2.2.trans (hb1.mono HW.out.2.2.size), Kd.S_below HW.out.2.1 hb1⟩
      clear hb1
      obtain ⟨⟨la, lb, wh⟩, hcut⟩ : ∃ p : List UInt8 × List UInt8 × Bool, Hid (Lib.cut sr.data.toList [10] = p) := ⟨_, Lib.hid rfl⟩
      have HP2 : Hid (P0 = ((if wh = true then (stepL la).bind (fun x => if okS x then (parseL lb).map (x :: ·) else none) else none) : Option (List Stp)).map (xs ++ ·)) := by
        have := HPS.out; rw [hcut.out] at this
        show _ = _
        rw [HW.out.1, this]
      have HC2 : Hid (la.length ≤ sr.size ∧ (wh = true → lb.length < sr.size)) := by have := HCL.out; rw [hcut.out] at this; exact this
      rw [hcut.out]
      dsimp only
      obtain ⟨sa, hsa⟩ : ∃ sa : ByteArray, Hid ((⟨la.toArray⟩ : ByteArray) = sa ∧ sa.data.toList = la ∧ sa.size = la.length) := ⟨_, rfl, rfl, rfl⟩
      obtain ⟨sb, hsb⟩ : ∃ sb : ByteArray, Hid ((⟨lb.toArray⟩ : ByteArray) = sb ∧ sb.data.toList = lb ∧ sb.size = lb.length) := ⟨_, rfl, rfl, rfl⟩
      rw [hsa.out.1, hsb.out.1]
      clear HPS HCL hcut HLr
      have HL1 : Hid (LP w1) := HL.out.below H1.out.1
      go_wp2_with fail
      refine (step_c sa (by have := HC2.out.1; have := hsa.out.2.2; omega) w1 HL1.out).mono ?_
      rintro e w2 ⟨y, v, rfl, hy, hO, hb2⟩
      rw [hsa.out.2.1] at hy ⊢
      obtain ⟨A3, c3, rfl, hc3, hr3⟩ := hO.cap
      obtain ⟨ok, hok⟩ : ∃ ok, Hid ((stepL la).isSome = ok ∧ ∀ x, stepL la = some x → y = x) := ⟨_, rfl, hy⟩
      rw [hok.out.1]
      have H2 : Hid (Below w.heap.size w w2 ∧ PSL w2 w.heap.size u4 xs ∧ OB w2 w1.heap.size (.slice A3 y.f3.length c3) y.f3 ∧ w1.heap.size ≤ w2.heap.size) := ⟨H1.out.1.trans (hb2.mono H1.out.1.size), Kd.S_below H1.out.2 hb2, hO, hb2.size⟩
      have HB12 := Lib.hid hb2
      clear hy hO hc3 hr3 hb2
      unfold stepV
      obtain ⟨w3, hw3⟩ : ∃ w3, Hid (w2.alloc (.cells #[.int .i64 y.f0, .int .i64 y.f1, .int .i64 y.f2, .slice A3 y.f3.length c3] 32) = w3) := ⟨_, Lib.hid rfl⟩
      have hb3 : Below w2.heap.size w2 w3 := by rw [← hw3.out]; exact (Below.refl _ _).alloc (Nat.le_refl _) _
      have H3 : Hid (Below w.heap.size w w3 ∧ RV w3 w2.heap.size (.int .i64 y.f0) (.int .i64 y.f1) (.int .i64 y.f2) (.slice A3 y.f3.length c3)) :=
        ⟨H2.out.1.trans (hb3.mono H2.out.1.size), by rw [← hw3.out]; exact mk_at⟩
      have hbad : (wh = false ∨ ok = false) → P0 = none := by
        rintro (rfl | rfl)
        · rw [HP2.out]; rfl
        · have hn : stepL la = none := Option.isNone_iff_eq_none.1 (by have := hok.out.1; revert this; cases stepL la <;> simp)
          rw [HP2.out, hn]; cases wh <;> rfl
      cases wh
      · have HN := Lib.hid (hbad (.inl rfl)); clear hbad hb3
        go_wp2_with fail
        rw [hw3.out]
        go_ret2
        exact ⟨_, _, rfl, .inr ⟨HN.out, rfl, rfl⟩, H3.out.1⟩
      · cases ok
        · have HN := Lib.hid (hbad (.inr rfl)); clear hbad hb3
          go_wp2_with fail
          rw [hw3.out]
          go_ret2
          exact ⟨_, _, rfl, .inr ⟨HN.out, rfl, rfl⟩, H3.out.1⟩
        · clear hbad
          have hsy : stepL la = some y := by
            obtain ⟨x, hx⟩ := Option.isSome_iff_exists.1 hok.out.1
            rw [hok.out.2 x hx]; exact hx
          have HSY := Lib.hid hsy; clear hsy
          have AP : Hid (∀ k, some k = (Value.slice A3 y.f3.length c3).ownBlock → w1.heap.size ≤ k) := fun k hk => own_base H2.out.2.2.1 k hk.symm
          have APL : Hid (∀ k, u4.ownBlock = some k → k < w1.heap.size) := Kd.S_lt H1.out.2
          have S1 : Hid (Kd.S k32 32 w3 w.heap.size (fun k => True ∧ ¬ some k = (Value.slice A3 y.f3.length c3).ownBlock) u4 xs) := by
            have h1 := Kd.S_mono (ok' := fun k => True ∧ ¬ some k = (Value.slice A3 y.f3.length c3).ownBlock) (Kd.S_bound H1.out.2) (fun k hk => ⟨trivial, fun e => by have := AP.out k e; have := hk.2.2.1; omega⟩)
            exact Kd.S_below (Kd.S_below h1 HB12.out) hb3
          have C3 : Hid (Kd.C (Kd.int .u8) w3 A3 y.f3.length y.f3 ∧ y.f3.length ≤ c3 ∧ OB w3 w1.heap.size (.slice A3 y.f3.length c3) y.f3) := by
            have h1 : (Kd.int .u8).R 5 w3 w1.heap.size (fun _ => True) (.slice A3 y.f3.length c3) y.f3 := Kd.R_of_own (enc := Value.int .u8) (h1 := fun _ => rfl) (H2.out.2.2.1.below hb3) (fun _ _ => trivial)
            obtain ⟨A', c', e, h2, h3⟩ := Kd.R_reads h1
            simp only [Value.slice.injEq] at e
            obtain ⟨rfl, _, rfl⟩ := e
            exact ⟨h3, h2, H2.out.2.2.1.below hb3⟩
          clear hb3
          obtain ⟨r, hrr, hr0, hck⟩ := Check_c y A3 c3 w3 C3.out.1 C3.out.2.1
          have HCk := Lib.hid hck; clear hck
          by_cases hoy : okS y
          · obtain rfl : r = 0 := hr0.2 hoy
            clear hr0 hrr
            have HOY := Lib.hid hoy; clear hoy
            go_wp2_with fail
            rw [hw3.out]
            refine HCk.out.mono ?_
            rintro e w4 ⟨rfl, hb4⟩
            have H4 : Hid (Below w.heap.size w w4 ∧ RV w4 w2.heap.size (.int .i64 y.f0) (.int .i64 y.f1) (.int .i64 y.f2) (.slice A3 y.f3.length c3) ∧ OB w4 w1.heap.size (.slice A3 y.f3.length c3) y.f3 ∧
                Kd.S k32 32 w4 w.heap.size (fun k => True ∧ ¬ some k = (Value.slice A3 y.f3.length c3).ownBlock) u4 xs) :=
              ⟨H3.out.1.trans (hb4.mono H3.out.1.size), H3.out.2.below hb4, C3.out.2.2.below hb4, Kd.S_below S1.out hb4⟩
            clear hb4
            obtain ⟨e0, e1, e2, e3⟩ := H4.out.2.1.cells
            have hw1s : Hid (w.heap.size ≤ w1.heap.size) := H1.out.1.size
            go_wp2_with (at_builtin; go_loud (refine Kd.S_append k32 (w0 := w) w.heap.size rfl _ _ 23 32 (.agg #[(.int .i64 0), (.int .i64 0), (.int .i64 0), (.slice none 0 0)]) 48 rfl Tryd.underlying23 info32 rfl (by decide) (by decide) u4 xs y [.int .i64 y.f0, .int .i64 y.f1, .int .i64 y.f2, .slice A3 y.f3.length c3] (fun _ => True) (fun k => some k = (Value.slice A3 y.f3.length c3).ownBlock) rfl rfl ?aP (fun k hk => ⟨trivial, fun e => by have h1 := AP.out k hk; have h2 := APL.out k e.symm; omega⟩) (fun _ _ => trivial) H4.out.2.2.2 H4.out.1 H4.out.1.size (by omega) ?_))
            case aP => exact k32_mkM _ _ _ y (Kd.R_of_own (enc := Value.int .u8) (h1 := fun _ => rfl) (H4.out.2.2.1.lower hw1s.out) (fun k hk => hk.symm))
            intro v1 w5 hS hB hG hat
            have H5 : Hid (PSL w5 w.heap.size v1 (xs ++ [y]) ∧ Below w.heap.size w w5) := ⟨hS, hB⟩
            clear hS hB hG hat e0 e1 e2 e3
            go_wp2_with fail
            go_roundw
            case rel =>
              have hlb : lb.length < sr.size := HC2.out.2 trivial
              refine ⟨sb, xs ++ [y], v1, rfl, rfl, by have := hsb.out.2.2; omega, by have := hsb.out.2.2; rw [List.length_append, List.length_singleton]; omega, ?_, H5.out⟩
              rw [HP2.out, if_pos trivial, HSY.out]
              show Option.map _ (if okS y then _ else _) = _
              rw [if_pos HOY.out, hsb.out.2.1]
              cases parseL lb <;> simp
            case measure =>
              have hlb : lb.length < sr.size := HC2.out.2 trivial
              show sb.size < sr.size
              have := hsb.out.2.2; omega
          · have HN : Hid (P0 = none) := by
              show _ = _
              rw [HP2.out, if_pos rfl, HSY.out]
              show Option.map _ (if okS y then _ else _) = _
              rw [if_neg hoy]; rfl
            rcases hrr with rfl | rfl | rfl
            · exact absurd (hr0.1 rfl) hoy
            · go_wp2_with fail
              rw [hw3.out]
              refine HCk.out.mono ?_
              rintro e w4 ⟨rfl, hb4⟩
              have H4 := Lib.hid (H3.out.1.trans (hb4.mono H3.out.1.size)); clear hb4
              go_wp2_with fail
              go_ret2
              exact ⟨_, _, rfl, .inr ⟨HN.out, rfl, rfl⟩, H4.out⟩
            · go_wp2_with fail
              rw [hw3.out]
              refine HCk.out.mono ?_
              rintro e w4 ⟨rfl, hb4⟩
              have H4 := Lib.hid (H3.out.1.trans (hb4.mono H3.out.1.size)); clear hb4
              go_wp2_with fail
              go_ret2
              exact ⟨_, _, rfl, .inr ⟨HN.out, rfl, rfl⟩, H4.out⟩
end Go.Proofs.YtbcdlbdljejlcaaDoor.Sc
