/- expo: Parse, as a Call. -/
import Derived.Test.YtdbmcikoiilanaaDoorXp11
set_option linter.unusedVariables false
set_option linter.unusedSimpArgs false
namespace Go.Proofs.YtdbmcikoiilanaaDoor.Xp
open Go.RowKit Go.Proofs.YtdbmcikoiilanaaDoor.B0 Go.Proofs.YtdbmcikoiilanaaDoorW.PrintWords Go.Proofs.YtdbmcikoiilanaaDoor.Bld Go.Proofs.YtdbmcikoiilanaaDoor.Pp Go.Proofs.YtdbmcikoiilanaaDoor.Bl2

def rdM (w : World) (R : Nat) : Nat := match w.cell? ⟨R, 1, none⟩ with | some (.bool true) => 0 | _ => 1 + rdSize w R
theorem rdM_bad {w : World} {R : Nat} {s : ByteArray} (h : RD w R s true) : rdM w R = 0 := by unfold rdM; rw [h.c1]
theorem rdM_ok {w : World} {R : Nat} {s : ByteArray} (h : RD w R s false) : rdM w R = 1 + s.size := by unfold rdM; rw [h.c1, rdSize_of h]
/-- the lines so far. -/
def PSL (w : World) (B : Nat) (v : Value) (xs : List SLin) : Prop := Kd.S k43 43 w B (fun _ => True) v xs
def okV (xs : List SLin) : Prop := ∀ x ∈ xs, 0 ≤ x.f2 ∧ x.f2 < 18446744073709551616
/-- at Parse's loop's head. -/
def PI (s : BL) (sr : BL) (bd : Bool) (xs : List SLin) : Prop :=
  (bd = true ∧ parseM s = none) ∨ (bd = false ∧ okV xs ∧ ((xs.map lnM).flatMap lineP).length + 32 * sr.length ≤ 32 * s.length ∧ ∃ f, sr.length < f ∧ parseM s = parseF f sr (xs.map lnM))
theorem PI_step (s sr : ByteArray) (s8 : ByteArray) (b8 : Bool) (x : SLin) (xs : List SLin) (h : PI s.data.toList sr.data.toList false xs) (hne : sr.data.toList ≠ []) (hp : LPost sr x s8 b8) : PI s.data.toList s8.data.toList b8 (xs ++ [x]) := by
  rcases h with ⟨h, _⟩ | ⟨_, hv, hl, f, hf, he⟩
  · cases h
  obtain ⟨g, rfl⟩ : ∃ g, f = g + 1 := ⟨f - 1, by omega⟩
  rw [parseF, if_neg hne] at he
  rcases hp with ⟨h1, h2, rfl⟩ | ⟨h1, rfl⟩
  · obtain ⟨h3, h4⟩ := line_len _ _ _ h1
    refine .inr ⟨rfl, ?_, ?_, g, ?_, ?_⟩
    · intro y hy
      rcases List.mem_append.1 hy with hy | hy
      · exact hv y hy
      · rw [List.mem_singleton] at hy; subst hy
        have h5 : (lnM y).v = y.f2.toNat := rfl
        exact ⟨h2, by omega⟩
    · rw [List.map_append, List.flatMap_append, List.length_append]
      simp only [List.map_cons, List.map_nil, List.flatMap_cons, List.flatMap_nil, List.append_nil]
      omega
    · have : 0 < (lineP (lnM x)).length := List.length_pos_iff.2 (lineP_ne _)
      omega
    · rw [he, h1, Option.bind_some, List.map_append]; rfl
  · exact .inl ⟨rfl, by rw [he, h1]; rfl⟩
theorem PI_end (s : BL) (bd : Bool) (xs : List SLin) (h : PI s [] bd xs) : (bd = true ∧ parseM s = none) ∨ (bd = false ∧ okV xs ∧ ((xs.map lnM).flatMap lineP).length ≤ 32 * s.length ∧ parseM s = some (xs.map lnM)) := by
  rcases h with h | ⟨h, hv, hl, f, hf, he⟩
  · exact .inl h
  · obtain ⟨g, rfl⟩ : ∃ g, f = g + 1 := ⟨f - 1, by simp at hf; omega⟩
    exact .inr ⟨h, hv, by simpa using hl, by rw [he, parseF, if_pos rfl]⟩
def PEnd (s : ByteArray) (w w' : World) (v : Value) (er : Int) : Prop := (∃ xs, parseR s.data.toList = some (xs.map lnM) ∧ er = 0 ∧ PSL w' w.heap.size v xs ∧ okV xs ∧ ((xs.map lnM).flatMap lineP).length ≤ 200000000) ∨ (parseR s.data.toList = none ∧ er = 11 ∧ v = .slice none 0 0)

set_option maxHeartbeats 8000000 in
set_option maxRecDepth 100000 in
theorem Parse_c (s : ByteArray) (hs : s.size ≤ 4194304) (w : World) (h : LP w) :
    Calls Tryd.prog 11 #[.string s] w fun e w' => ∃ (v : Value) (er : Int), e = .returned (.tuple #[v, .int .i64 er]) ∧ PEnd s w w' v er ∧ Below w.heap.size w w' := by
  have HL := Lib.hid h; clear h
  have hln : decide ((4194304 : Int) < (s.size : Int)) = false := decide_eq_false (by omega)
  have hln2 : decide (4194304 < s.size) = false := decide_eq_false (by omega)
  obtain ⟨R, hR⟩ : ∃ R, Hid (w.heap.size = R) := ⟨_, Lib.hid rfl⟩
  obtain ⟨w1, hw1⟩ : ∃ w1, Hid (w.alloc (.cells #[.string s, .bool false] 87) = w1) := ⟨_, Lib.hid rfl⟩
  have H1 : Hid (RD w1 R s false ∧ Below w.heap.size w w1 ∧ w1.heap.size = w.heap.size + 1) := ⟨by rw [← hw1.out, ← hR.out]; exact allocN _ _, by rw [← hw1.out]; exact (Below.refl _ _).alloc (Nat.le_refl _) _, by rw [← hw1.out]; exact size_alloc _ _⟩
  go_enter Tryd.func11, Tryd.ntmps11
  go_upto_region 4 with fail
  rw [hw1.out, hR.out]
  go_wp2_with fail
  go_loopw [5] (fun lv wr => ∃ (xs : List SLin) (av : Value), lv = av ∧ Hid (∃ (sr : ByteArray) (bd : Bool), RD wr R sr bd ∧ Below w.heap.size w wr ∧ w.heap.size + 1 ≤ wr.heap.size ∧ PSL wr (w.heap.size + 1) av xs ∧ PI s.data.toList sr.data.toList bd xs)) (fun _ wr => rdM wr R)
  case atStart => exact ⟨[], _, rfl, s, false, H1.out.1, H1.out.2.1, by have := H1.out.2.2; omega, Kd.S_nil _ _ _ _ _, .inr ⟨rfl, fun _ h => absurd h List.not_mem_nil, by simp, s.data.toList.length + 1, Nat.lt_succ_self _, rfl⟩⟩
  case round =>
    obtain ⟨xs, av, rfl, HO⟩ := hrel
    obtain ⟨sr, bd, hH⟩ := HO.out
    have HW := Lib.hid hH; clear hH HO
    have g0 := HW.out.1.c0; have g1 := HW.out.1.c1
    cases bd
    · rcases hl : sr.data.toList with _ | ⟨c, r⟩
      · -- all is read
        have hq : (sr.toList == []) = true := by rw [ByteArray.toList_eq, hl]; rfl
        have HE : Hid (okV xs ∧ ((xs.map lnM).flatMap lineP).length ≤ 200000000 ∧ parseM s.data.toList = some (xs.map lnM)) := by
          have h := HW.out.2.2.2.2
          rw [hl] at h
          rcases PI_end _ _ _ h with ⟨h, _⟩ | ⟨_, h1, h2, h3⟩
          · cases h
          · exact ⟨h1, by have : s.data.toList.length = s.size := rfl; omega, h3⟩
        clear hl
        obtain ⟨A, c, rfl, hc, hC⟩ := Kd.S_reads HW.out.2.2.2.1
        have HP := Lib.hid (Print_c wr (HL.out.below HW.out.2.1) A c xs hC HE.out.1 HE.out.2.1)
        obtain ⟨n, hn⟩ : ∃ n, Hid (xs.length = n) := ⟨_, Lib.hid rfl⟩
        have HS : Hid (PSL wr (w.heap.size + 1) (.slice A n c) xs ∧ Below w.heap.size w wr) := ⟨by rw [← hn.out]; exact HW.out.2.2.2.1, HW.out.2.1⟩
        rw [hn.out] at HP
        rw [hn.out]
        obtain ⟨sp, hsp⟩ : ∃ sp : ByteArray, Hid (strV (printP (xs.map lnM)) = .string sp ∧ sp.data.toList = printP (xs.map lnM)) := ⟨⟨(printP (xs.map lnM)).toArray⟩, rfl, rfl⟩
        rw [hsp.out.1] at HP
        clear hC hc
        by_cases heq : printP (xs.map lnM) = s.data.toList
        · have hqq : (sp.toList == s.toList) = true := by rw [ByteArray.toList_eq, ByteArray.toList_eq, hsp.out.2, heq]; simp
          have HR : Hid (parseR s.data.toList = some (xs.map lnM)) := by show _ = _; unfold parseR; rw [HE.out.2.2, Option.bind_some, if_pos heq]
          clear heq
          go_wp2_with fail
          refine HP.out.mono ?_
          rintro e w5 ⟨rfl, hb5⟩
          have H5 : Hid (PSL w5 w.heap.size (.slice A n c) xs ∧ Below w.heap.size w w5) := ⟨Kd.S_lower (Kd.S_below HS.out.1 hb5) (Nat.le_succ _), HS.out.2.trans (hb5.mono HS.out.2.size)⟩
          clear hb5
          go_wp2_with fail
          go_ret2
          exact ⟨_, _, rfl, Or.inl ⟨xs, HR.out, rfl, H5.out.1, HE.out.1, HE.out.2.1⟩, H5.out.2⟩
        · have hqq : (sp.toList == s.toList) = false := by rw [ByteArray.toList_eq, ByteArray.toList_eq, hsp.out.2]; exact beq_eq_false_iff_ne.2 heq
          have HR : Hid (parseR s.data.toList = none) := by show _ = _; unfold parseR; rw [HE.out.2.2, Option.bind_some, if_neg heq]
          clear heq
          go_wp2_with fail
          refine HP.out.mono ?_
          rintro e w5 ⟨rfl, hb5⟩
          have H5 : Hid (Below w.heap.size w w5) := HS.out.2.trans (hb5.mono HS.out.2.size)
          clear hb5
          go_wp2_with fail
          go_ret2
          exact ⟨_, _, rfl, Or.inr ⟨HR.out, rfl, rfl⟩, H5.out⟩
      · have hq : (sr.toList == []) = false := by rw [ByteArray.toList_eq, hl]; rfl
        have HNE : Hid (sr.data.toList ≠ []) := by show _ ≠ _; rw [hl]; simp
        clear hl
        have hxb : xs.length ≤ 200000000 ∧ sr.size ≤ 4200000 := by
          rcases HW.out.2.2.2.2 with ⟨h, _⟩ | ⟨_, _, h, _⟩
          · cases h
          · have h1 := flat_len (xs.map lnM)
            rw [List.length_map] at h1
            have h2 : s.data.toList.length = s.size := rfl
            have h3 : sr.data.toList.length = sr.size := rfl
            omega
        have HLN := Lib.hid (line_c wr R sr HW.out.1 (HL.out.below HW.out.2.1) (fun w' hf => HL.out.below (HW.out.2.1.trans (hf.belowB HW.out.2.1.size (fun k hk => by rw [List.mem_singleton] at hk; have := hR.out; omega)))) hxb.2)
        have hms : rdM wr R = 1 + sr.size := rdM_ok HW.out.1
        go_wp2_with fail
        refine HLN.out.mono ?_
        rintro e w2 ⟨x, v1, s8, b8, rfl, hr8, hd8, hf8, hp8⟩
        have hbw : Below w.heap.size w w2 := HW.out.2.1.trans (hf8.belowB HW.out.2.1.size (fun k hk => by rw [List.mem_singleton] at hk; have := hR.out; omega))
        have AP : Hid (∀ k, some k = v1.ownBlock → wr.heap.size ≤ k) := fun k hk => Kd.R_base hr8 k hk.symm
        have AL : Hid (∀ k, u5.ownBlock = some k → k < wr.heap.size) := Kd.S_lt HW.out.2.2.2.1
        have HR8 : Hid (Kd.R k71 71 w2 (w.heap.size + 1) (fun k => some k = v1.ownBlock) v1 x.f1) := Kd.R_flat (fun h => h) (Kd.R_lower hr8 HW.out.2.2.1) (fun k hk _ => hk.symm)
        have S1 : Hid (Kd.S k43 43 w2 (w.heap.size + 1) (fun k => True ∧ ¬ some k = v1.ownBlock) u5 xs) := by
          have h1 := Kd.S_mono (ok' := fun k => (True ∧ ¬ some k = v1.ownBlock) ∧ w.heap.size + 1 ≤ k) (Kd.S_bound HW.out.2.2.2.1) (fun k hk => ⟨⟨trivial, fun e => by have := AP.out k e; have := hk.2.2.1; omega⟩, hk.2.1⟩)
          exact Kd.S_mono (Kd.S_step h1 (fun k hk hlt => hf8.block k hlt (by have := hR.out; have := hk.2; simp; omega))) (fun _ hk => hk.1)
        have HPI : Hid (PI s.data.toList s8.data.toList b8 (xs ++ [x])) := PI_step s sr s8 b8 x xs HW.out.2.2.2.2 HNE.out hp8
        have HMS : Hid (∀ W, RD W R s8 b8 → rdM W R < 1 + sr.size) := fun W hW => by
          cases b8
          · rw [rdM_ok hW]
            rcases hp8 with ⟨h, _⟩ | ⟨_, h⟩
            · have h1 := (line_len _ _ _ h).2
              have h2 : 0 < (lineP (lnM x)).length := List.length_pos_iff.2 (lineP_ne _)
              have h3 : s8.data.toList.length = s8.size := rfl
              have h4 : sr.data.toList.length = sr.size := rfl
              omega
            · cases h
          · rw [rdM_bad hW]; omega
        have H2 : Hid (RD w2 R s8 b8 ∧ Below w.heap.size w w2 ∧ w.heap.size + 1 ≤ w2.heap.size) := ⟨hd8, hbw, Nat.le_trans HW.out.2.2.1 hf8.size⟩
        clear hr8 hd8 hf8 hp8 hbw HLN g0 g1
        go_wp2_with (at_builtin; go_loud (refine Kd.S_append k43 (w0 := w2) (w.heap.size + 1) rfl _ _ 32 43 (.agg #[(.string ⟨#[]⟩), (.slice none 0 0), (.int .u64 0)]) 48 rfl Tryd.underlying32 info43 rfl (by decide) (by decide) u5 xs x [.string x.f0, v1, .int .u64 x.f2] (fun _ => True) (fun k => some k = v1.ownBlock) rfl rfl (k43_mkM _ _ _ x HR8.out) (fun k hk => ⟨trivial, fun e => by have h1 := AP.out k hk; have h2 := AL.out k e.symm; omega⟩) (fun _ _ => trivial) S1.out (Below.refl _ _) H2.out.2.2 (by have := hxb.1; omega) ?_))
        intro v9 w9 hS hB hG hat
        have H9 : Hid (RD w9 R s8 b8 ∧ Below w.heap.size w w9 ∧ w.heap.size + 1 ≤ w9.heap.size ∧ PSL w9 (w.heap.size + 1) v9 (xs ++ [x])) :=
          ⟨H2.out.1.keep hB (by have := hR.out; omega), H2.out.2.1.trans (hB.mono (Nat.le_succ _)), Nat.le_trans H2.out.2.2 hB.size, hS⟩
        have HM9 := Lib.hid (HMS.out w9 H9.out.1)
        clear hS hB hG hat
        go_wp2_with fail
        go_roundw
        case rel => exact ⟨xs ++ [x], v9, rfl, s8, b8, H9.out.1, H9.out.2.1, H9.out.2.2.1, H9.out.2.2.2, HPI.out⟩
        case measure => rw [hms]; exact HM9.out
    · have HE : Hid (parseR s.data.toList = none) := by
        rcases HW.out.2.2.2.2 with ⟨_, h⟩ | ⟨h, _⟩
        · show _ = _; unfold parseR; rw [h]; rfl
        · cases h
      rcases Bool.eq_false_or_eq_true (sr.toList == []) with hq | hq
      · go_wp2_with fail
        go_ret2
        exact ⟨_, _, rfl, Or.inr ⟨HE.out, rfl, rfl⟩, HW.out.2.1⟩
      · go_wp2_with fail
        go_ret2
        exact ⟨_, _, rfl, Or.inr ⟨HE.out, rfl, rfl⟩, HW.out.2.1⟩
end Go.Proofs.YtdbmcikoiilanaaDoor.Xp
