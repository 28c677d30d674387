/- expo: quote, Print, as Calls. -/
import Derived.Test.YtdbmcikoiilanaaDoorXp6
import Derived.Test.YtdbmcikoiilanaaDoorBl2
set_option linter.unusedVariables false
set_option linter.unusedSimpArgs false
namespace Go.Proofs.YtdbmcikoiilanaaDoor.Xp
open Go.RowKit Go.Proofs.YtdbmcikoiilanaaDoor.B0 Go.Proofs.YtdbmcikoiilanaaDoorW.PrintWords Go.Proofs.YtdbmcikoiilanaaDoor.Bld Go.Proofs.YtdbmcikoiilanaaDoor.Pp Go.Proofs.YtdbmcikoiilanaaDoor.Bl2

theorem isB_below {w w' : World} {B b : Nat} {l : List UInt8} (h : IsB w B b l) (hb : Below w.heap.size w w') : IsB w' B b l := by
  have key : ∀ p, Lib.BuilderAt 75 5 B b p (Lib.byteCells l) w → Lib.BuilderAt 75 5 B b p (Lib.byteCells l) w' := by
    rintro p ⟨h1, v, h2, h3, h4⟩
    exact ⟨h1, v, (hb.block b (lt_of_get h2)).trans h2, pw_own_below h3 hb, h4⟩
  rcases h with h | h
  · exact .inl (key _ h)
  · exact .inr (key _ h)
theorem esc_take (t : BL) (k : Nat) (c : UInt8) (h : t[k]? = some c) : (t.take (k + 1)).flatMap esc = (t.take k).flatMap esc ++ esc c := by
  obtain ⟨hl, e⟩ := List.getElem?_eq_some_iff.1 h
  rw [List.take_succ_eq_append_getElem hl, e, List.flatMap_append]; simp
theorem esc_take_len (t : BL) (k : Nat) : ((t.take k).flatMap esc).length ≤ 2 * t.length := by
  have : ∀ (t : BL), (t.flatMap esc).length ≤ 2 * t.length := by
    intro t
    induction t with
    | nil => simp
    | cons c t ih => have := esc_len c; simp only [List.flatMap_cons, List.length_append, List.length_cons]; omega
  have h1 := this (t.take k)
  have h2 := List.length_take_le' k t
  omega

set_option maxHeartbeats 4000000 in
set_option maxRecDepth 100000 in
theorem quote_c (w : World) (B b : Nat) (l : BL) (s : ByteArray) (h : IsB w B b l) (hB : B ≤ w.heap.size) (hl : l.length + 2 * s.size + 2 ≤ 900000000) :
    Calls Tryd.prog 22 #[.pointer (some ⟨b, 0, none⟩), .string s] w fun e w' => (∃ v, e = .returned v) ∧ IsB w' B b (l ++ quoteL s.data.toList) ∧ Below B w w' ∧ KB b w w' := by
  have HI := Lib.hid h; clear h
  obtain ⟨L, HLs⟩ : ∃ L, Hid (s.data.toList = L ∧ L.length = s.size) := ⟨_, rfl, rfl⟩
  have HW1 := Lib.hid (WByte_d HI.out 34 (by omega) hB)
  rw [HLs.out.1]
  go_enter Tryd.func22, Tryd.ntmps22
  go_wp2_with fail
  refine HW1.out.mono ?_
  rintro e w1 ⟨rfl, hi1, hb1, hk1⟩
  have H1 : Hid (IsB w1 B b (l ++ [34]) ∧ Below B w w1 ∧ KB b w w1 ∧ B ≤ w1.heap.size) := ⟨hi1, hb1, hk1, Nat.le_trans hB hb1.size⟩
  clear hi1 hb1 hk1 HW1
  have hw0 : IntKind.i64.wrap 0 = 0 := by decide
  go_wp2_with fail
  go_loopw [10] (fun iv wr => ∃ k : Nat, iv = .int .i64 k ∧ k ≤ s.size ∧ Hid (IsB wr B b (l ++ 34 :: (L.take k).flatMap esc) ∧ Below B w wr ∧ KB b w wr ∧ B ≤ wr.heap.size)) (fun iv _ => s.size - (intOf iv).toNat)
  case atStart => exact ⟨0, rfl, Nat.zero_le _, by simpa using H1.out.1, H1.out.2⟩
  case round =>
    obtain ⟨k, rfl, hk, HW⟩ := hrel
    by_cases hlt : k < s.size
    · have hki : (k : Int) < (s.size : Int) := by omega
      obtain ⟨c, hc⟩ : ∃ c, Hid (L[k]? = some c ∧ ∀ h : k < s.size, s[k]'h = c) := by
        have hkl : k < L.length := by rw [HLs.out.2]; exact hlt
        refine ⟨L[k], List.getElem?_eq_getElem hkl, fun h => ?_⟩
        have e : s.data.toList[k]? = some L[k] := by rw [HLs.out.1]; exact List.getElem?_eq_getElem hkl
        obtain ⟨_, e2⟩ := List.getElem?_eq_some_iff.1 e
        exact e2
      have hcc : ∀ h : k < s.size, s[k]'h = c := hc.out.2
      have HE : Hid ((L.take (k + 1)).flatMap esc = (L.take k).flatMap esc ++ esc c) := esc_take L k c hc.out.1
      have HN : Hid ((l ++ 34 :: (L.take k).flatMap esc).length ≤ 900000000) := by
        have h1 := esc_take_len L k
        show _ ≤ _
        rw [List.length_append, List.length_cons]; have := HLs.out.2; omega
      by_cases h92 : c = 92 ∨ c = 34
      · have HES : Hid (esc c = [92, c]) := by show _ = _; unfold esc; rw [if_pos h92]
        have HA := Lib.hid (WByte_d HW.out.1 92 (by have := HN.out; omega) HW.out.2.2.2)
        have hcase : ((c.toNat : Int) == 92) = true ∨ (((c.toNat : Int) == 92) = false ∧ ((c.toNat : Int) == 34) = true) := by
          rcases h92 with rfl | rfl
          · exact .inl rfl
          · exact .inr ⟨rfl, rfl⟩
        clear h92
        rcases hcase with f1 | ⟨f1, f2⟩ <;>
        (go_wp2_with fail
         refine HA.out.mono ?_
         rintro e w2 ⟨rfl, hi2, hb2, hk2⟩
         have H2 : Hid (IsB w2 B b (l ++ 34 :: (L.take k).flatMap esc ++ [92]) ∧ Below B w w2 ∧ KB b w w2 ∧ B ≤ w2.heap.size) := ⟨hi2, HW.out.2.1.trans hb2, HW.out.2.2.1.trans hk2, Nat.le_trans HW.out.2.2.2 hb2.size⟩
         clear hi2 hb2 hk2
         go_wp2_with fail
         refine (WByte_d H2.out.1 c (by rw [List.length_append, List.length_singleton]; have := HN.out; omega) H2.out.2.2.2).mono ?_
         rintro e w3 ⟨rfl, hi3, hb3, hk3⟩
         have H3 : Hid (IsB w3 B b (l ++ 34 :: (L.take (k + 1)).flatMap esc) ∧ Below B w w3 ∧ KB b w w3 ∧ B ≤ w3.heap.size) := ⟨by rw [HE.out, HES.out]; simpa using hi3, H2.out.2.1.trans hb3, H2.out.2.2.1.trans hk3, Nat.le_trans H2.out.2.2.2 hb3.size⟩
         clear hi3 hb3 hk3
         go_wp2_with fail
         go_roundw
         case rel => exact ⟨k + 1, by go_num, by omega, H3⟩
         case measure => simp [intOf]; omega)
      · have f1 : ((c.toNat : Int) == 92) = false := by
          rw [beq_eq_false_iff_ne]; intro e; apply h92; left; apply UInt8.toNat_inj.1; have : (92 : UInt8).toNat = 92 := rfl; omega
        have f2 : ((c.toNat : Int) == 34) = false := by
          rw [beq_eq_false_iff_ne]; intro e; apply h92; right; apply UInt8.toNat_inj.1; have : (34 : UInt8).toNat = 34 := rfl; omega
        by_cases h10 : c = 10
        · have f3 : ((c.toNat : Int) == 10) = true := by rw [h10]; rfl
          have HES : Hid (esc c = [92, 110]) := by show _ = _; unfold esc; rw [if_neg h92, if_pos h10]
          have HA := Lib.hid (WString_d HW.out.1 ⟨#[92, 110]⟩ (by have := HN.out; omega) (by decide) HW.out.2.2.2)
          clear h92 h10
          go_wp2_with fail
          refine HA.out.mono ?_
          rintro e w3 ⟨rfl, hi3, hb3, hk3⟩
          have H3 : Hid (IsB w3 B b (l ++ 34 :: (L.take (k + 1)).flatMap esc) ∧ Below B w w3 ∧ KB b w w3 ∧ B ≤ w3.heap.size) := ⟨by rw [HE.out, HES.out]; simpa using hi3, HW.out.2.1.trans hb3, HW.out.2.2.1.trans hk3, Nat.le_trans HW.out.2.2.2 hb3.size⟩
          clear hi3 hb3 hk3
          go_wp2_with fail
          go_roundw
          case rel => exact ⟨k + 1, by go_num, by omega, H3⟩
          case measure => simp [intOf]; omega
        · have f3 : ((c.toNat : Int) == 10) = false := by
            rw [beq_eq_false_iff_ne]; intro e; apply h10; apply UInt8.toNat_inj.1; have : (10 : UInt8).toNat = 10 := rfl; omega
          have HES : Hid (esc c = [c]) := by show _ = _; unfold esc; rw [if_neg h92, if_neg h10]
          have HA := Lib.hid (WByte_d HW.out.1 c (by have := HN.out; omega) HW.out.2.2.2)
          clear h92 h10
          go_wp2_with fail
          refine HA.out.mono ?_
          rintro e w3 ⟨rfl, hi3, hb3, hk3⟩
          have H3 : Hid (IsB w3 B b (l ++ 34 :: (L.take (k + 1)).flatMap esc) ∧ Below B w w3 ∧ KB b w w3 ∧ B ≤ w3.heap.size) := ⟨by rw [HE.out, HES.out]; simpa using hi3, HW.out.2.1.trans hb3, HW.out.2.2.1.trans hk3, Nat.le_trans HW.out.2.2.2 hb3.size⟩
          clear hi3 hb3 hk3
          go_wp2_with fail
          go_roundw
          case rel => exact ⟨k + 1, by go_num, by omega, H3⟩
          case measure => simp [intOf]; omega
    · obtain rfl : k = s.size := by omega
      have HT : Hid (L.take s.size = L) := List.take_of_length_le (by rw [HLs.out.2]; exact Nat.le_refl _)
      have HA := Lib.hid (WByte_d HW.out.1 34 (by have h1 := esc_take_len L s.size; rw [List.length_append, List.length_cons]; have := HLs.out.2; omega) HW.out.2.2.2)
      go_wp2_with fail
      refine HA.out.mono ?_
      rintro e w3 ⟨rfl, hi3, hb3, hk3⟩
      have H3 : Hid (IsB w3 B b (l ++ quoteL L) ∧ Below B w w3 ∧ KB b w w3) := ⟨by rw [HT.out] at hi3; simpa [quoteL] using hi3, HW.out.2.1.trans hb3, HW.out.2.2.1.trans hk3⟩
      clear hi3 hb3 hk3
      go_wp2_with fail
      go_end0
      exact ⟨⟨_, rfl⟩, H3.out⟩
end Go.Proofs.YtdbmcikoiilanaaDoor.Xp
