/- script: small, hex, as Calls. -/
import Derived.Test.YtbcdlbdljejlcaaDoorSc3
import Derived.Test.YtbcdlbdljejlcaaDoorPs6
import Derived.LoopTactic
import Derived.Laws.BitsLemmas
set_option linter.unusedVariables false
set_option linter.unusedSimpArgs false
namespace Go.Proofs.YtbcdlbdljejlcaaDoor.Sc
open Go.RowKit Go.Proofs.YtbcdlbdljejlcaaDoor.B0 Go.Proofs.YtbcdlbdljejlcaaDoor.Ps Go.Proofs.YtbcdlbdljejlcaaDoorW.PrintWords Go.Proofs.YtbcdlbdljejlcaaDoor.Bld

theorem ba_toList (s : ByteArray) : s.toList = s.data.toList := ByteArray.toList_eq s

set_option maxHeartbeats 1000000 in
set_option maxRecDepth 100000 in
theorem small_c (s : ByteArray) (w : World) (hs : s.size ≤ 5000000) (h : LP w) :
    Calls Tryd.prog 24 #[.string s] w fun e w' => e = .returned (.tuple #[.int .i64 (smallL s.data.toList).1, .bool (smallL s.data.toList).2]) ∧ Below w.heap.size w w' := by
  have HL := Lib.hid h; clear h
  go_enter Tryd.func24, Tryd.ntmps24
  go_wp2_with (go_at_call 31; refine (Atoi_c s w hs HL.out).mono ?_)
  rintro e w1 ⟨he, hb⟩
  have HB := Lib.hid hb; clear hb
  rcases he with ⟨v, hv, rfl⟩ | ⟨hf, T, p, rfl⟩
  · have hbd := Lib.atoiAll_bounds hv
    have HV := Lib.hid hv; clear hv
    have HL1 : Hid (LP w1) := HL.out.below HB.out
    go_wp2_with (go_at_call 27; refine (Itoa_i v hbd.1 hbd.2 _ HL1.out.1).mono ?_)
    rintro e w2 ⟨rfl, hb2⟩
    have HB2 : Hid (Below w.heap.size w w2) := HB.out.trans (hb2.mono HB.out.size)
    clear hb2
    go_wp2_with fail
    go_ret2
    refine ⟨?_, HB2.out⟩
    have e1 : smallL s.data.toList = (v, Lib.itoa v == s.data.toList) := by simp [smallL, HV.out]
    have e2 : s.toList = s.data.toList := ba_toList s
    rw [e1, ← e2]; rfl
  · obtain ⟨n, hn⟩ : ∃ n, (smallL s.data.toList).1 = n := ⟨_, rfl⟩
    rw [hn]
    go_wp2_with fail
    go_ret2
    refine ⟨?_, HB.out⟩
    rw [hf, hn]; rfl

theorem isB_below {w w' : World} {B b : Nat} {l : List UInt8} (h : IsB w B b l) (hb : Below w.heap.size w w') : IsB w' B b l := by
  have key : ∀ p, Lib.BuilderAt 49 5 B b p (Lib.byteCells l) w → Lib.BuilderAt 49 5 B b p (Lib.byteCells l) w' := by
    rintro p ⟨h1, v, h2, h3, h4⟩
    exact ⟨h1, v, (hb.block b (lt_of_get h2)).trans h2, pw_own_below h3 hb, h4⟩
  rcases h with h | h
  · exact .inl (key _ h)
  · exact .inr (key _ h)
theorem hexR_snoc (xs : List Int) (x : Int) : hexR (xs ++ [x]) = hexR xs ++ [dig (x.toNat / 16), dig (x.toNat % 16)] := by simp [hexR, hexB]
theorem digit_f (n : Nat) (h : n < 16) : script_digit.f (n : Int) = some ((dig n).toNat : Int) := by
  have key : (List.range 16).all (fun n => script_digit.f (n : Int) == some ((dig n).toNat : Int)) = true := by decide +kernel
  simpa using List.all_eq_true.1 key n (List.mem_range.2 h)
theorem digit_c (n : Nat) (h : n < 16) (w : World) : Calls Tryd.prog 34 #[.int .u8 (n : Int)] w fun e w' => e = .returned (.int .u8 ((dig n).toNat : Int)) ∧ Drawn0 w w' := script_digit.calls _ _ w (digit_f n h)
theorem and15 (a : Nat) (h : a < 256) : Go.bits .and .u8 (a : Int) 15 = ((a % 16 : Nat) : Int) := by
  have key : (List.range 256).all (fun a => Go.bits .and .u8 (a : Int) 15 == ((a % 16 : Nat) : Int)) = true := by kernel_rfl
  have := List.all_eq_true.1 key a (List.mem_range.2 h)
  simpa using this

set_option maxHeartbeats 2000000 in
set_option maxRecDepth 100000 in
theorem hex_c (w : World) (A : Option Addr) (c : Nat) (xs : List Int) (hr : ReadsInt w .u8 A xs.length xs) (hb : isB xs) (hl : xs.length ≤ 70000) :
    Calls Tryd.prog 28 #[.slice A xs.length c] w fun e w' => e = .returned (strV (hexL xs)) ∧ Below w.heap.size w w' := by
  have R := Lib.hid hr; clear hr
  have HB := Lib.hid hb; clear hb
  by_cases h0 : xs.length = 0
  · obtain rfl : xs = [] := List.eq_nil_of_length_eq_zero h0
    go_enter Tryd.func28, Tryd.ntmps28
    go_wp2_with fail
    go_ret
    exact ⟨rfl, Below.refl _ _⟩
  have h0i : ((xs.length : Int) == 0) = false := beq_eq_false_iff_ne.2 (by omega)
  go_enter Tryd.func28, Tryd.ntmps28
  go_wp2_with fail
  go_loopw [11] (fun iv wr => ∃ k : Nat, iv = .int .i64 k ∧ k ≤ xs.length ∧ Hid (IsB wr w.heap.size w.heap.size (hexR (xs.take k)) ∧ Below w.heap.size w wr)) (fun iv _ => xs.length - (intOf iv).toNat)
  case atStart => exact ⟨0, rfl, Nat.zero_le _, IsB.new w, (Below.refl _ _).alloc (Nat.le_refl _) _⟩
  case round =>
    obtain ⟨k, rfl, hk, HW⟩ := hrel
    by_cases hlt : k < xs.length
    · have hki : (k : Int) < xs.length := by omega
      obtain ⟨ad, rfl, hc⟩ := R.out.2.2 (by omega)
      have hc1 := (R.out.below HW.out.2).2.2 (by omega)
      obtain ⟨ad', e, hc2⟩ := hc1
      injection e with e; subst e
      have hck := hc2 k hlt
      obtain ⟨x, hx⟩ : ∃ x : Nat, Hid (xs[k] = (x : Int) ∧ x < 256) := ⟨xs[k].toNat, Lib.hid (by have := HB.out xs[k] (List.getElem_mem _); omega)⟩
      have hgd : xs.getD k 0 = (x : Int) := by rw [List.getD_eq_getElem?_getD, List.getElem?_eq_getElem hlt]; exact hx.out.1
      rw [hgd] at hck
      clear hc hc2 hgd
      have hkl : Hid ((hexR (xs.take k)).length ≤ 140000) := by
        have h1 := (unL_hexR (xs.take k) (fun y hy => HB.out y (List.mem_of_mem_take hy))).2.2
        have h2 : (xs.take k).length ≤ xs.length := by rw [List.length_take]; omega
        exact Lib.hid (by omega)
      have hsh : (x : Int).fdiv (2 ^ min (Int.toNat 4) IntKind.u8.bits) = ((x / 16 : Nat) : Int) := by
        have e : (2 : Int) ^ min (Int.toNat 4) IntKind.u8.bits = 16 := by kernel_rfl
        rw [e, Int.fdiv_eq_ediv_of_nonneg _ (by omega)]; omega
      have han := and15 x hx.out.2
      have d1 : ∀ W, Calls Tryd.prog 34 #[.int .u8 ((x : Int) / 16)] W fun e w' => e = .returned (.int .u8 ((dig (x / 16)).toNat : Int)) ∧ Below W.heap.size W w' := fun W => by
        have h := digit_c (x / 16) (by have := hx.out.2; omega) W
        rw [show ((x / 16 : Nat) : Int) = (x : Int) / 16 from by omega] at h
        exact h.mono fun e w' ⟨he, hd⟩ => ⟨he, hd.below⟩
      have d2 : ∀ W, Calls Tryd.prog 34 #[.int .u8 ((x : Int) % 16)] W fun e w' => e = .returned (.int .u8 ((dig (x % 16)).toNat : Int)) ∧ Below W.heap.size W w' := fun W => by
        have h := digit_c (x % 16) (by omega) W
        rw [show ((x % 16 : Nat) : Int) = (x : Int) % 16 from by omega] at h
        exact h.mono fun e w' ⟨he, hd⟩ => ⟨he, hd.below⟩
      have D1 := Lib.hid d1; have D2 := Lib.hid d2
      clear d1 d2
      go_wp2_with fail
      refine (D1.out _).mono ?_
      rintro e w1 ⟨rfl, hb1⟩
      have H1 : Hid (IsB w1 w.heap.size w.heap.size (hexR (xs.take k)) ∧ Below w.heap.size w w1) := ⟨isB_below HW.out.1 hb1, HW.out.2.trans (hb1.mono HW.out.2.size)⟩
      clear hb1 HW hck
      go_wp2_with fail
      refine (WByte_c H1.out.1 (dig (x / 16)) (by have := hkl.out; omega) H1.out.2.size).mono ?_
      rintro e w2 ⟨rfl, hi2, hb2⟩
      have H2 : Hid (IsB w2 w.heap.size w.heap.size (hexR (xs.take k) ++ [dig (x / 16)]) ∧ Below w.heap.size w w2) := ⟨hi2, H1.out.2.trans hb2⟩
      clear hi2 hb2 H1
      go_wp2_with fail
      refine (D2.out _).mono ?_
      rintro e w3 ⟨rfl, hb3⟩
      have H3 : Hid (IsB w3 w.heap.size w.heap.size (hexR (xs.take k) ++ [dig (x / 16)]) ∧ Below w.heap.size w w3) := ⟨isB_below H2.out.1 hb3, H2.out.2.trans (hb3.mono H2.out.2.size)⟩
      clear hb3 H2
      go_wp2_with fail
      refine (WByte_c H3.out.1 (dig (x % 16)) (by have := hkl.out; rw [List.length_append, List.length_singleton]; omega) H3.out.2.size).mono ?_
      rintro e w4 ⟨rfl, hi4, hb4⟩
      have H4 : Hid (IsB w4 w.heap.size w.heap.size (hexR (xs.take (k + 1))) ∧ Below w.heap.size w w4) := by
        refine ⟨?_, H3.out.2.trans hb4⟩
        have e1 : xs.take (k + 1) = xs.take k ++ [(x : Int)] := by rw [List.take_succ_eq_append_getElem hlt, hx.out.1]
        rw [e1, hexR_snoc]
        have q1 : ((x : Int)).toNat = x := by omega
        rw [q1]
        simpa using hi4
      clear hi4 hb4 H3
      go_wp2_with fail
      go_roundw
      case rel => exact ⟨k + 1, by go_num, by omega, H4⟩
      case measure => simp [intOf]; omega
    · obtain rfl : k = xs.length := by omega
      rw [List.take_length] at HW
      go_wp2_with fail
      refine (BStr_c HW.out.1 HW.out.2.size).mono ?_
      rintro e w1 ⟨rfl, hb1⟩
      have H1 : Hid (Below w.heap.size w w1) := HW.out.2.trans hb1
      clear hb1 HW
      go_wp2_with fail
      go_ret
      have hne : xs ≠ [] := fun e => h0 (by rw [e]; rfl)
      refine ⟨?_, H1.out⟩
      unfold hexL
      rw [if_neg hne]; rfl
end Go.Proofs.YtbcdlbdljejlcaaDoor.Sc
