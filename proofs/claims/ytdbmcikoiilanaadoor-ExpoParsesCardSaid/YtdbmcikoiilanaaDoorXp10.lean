/- expo: the reader's quoted, as a Call. -/
import Derived.Test.YtdbmcikoiilanaaDoorXp9
set_option linter.unusedVariables false
set_option linter.unusedSimpArgs false
namespace Go.Proofs.YtdbmcikoiilanaaDoor.Xp
open Go.RowKit Go.Proofs.YtdbmcikoiilanaaDoor.B0 Go.Proofs.YtdbmcikoiilanaaDoorW.PrintWords Go.Proofs.YtdbmcikoiilanaaDoor.Bld Go.Proofs.YtdbmcikoiilanaaDoor.Pp Go.Proofs.YtdbmcikoiilanaaDoor.Bl2

theorem Fr.then_below {F : List Nat} {a b c : World} {B : Nat} (h : Fr F a b) (k : Below B b c) (hB : a.heap.size ≤ B) : Fr F a c :=
  ⟨k.os.trans h.os, k.tape.trans h.tape, k.output.trans h.output, Nat.le_trans h.size k.size, fun i hi hn => (k.block i (by omega)).trans (h.block i hi hn)⟩
theorem isB_setR {w : World} {B b R : Nat} {l : BL} (h : IsB w B b l) (hR : R < B) (o : Nat) (v : Value) : IsB (w.setCell ⟨R, o, none⟩ v) B b l := by
  have key : ∀ p, Lib.BuilderAt 75 5 B b p (Lib.byteCells l) w → Lib.BuilderAt 75 5 B b p (Lib.byteCells l) (w.setCell ⟨R, o, none⟩ v) := by
    rintro p ⟨h1, u, h2, h3, h4⟩
    refine ⟨h1, u, (setO w ⟨R, o, none⟩ v (by show b ≠ R; omega)).trans h2, own_move h3 (fun k hk => setO w ⟨R, o, none⟩ v ?_), h4⟩
    have := own_base h3 k hk
    show k ≠ R
    omega
  rcases h with h | h
  · exact .inl (key _ h)
  · exact .inr (key _ h)
def rdSize (w : World) (R : Nat) : Nat := match w.cell? ⟨R, 0, none⟩ with | some (.string x) => x.size | _ => 0
theorem rdSize_of {w : World} {R : Nat} {s : ByteArray} {b : Bool} (h : RD w R s b) : rdSize w R = s.size := by unfold rdSize; rw [h.c0]
theorem RD.keep {w w' : World} {R B : Nat} {s : ByteArray} {b : Bool} (h : RD w R s b) (hb : Below B w w') (hR : R < B) : RD w' R s b := (hb.block R hR).trans h

/-- how quoted ends. -/
def QPost (b : Bool) (s t s' : ByteArray) (b' : Bool) : Prop := (b = false ∧ quotedM s.data.toList = some (t.data.toList, s'.data.toList) ∧ b' = false) ∨ ((b = true ∨ quotedM s.data.toList = none) ∧ b' = true)
set_option maxHeartbeats 8000000 in
set_option maxRecDepth 100000 in
theorem quoted_c (w : World) (R : Nat) (s : ByteArray) (b : Bool) (h : RD w R s b) (hs : s.size ≤ 5000000) :
    Calls Tryd.prog 38 #[.pointer (some ⟨R, 0, none⟩)] w fun e w' => ∃ t s' b', e = .returned (.string t) ∧ RD w' R s' b' ∧ Fr [R] w w' ∧ s'.size ≤ s.size ∧ QPost b s t s' b' := by
  have HD := Lib.hid h
  have hRw := lt_of_get h
  clear h
  have HNX := Lib.hid (next_c w R s b HD.out 34)
  go_enter Tryd.func38, Tryd.ntmps38
  go_wp2_with fail
  refine HNX.out.mono ?_
  rintro e w1 ⟨ok, s1, rfl, hd1, hf1, hc1⟩
  have H1 : Hid (RD w1 R s1 b ∧ Fr [R] w w1) := ⟨hd1, hf1⟩
  have HC1 := Lib.hid hc1
  clear hd1 hf1 hc1 HNX
  have c1 := H1.out.1.c1; have fz1 := H1.out.1.f 1
  cases ok
  · -- the first byte is no quote, or something was wrong before
    have hq : b = true ∨ quotedM s.data.toList = none := by
      rcases HC1.out with ⟨_, h, _⟩ | ⟨h, _, _⟩
      · cases h
      · rcases h with h | h
        · exact .inl h
        · exact .inr (by unfold quotedM; rw [h]; rfl)
    have hs1 : s1 = s := by
      rcases HC1.out with ⟨_, h, _⟩ | ⟨_, _, h⟩
      · cases h
      · exact h
    subst hs1
    have HQ := Lib.hid hq
    obtain ⟨w2, hw2⟩ : ∃ w2, Hid (w1.setCell ⟨R, 1, none⟩ (.bool true) = w2) := ⟨_, Lib.hid rfl⟩
    have H2 : Hid (RD w2 R s1 true ∧ Fr [R] w w2) := ⟨by rw [← hw2.out]; exact H1.out.1.set1 _, by rw [← hw2.out]; exact H1.out.2.trans (FR.set _ _ _ _)⟩
    obtain ⟨w3, hw3⟩ : ∃ w3, Hid (w2.alloc (.cells #[.pointer none, .slice none 0 0] 75) = w3) := ⟨_, Lib.hid rfl⟩
    have H3 : Hid (RD w3 R s1 true ∧ Fr [R] w w3) := ⟨by rw [← hw3.out]; exact H2.out.1.keep ((Below.refl _ _).alloc (Nat.le_refl _) _) (lt_of_get H2.out.1), by rw [← hw3.out]; exact H2.out.2.alloc _⟩
    clear hq
    go_upto_region 2 with fail
    rw [hw2.out]
    go_upto_region 3 with fail
    rw [hw3.out]
    have g1 := H3.out.1.c1
    clear c1 fz1
    go_wp2_with fail
    go_loopw [4] (fun ev wr => ev = .bool false ∧ wr = w3) (fun _ _ => 0)
    case atStart => exact ⟨rfl, rfl⟩
    case round =>
      obtain ⟨rfl, rfl⟩ := hrel
      go_wp2_with fail
      go_ret
      exact ⟨⟨#[]⟩, s1, true, rfl, H3.out.1, H3.out.2, Nat.le_refl _, Or.inr ⟨HQ.out, rfl⟩⟩
  · have hb0 : b = false ∧ nextM 34 s.data.toList = some s1.data.toList := by
      rcases HC1.out with ⟨h1, _, h2⟩ | ⟨_, h, _⟩
      · exact ⟨h1, h2⟩
      · cases h
    obtain ⟨rfl, hn0⟩ := hb0
    have HQ : Hid (quotedM s.data.toList = quoM s1.data.toList false [] ∧ s1.size + 1 = s.size) := by
      refine ⟨by unfold quotedM; rw [hn0]; rfl, ?_⟩
      have := next_len _ _ _ hn0
      have h2 : s1.data.toList.length = s1.size := rfl
      have h3 : s.data.toList.length = s.size := rfl
      omega
    clear hn0
    obtain ⟨w2, hw2⟩ : ∃ w2, Hid (w1.setCell ⟨R, 1, none⟩ (.bool false) = w2) := ⟨_, Lib.hid rfl⟩
    have H2 : Hid (RD w2 R s1 false ∧ Fr [R] w w2) := ⟨by rw [← hw2.out]; exact H1.out.1.set1 _, by rw [← hw2.out]; exact H1.out.2.trans (FR.set _ _ _ _)⟩
    obtain ⟨bb, hbb⟩ : ∃ bb, Hid (w2.heap.size = bb ∧ w.heap.size ≤ bb ∧ R < bb) := ⟨_, rfl, H2.out.2.size, lt_of_get H2.out.1⟩
    obtain ⟨w3, hw3⟩ : ∃ w3, Hid (w2.alloc (.cells #[.pointer none, .slice none 0 0] 75) = w3) := ⟨_, Lib.hid rfl⟩
    have H3 : Hid (RD w3 R s1 false ∧ Fr [R] w w3 ∧ IsB w3 bb bb [] ∧ bb ≤ w3.heap.size) := ⟨by rw [← hw3.out]; exact H2.out.1.keep ((Below.refl _ _).alloc (Nat.le_refl _) _) (lt_of_get H2.out.1), by rw [← hw3.out]; exact H2.out.2.alloc _, by rw [← hw3.out, ← hbb.out.1]; exact IsB.new w2, by rw [← hw3.out, ← hbb.out.1, size_alloc]; omega⟩
    go_upto_region 2 with fail
    rw [hw2.out]
    go_upto_region 3 with fail
    rw [hw3.out, hbb.out.1]
    clear c1 fz1
    go_wp2_with fail
    go_loopw [4] (fun ev wr => ∃ ec : Bool, ev = .bool ec ∧ Hid (∃ (sr : ByteArray) (acc : BL), RD wr R sr false ∧ Fr [R] w wr ∧ IsB wr bb bb acc ∧ bb ≤ wr.heap.size ∧ acc.length + sr.size ≤ s.size ∧ quotedM s.data.toList = quoM sr.data.toList ec acc)) (fun _ wr => rdSize wr R)
    case atStart => exact ⟨false, rfl, s1, [], H3.out.1, H3.out.2.1, H3.out.2.2.1, H3.out.2.2.2, by have := HQ.out.2; simp only [List.length_nil]; omega, HQ.out.1⟩
    case round =>
      obtain ⟨ec, rfl, HO⟩ := hrel
      obtain ⟨sr, acc, hH⟩ := HO.out
      have HW := Lib.hid hH; clear hH HO
      have g0 := HW.out.1.c0; have g1 := HW.out.1.c1; have k0 := HW.out.1.f 0; have k1 := HW.out.1.f 1
      have hrs : rdSize wr R = sr.size := rdSize_of HW.out.1
      rcases hl : sr.data.toList with _ | ⟨c, r⟩
      · have hq : (sr.toList == []) = true := by rw [ByteArray.toList_eq, hl]; rfl
        have HN : Hid (quotedM s.data.toList = none) := by show _ = _; rw [HW.out.2.2.2.2.2, hl]; rfl
        clear hl
        go_wp2_with fail
        go_ret
        exact ⟨⟨#[]⟩, sr, true, rfl, HW.out.1.set1 _, HW.out.2.1.trans (FR.set _ _ _ _), by have := HW.out.2.2.2.2.1; omega, Or.inr ⟨.inr HN.out, rfl⟩⟩
      · have hq : (sr.toList == []) = false := by rw [ByteArray.toList_eq, hl]; rfl
        have hpos : 0 < sr.size := by rw [Lib.size_eq, hl]; simp
        have hget : ∀ h : 0 < sr.size, sr[0]'h = c := fun h => by
          have e : sr.data.toList[0]? = some c := by rw [hl]; rfl
          obtain ⟨_, e2⟩ := List.getElem?_eq_some_iff.1 e
          exact e2
        obtain ⟨s2, hs2⟩ : ∃ s2, Hid (sr.extract 1 sr.size = s2 ∧ s2.data.toList = r ∧ s2.size + 1 = sr.size) := ⟨_, rfl, by rw [ext_from, hl]; rfl, by
          have h1 : (sr.extract 1 sr.size).data.toList.length = (sr.extract 1 sr.size).size := rfl
          rw [ext_from, List.length_drop] at h1
          have h2 : sr.data.toList.length = sr.size := rfl
          omega⟩
        obtain ⟨w4, hw4⟩ : ∃ w4, Hid (wr.setCell ⟨R, 0, none⟩ (.string s2) = w4) := ⟨_, Lib.hid rfl⟩
        have H4 : Hid (RD w4 R s2 false ∧ Fr [R] w w4 ∧ IsB w4 bb bb acc ∧ bb ≤ w4.heap.size ∧ acc.length + s2.size + 1 ≤ s.size ∧ quotedM s.data.toList = quoM (c :: s2.data.toList) ec acc) := by
          refine ⟨by rw [← hw4.out]; exact HW.out.1.set0 _, by rw [← hw4.out]; exact HW.out.2.1.trans (FR.set _ _ _ _), by rw [← hw4.out]; exact isB_setR HW.out.2.2.1 hbb.out.2.2 _ _, by rw [← hw4.out, size_setCell]; exact HW.out.2.2.2.1, by have := HW.out.2.2.2.2.1; have := hs2.out.2.2; omega, ?_⟩
          rw [HW.out.2.2.2.2.2, hl, hs2.out.2.1]
        have HLl := Lib.hid hl; clear hl
        go_upto_region 9 with fail
        rw [hs2.out.1, hw4.out]
        clear g0 g1 k0 k1
        cases ec
        · by_cases h34 : c = 34
          · have f1 : ((c.toNat : Int) == 34) = true := by rw [h34]; rfl
            have HE : Hid (quotedM s.data.toList = some (acc, s2.data.toList)) := by show _ = _; rw [H4.out.2.2.2.2.2, quoM, if_pos h34]
            have HS := Lib.hid (BStr_c H4.out.2.2.1 H4.out.2.2.2.1)
            clear h34
            go_wp2_with fail
            refine HS.out.mono ?_
            rintro e w5 ⟨rfl, hb5⟩
            have H5 : Hid (RD w5 R s2 false ∧ Fr [R] w w5) := ⟨H4.out.1.keep hb5 hbb.out.2.2, Fr.then_below H4.out.2.1 hb5 hbb.out.2.1⟩
            clear hb5
            go_wp2_with fail
            go_ret
            exact ⟨⟨acc.toArray⟩, s2, false, rfl, H5.out.1, H5.out.2, by have := H4.out.2.2.2.2.1; omega, Or.inl ⟨rfl, by rw [HE.out], rfl⟩⟩
          · have f1 : ((c.toNat : Int) == 34) = false := by
              rw [beq_eq_false_iff_ne]; intro e; apply h34; apply UInt8.toNat_inj.1; have : (34 : UInt8).toNat = 34 := rfl; omega
            by_cases h92 : c = 92
            · have f2 : ((c.toNat : Int) == 92) = true := by rw [h92]; rfl
              have HE : Hid (quotedM s.data.toList = quoM s2.data.toList true acc) := by show _ = _; rw [H4.out.2.2.2.2.2, quoM, if_neg h34, if_pos h92]
              have hms : rdSize w4 R = s2.size := rdSize_of H4.out.1
              clear h34 h92
              go_wp2_with fail
              go_roundw
              case rel => exact ⟨true, rfl, s2, acc, H4.out.1, H4.out.2.1, H4.out.2.2.1, H4.out.2.2.2.1, by have := H4.out.2.2.2.2.1; omega, HE.out⟩
              case measure => rw [hms, hrs]; have := hs2.out.2.2; omega
            · have f2 : ((c.toNat : Int) == 92) = false := by
                rw [beq_eq_false_iff_ne]; intro e; apply h92; apply UInt8.toNat_inj.1; have : (92 : UInt8).toNat = 92 := rfl; omega
              have HE : Hid (quotedM s.data.toList = quoM s2.data.toList false (acc ++ [c])) := by show _ = _; rw [H4.out.2.2.2.2.2, quoM, if_neg h34, if_neg h92]
              have HA := Lib.hid (WByte_d H4.out.2.2.1 c (by have := H4.out.2.2.2.2.1; omega) H4.out.2.2.2.1)
              clear h34 h92
              go_wp2_with fail
              refine HA.out.mono ?_
              rintro e w5 ⟨rfl, hi5, hb5, _⟩
              have H5 : Hid (RD w5 R s2 false ∧ Fr [R] w w5 ∧ IsB w5 bb bb (acc ++ [c]) ∧ bb ≤ w5.heap.size) := ⟨H4.out.1.keep hb5 hbb.out.2.2, Fr.then_below H4.out.2.1 hb5 hbb.out.2.1, hi5, Nat.le_trans H4.out.2.2.2.1 hb5.size⟩
              clear hi5 hb5
              have hms : rdSize w5 R = s2.size := rdSize_of H5.out.1
              go_wp2_with fail
              go_roundw
              case rel => exact ⟨false, rfl, s2, acc ++ [c], H5.out.1, H5.out.2.1, H5.out.2.2.1, H5.out.2.2.2, by have := H4.out.2.2.2.2.1; rw [List.length_append, List.length_singleton]; omega, HE.out⟩
              case measure => rw [hms, hrs]; have := hs2.out.2.2; omega
        · by_cases h110 : c = 110
          · have f1 : ((c.toNat : Int) == 110) = true := by rw [h110]; rfl
            have HE : Hid (quotedM s.data.toList = quoM s2.data.toList false (acc ++ [10])) := by show _ = _; rw [H4.out.2.2.2.2.2, quoM, if_pos h110]
            have HA := Lib.hid (WByte_d H4.out.2.2.1 10 (by have := H4.out.2.2.2.2.1; omega) H4.out.2.2.2.1)
            clear h110
            go_wp2_with fail
            refine HA.out.mono ?_
            rintro e w5 ⟨rfl, hi5, hb5, _⟩
            have H5 : Hid (RD w5 R s2 false ∧ Fr [R] w w5 ∧ IsB w5 bb bb (acc ++ [10]) ∧ bb ≤ w5.heap.size) := ⟨H4.out.1.keep hb5 hbb.out.2.2, Fr.then_below H4.out.2.1 hb5 hbb.out.2.1, hi5, Nat.le_trans H4.out.2.2.2.1 hb5.size⟩
            clear hi5 hb5
            have hms : rdSize w5 R = s2.size := rdSize_of H5.out.1
            go_wp2_with fail
            go_roundw
            case rel => exact ⟨false, rfl, s2, acc ++ [10], H5.out.1, H5.out.2.1, H5.out.2.2.1, H5.out.2.2.2, by have := H4.out.2.2.2.2.1; rw [List.length_append, List.length_singleton]; omega, HE.out⟩
            case measure => rw [hms, hrs]; have := hs2.out.2.2; omega
          · have f1 : ((c.toNat : Int) == 110) = false := by
              rw [beq_eq_false_iff_ne]; intro e; apply h110; apply UInt8.toNat_inj.1; have : (110 : UInt8).toNat = 110 := rfl; omega
            have HE : Hid (quotedM s.data.toList = quoM s2.data.toList false (acc ++ [c])) := by show _ = _; rw [H4.out.2.2.2.2.2, quoM, if_neg h110]
            have HA := Lib.hid (WByte_d H4.out.2.2.1 c (by have := H4.out.2.2.2.2.1; omega) H4.out.2.2.2.1)
            clear h110
            go_wp2_with fail
            refine HA.out.mono ?_
            rintro e w5 ⟨rfl, hi5, hb5, _⟩
            have H5 : Hid (RD w5 R s2 false ∧ Fr [R] w w5 ∧ IsB w5 bb bb (acc ++ [c]) ∧ bb ≤ w5.heap.size) := ⟨H4.out.1.keep hb5 hbb.out.2.2, Fr.then_below H4.out.2.1 hb5 hbb.out.2.1, hi5, Nat.le_trans H4.out.2.2.2.1 hb5.size⟩
            clear hi5 hb5
            have hms : rdSize w5 R = s2.size := rdSize_of H5.out.1
            go_wp2_with fail
            go_roundw
            case rel => exact ⟨false, rfl, s2, acc ++ [c], H5.out.1, H5.out.2.1, H5.out.2.2.1, H5.out.2.2.2, by have := H4.out.2.2.2.2.1; rw [List.length_append, List.length_singleton]; omega, HE.out⟩
            case measure => rw [hms, hrs]; have := hs2.out.2.2; omega
end Go.Proofs.YtdbmcikoiilanaaDoor.Xp
