/- expo: the reader's until, next, quoted, as Calls. -/
import Derived.Test.YtdbmcikoiilanaaDoorXp8
set_option linter.unusedVariables false
set_option linter.unusedSimpArgs false
namespace Go.Proofs.YtdbmcikoiilanaaDoor.Xp
open Go.RowKit Go.Proofs.YtdbmcikoiilanaaDoor.B0 Go.Proofs.YtdbmcikoiilanaaDoorW.PrintWords Go.Proofs.YtdbmcikoiilanaaDoor.Bld Go.Proofs.YtdbmcikoiilanaaDoor.Pp Go.Proofs.YtdbmcikoiilanaaDoor.Bl2

/-- the reader at block R: what is left, and whether something was wrong. -/
def RD (w : World) (R : Nat) (s : ByteArray) (b : Bool) : Prop := w.heap[R]? = some (.cells #[.string s, .bool b] 87 (0, 0))
theorem RD.c0 {w : World} {R : Nat} {s : ByteArray} {b : Bool} (h : RD w R s b) : w.cell? ⟨R, 0, none⟩ = some (.string s) := by rw [cellB h]; rfl
theorem RD.c1 {w : World} {R : Nat} {s : ByteArray} {b : Bool} (h : RD w R s b) : w.cell? ⟨R, 1, none⟩ = some (.bool b) := by rw [cellB h]; rfl
theorem RD.f {w : World} {R : Nat} {s : ByteArray} {b : Bool} (h : RD w R s b) (o : Nat) : w.frozen? ⟨R, o, none⟩ = false := frozenB h o
theorem RD.set0 {w : World} {R : Nat} {s : ByteArray} {b : Bool} (h : RD w R s b) (s' : ByteArray) : RD (w.setCell ⟨R, 0, none⟩ (.string s')) R s' b := by
  have := setB h 0 (.string s'); exact this
theorem RD.set1 {w : World} {R : Nat} {s : ByteArray} {b : Bool} (h : RD w R s b) (b' : Bool) : RD (w.setCell ⟨R, 1, none⟩ (.bool b')) R s b' := by
  have := setB h 1 (.bool b'); exact this
theorem FR.set (w : World) (R o : Nat) (v : Value) : Fr [R] w (w.setCell ⟨R, o, none⟩ v) := (Fr.refl [R] w).setCell (p := ⟨R, o, none⟩) (.inl (List.mem_singleton.2 rfl)) v

theorem ext_from (s : ByteArray) (i : Nat) : (s.extract i s.size).data.toList = s.data.toList.drop i := by
  rw [ByteArray.data_extract, Array.toList_extract]
  simp only [List.extract_eq_take_drop]
  exact List.take_of_length_le (by rw [List.length_drop]; show s.data.toList.length - i ≤ s.size - i; exact Nat.le_refl _)
theorem ext_to (s : ByteArray) (i : Nat) : (s.extract 0 i).data.toList = s.data.toList.take i := by
  rw [ByteArray.data_extract, Array.toList_extract]
  simp only [List.extract_eq_take_drop, List.drop_zero, Nat.sub_zero]
set_option maxHeartbeats 4000000 in
set_option maxRecDepth 100000 in
theorem next_c (w : World) (R : Nat) (s : ByteArray) (b : Bool) (h : RD w R s b) (c : UInt8) :
    Calls Tryd.prog 37 #[.pointer (some ⟨R, 0, none⟩), .int .u8 c.toNat] w fun e w' => ∃ ok s', e = .returned (.bool ok) ∧ RD w' R s' b ∧ Fr [R] w w' ∧
      ((b = false ∧ ok = true ∧ nextM c s.data.toList = some s'.data.toList) ∨ ((b = true ∨ nextM c s.data.toList = none) ∧ ok = false ∧ s' = s)) := by
  have h0 := h.c0; have h1 := h.c1; have hf := h.f 0
  have HD := Lib.hid h; clear h
  cases b
  · rcases hs : s.data.toList with _ | ⟨a, r⟩
    · have hq : (s.toList == []) = true := by rw [ByteArray.toList_eq, hs]; rfl
      clear hs
      go_enter Tryd.func37, Tryd.ntmps37
      go_wp2_with fail
      go_ret
      exact ⟨false, s, rfl, HD.out, Fr.refl _ _, .inr ⟨.inr rfl, rfl, rfl⟩⟩
    · have hq : (s.toList == []) = false := by rw [ByteArray.toList_eq, hs]; rfl
      have hpos : 0 < s.size := by
        rw [Lib.size_eq, hs]; simp
      have hget : ∀ h : 0 < s.size, s[0]'h = a := fun h => by
        have e : s.data.toList[0]? = some a := by rw [hs]; rfl
        obtain ⟨_, e2⟩ := List.getElem?_eq_some_iff.1 e
        exact e2
      have HS := Lib.hid hs; clear hs
      by_cases hac : a = c
      · subst hac
        have hne : ((a.toNat : Int) == (a.toNat : Int)) = true := by simp
        go_enter Tryd.func37, Tryd.ntmps37
        go_wp2_with fail
        go_ret
        exact ⟨true, s.extract 1 s.size, rfl, HD.out.set0 _, FR.set _ _ _ _, .inl ⟨by trivial, rfl, by rw [ext_from, HS.out]; simp [nextM]⟩⟩
      · have hne : ((a.toNat : Int) == (c.toNat : Int)) = false := by
          rw [beq_eq_false_iff_ne]; intro e; exact hac (UInt8.toNat_inj.1 (by omega))
        go_enter Tryd.func37, Tryd.ntmps37
        go_wp2_with fail
        go_ret
        exact ⟨false, s, rfl, HD.out, Fr.refl _ _, .inr ⟨.inr (by rw [nextM, if_neg hac]), rfl, rfl⟩⟩
  · go_enter Tryd.func37, Tryd.ntmps37
    go_wp2_with fail
    go_ret
    exact ⟨false, s, rfl, HD.out, Fr.refl _ _, .inr ⟨.inl (by trivial), rfl, rfl⟩⟩
set_option maxHeartbeats 4000000 in
set_option maxRecDepth 100000 in
theorem until_d (w : World) (R : Nat) (s : ByteArray) (b : Bool) (h : RD w R s b) (c : UInt8) (hs : s.size ≤ 5000000) :
    Calls Tryd.prog 36 #[.pointer (some ⟨R, 0, none⟩), .int .u8 c.toNat] w fun e w' => ∃ wd s' b', e = .returned (.string wd) ∧ RD w' R s' b' ∧ Fr [R] w w' ∧
      wd.size ≤ s.size ∧ ((untilM c s.data.toList = some (wd.data.toList, s'.data.toList) ∧ b' = b) ∨ (untilM c s.data.toList = none ∧ b' = true ∧ s' = s)) := by
  have h0 := h.c0; have h1 := h.c1; have hf0 := h.f 0; have hf1 := h.f 1
  have HD := Lib.hid h; clear h
  have hcc : (c.toNat : Int).toNat.toUInt8 = c := by simp
  have HI := Lib.hid (Tryd.strings_IndexByte s c.toNat w)
  rw [hcc] at HI
  rcases until_index c s.data.toList with ⟨e1, e2⟩ | ⟨i, e1, hi, e2⟩
  · rw [e1] at HI
    rw [e2]
    clear e1 e2 hcc
    go_enter Tryd.func36, Tryd.ntmps36
    go_wp2_with fail
    refine HI.out.mono ?_
    rintro e w1 ⟨rfl, rfl⟩
    go_wp2_with fail
    go_ret
    exact ⟨⟨#[]⟩, s, true, rfl, HD.out.set1 _, FR.set _ _ _ _, Nat.zero_le _, .inr ⟨by trivial, rfl, rfl⟩⟩
  · rw [e1] at HI
    rw [e2]
    have hil : i < s.size := hi
    clear e1 e2 hcc hi
    have hq : decide ((i : Int) < 0) = false := decide_eq_false (by omega)
    have hii : (i : Int) ≤ s.size := by omega
    have hii1 : (i : Int) + 1 ≤ s.size := by omega
    go_enter Tryd.func36, Tryd.ntmps36
    go_wp2_with fail
    refine HI.out.mono ?_
    rintro e w1 ⟨rfl, rfl⟩
    go_wp2_with fail
    go_ret
    exact ⟨s.extract 0 i, s.extract (i + 1) s.size, b, rfl, HD.out.set0 _, FR.set _ _ _ _, by
      have h1 : (s.extract 0 i).data.toList.length = (s.extract 0 i).size := rfl
      rw [ext_to, List.length_take] at h1
      omega, .inl ⟨by rw [ext_from, ext_to], rfl⟩⟩
theorem until_c (w : World) (R : Nat) (s : ByteArray) (b : Bool) (h : RD w R s b) (c : UInt8) (hs : s.size ≤ 5000000) :
    Calls Tryd.prog 36 #[.pointer (some ⟨R, 0, none⟩), .int .u8 c.toNat] w fun e w' => ∃ wd s' b', e = .returned (.string wd) ∧ RD w' R s' b' ∧ Fr [R] w w' ∧
      ((untilM c s.data.toList = some (wd.data.toList, s'.data.toList) ∧ b' = b) ∨ (untilM c s.data.toList = none ∧ b' = true ∧ s' = s)) :=
  (until_d w R s b h c hs).mono fun _ _ ⟨wd, s', b', h1, h2, h3, _, h4⟩ => ⟨wd, s', b', h1, h2, h3, h4⟩
end Go.Proofs.YtdbmcikoiilanaaDoor.Xp
