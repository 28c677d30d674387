/- container/heap's up and down over heap's items: they come to 'upL', 'downL' of the list. -/
import Derived.Test.YtfeikcfhionjkaaHp3
set_option linter.unusedVariables false
set_option linter.unusedSimpArgs false
namespace Go.Proofs.Ytfeikcfhionjkaa.Hp
open Go.RowKit Go.Proofs.Ytfeikcfhionjkaa.B0

theorem m_len {w : World} {q : Nat} {sv : Value} (h : w.cell? ⟨q, 0, none⟩ = some sv) (fuel : Nat) : (method (fuel + 1) 67 (.pointer (some ⟨q, 0, none⟩)) "Len").run Try.prog w = .ok (71, sv) w := by
  have h1 : (method (fuel + 1) 67 (.pointer (some ⟨q, 0, none⟩)) "Len").run Try.prog w = (do let v ← loadVar 60 ⟨q, 0, none⟩; pure (71, v) : Sem (FuncId × Value)).run Try.prog w := by kernel_rfl
  rw [h1]
  simp [go_sem, h]
theorem m_less {w : World} {q : Nat} {sv : Value} (h : w.cell? ⟨q, 0, none⟩ = some sv) (fuel : Nat) : (method (fuel + 1) 67 (.pointer (some ⟨q, 0, none⟩)) "Less").run Try.prog w = .ok (72, sv) w := by
  have h1 : (method (fuel + 1) 67 (.pointer (some ⟨q, 0, none⟩)) "Less").run Try.prog w = (do let v ← loadVar 60 ⟨q, 0, none⟩; pure (72, v) : Sem (FuncId × Value)).run Try.prog w := by kernel_rfl
  rw [h1]
  simp [go_sem, h]
theorem m_swap {w : World} {q : Nat} {sv : Value} (h : w.cell? ⟨q, 0, none⟩ = some sv) (fuel : Nat) : (method (fuel + 1) 67 (.pointer (some ⟨q, 0, none⟩)) "Swap").run Try.prog w = .ok (73, sv) w := by
  have h1 : (method (fuel + 1) 67 (.pointer (some ⟨q, 0, none⟩)) "Swap").run Try.prog w = (do let v ← loadVar 60 ⟨q, 0, none⟩; pure (73, v) : Sem (FuncId × Value)).run Try.prog w := by kernel_rfl
  rw [h1]
  simp [go_sem, h]

theorem IRep.c0 {w : World} {q mb : Nat} {r : Option (Nat × Nat)} {L : List E} (h : IRep w q mb r L) : w.cell? ⟨q, 0, none⟩ = some (svOf r L.length) := cellB h.hq 0

/-- sifting up. -/
def upL (L : List E) (j : Nat) : List E :=
  if h : j = 0 then L else
  match L[j]?, L[(j - 1) / 2]? with
  | some x, some y => if ltE x y then upL ((L.set ((j - 1) / 2) x).set j y) ((j - 1) / 2) else L
  | _, _ => L
termination_by j

theorem upL_step {L : List E} {j : Nat} {x y : E} (hj : j ≠ 0) (hx : L[j]? = some x) (hy : L[(j - 1) / 2]? = some y) (hl : ltE x y = true) : upL L j = upL ((L.set ((j - 1) / 2) x).set j y) ((j - 1) / 2) := by
  rw [upL]; simp only [hj, dite_false, hx, hy, hl, if_true]
theorem upL_stop {L : List E} {j : Nat} {x y : E} (hj : j ≠ 0) (hx : L[j]? = some x) (hy : L[(j - 1) / 2]? = some y) (hl : ltE x y = false) : upL L j = L := by
  rw [upL]; simp only [hj, dite_false, hx, hy, hl]; rfl
theorem upL_zero (L : List E) : upL L 0 = L := by rw [upL]; simp

set_option maxRecDepth 100000 in
set_option maxHeartbeats 2000000 in
theorem up_c {w : World} {q mb : Nat} {r : Option (Nat × Nat)} {L : List E} (h : IRep w q mb r L) (a : Int) (j : Nat) (ea : a = j) (hj : j < L.length) (hL : L.length < 4611686018427387904) :
    Calls Try.prog 33 #[.iface 67 (.pointer (some ⟨q, 0, none⟩)), .int .i64 a] w fun e w' => e = .returned (.tuple #[]) ∧ IRep w' q mb r (upL L j) ∧ Fr (foot r L) w w' := by
  subst ea
  go_enter Try.func33, Try.ntmps33
  go_wp2_with fail
  go_loopw [1] (fun jv wr => ∃ (k : Nat) (M : List E), jv = .int .i64 k ∧ k < M.length ∧ Hid (M.length = L.length) ∧ IRep wr q mb r M ∧ Hid (upL M k = upL L j) ∧ Hid (M.Perm L) ∧ Fr (foot r L) w wr) (fun jv _ => (intOf jv).toNat)
  case atStart => exact ⟨j, L, rfl, hj, rfl, h, rfl, List.Perm.refl _, Fr.refl _ _⟩
  case round =>
    obtain ⟨k, M, rfl, hk, hML, hM, hU, hP, hF⟩ := hrel
    have hb : M.length < 4611686018427387904 := by rw [hML.out]; exact hL
    have c0 := hM.c0
    rcases k with _ | k
    · go_wp2_with fail
      go_end0
      have h1 := hU.out
      rw [upL_zero] at h1
      exact ⟨rfl, h1 ▸ hM, hF⟩
    · have hkn : (k : Int) + 1 < 4611686018427387904 := by omega
      obtain ⟨x, hx⟩ : ∃ x, M[k + 1]? = some x := ⟨_, List.getElem?_eq_getElem hk⟩
      obtain ⟨y, hy⟩ : ∃ y, M[k / 2]? = some y := ⟨_, List.getElem?_eq_getElem (show k / 2 < M.length by omega)⟩
      have hd : ((k : Int) / 2 == (k : Int) + 1) = false := by rw [beq_eq_false_iff_ne]; omega
      have HX := Lib.hid hx
      have HY := Lib.hid hy
      clear hx hy
      have m1 := m_less c0
      go_wp2_with fail
      refine (Less_c hM _ _ (k + 1) (k / 2) (by omega) (by omega) x y HX.out HY.out).mono ?_
      rintro e w1 ⟨rfl, hbw⟩
      have hM1 := hM.below hbw
      have hF1 := hF.trans (Fr.of_below hbw _ (Nat.le_refl _))
      clear m1 c0 hM hF hbw
      have c1 := hM1.c0
      have m2 := m_swap c1
      have hdx : (k + 1 - 1) / 2 = k / 2 := by omega
      cases hl : ltE x y with
      | true =>
        have HL := Lib.hid hl; clear hl
        have HDX := Lib.hid hdx; clear hdx
        go_wp2_with fail
        refine (Swap_c hM1 _ _ (k / 2) (k + 1) (by omega) (by omega) y x HY.out HX.out (by omega)).mono ?_
        rintro e w2 ⟨rfl, hM2, hF2⟩
        have hfm : ∀ b, b ∈ foot r M → b ∈ foot r L := by
          intro b
          simp only [foot, List.mem_append, List.mem_map]
          rintro (hb | ⟨e, he, rfl⟩)
          · exact .inl hb
          · exact .inr ⟨e, hP.out.mem_iff.1 he, rfl⟩
        have hF3 := hF1.trans (hF2.mono hfm)
        clear m2 c1 hM1 hF1 hF2 hfm
        go_wp2_with fail
        go_roundw
        case rel =>
          refine ⟨k / 2, _, by go_num, by simp; omega, ?_, hM2, ?_, ?_, hF3⟩
          · show _ = _; simpa using hML.out
          · show _ = _
            have := upL_step (by omega) HX.out (by rw [HDX.out]; exact HY.out) HL.out
            rw [HDX.out] at this
            rw [← this]; exact hU.out
          · exact (perm_swap HY.out HX.out (by omega)).trans hP.out
        case measure => simp [intOf]; omega
      | false =>
        have HL := Lib.hid hl; clear hl
        go_wp2_with fail
        go_end0
        have := upL_stop (by omega) HX.out (by rw [hdx]; exact HY.out) HL.out
        rw [hU.out] at this
        exact ⟨rfl, this ▸ hM1, hF1⟩
end Go.Proofs.Ytfeikcfhionjkaa.Hp
