/- Texts of unlike values of one kind are unlike. No memory in it. -/
import Derived.Test.YtcglhpagimkajaaDoorVlA
set_option linter.unusedVariables false
set_option linter.unusedSimpArgs false
namespace Go.Proofs.YtcglhpagimkajaaDoor.Vl
open Go.RowKit Go.Proofs.YtcglhpagimkajaaDoor.B0 Go.Proofs.YtcglhpagimkajaaDoor.Pv Go.Proofs.YtcglhpagimkajaaDoorW.PrintWords Go.Proofs.YtcglhpagimkajaaDoor.By

def val (l : List UInt8) : Nat := l.foldl (fun acc d => acc * 10 + (d.toNat - 48)) 0
theorem val_snoc (l : List UInt8) (d : UInt8) : val (l ++ [d]) = val l * 10 + (d.toNat - 48) := by simp [val]
theorem dig_nat {r : Nat} (h : r < 10) : (UInt8.ofNat (48 + r)).toNat = 48 + r := by
  rw [UInt8.toNat_ofNat']; omega
theorem val_dec (u : Nat) : val (Lib.decDigits u) = u := by
  induction u using Nat.strongRecOn with
  | _ u ih =>
    rw [Lib.decDigits]
    split
    · rename_i h
      show val ([] ++ [_]) = _
      rw [val_snoc, dig_nat h]; simp [val]
    · rename_i h
      rw [val_snoc, ih (u / 10) (by omega), dig_nat (by omega)]; omega
theorem dec_head (u : Nat) : ∀ d ∈ Lib.decDigits u, 48 ≤ d.toNat := by
  induction u using Nat.strongRecOn with
  | _ u ih =>
    rw [Lib.decDigits]
    split
    · rename_i h
      intro d hd
      rw [List.mem_singleton] at hd
      rw [hd, dig_nat h]; omega
    · rename_i h
      intro d hd
      rcases List.mem_append.1 hd with hd | hd
      · exact ih (u / 10) (by omega) d hd
      · rw [List.mem_singleton] at hd
        rw [hd, dig_nat (by omega)]; omega
theorem itoa_inj {n m : Int} (h : Lib.itoa n = Lib.itoa m) : n = m := by
  unfold Lib.itoa at h
  have bad : ∀ {a b : Nat}, 45 :: Lib.decDigits a = Lib.decDigits b → False := fun {a b} e => by
    have := dec_head b 45 (by rw [← e]; simp)
    simp at this
  split at h <;> split at h
  · have := congrArg val (List.cons.inj h).2
    rw [val_dec, val_dec] at this; omega
  · exact (bad h).elim
  · exact (bad h.symm).elim
  · have := congrArg val h
    rw [val_dec, val_dec] at this; omega
theorem itoaS_inj {n m : Int} (h : itoaS n = itoaS m) : n = m := by
  apply itoa_inj
  have := congrArg (fun s : ByteArray => s.data.toList) h
  simpa [itoaS] using this

theorem text_inj {a b : Va} (ha : rightB a = true) (hb : rightB b = true) (hk : a.k = b.k) (h : textA (anyA a) = textA (anyA b)) : a = b := by
  have oa := of_any a ha
  have ob := of_any b hb
  have key : anyA a = anyA b := by
    have hk3 := kinds_of ha
    obtain ⟨k, n, s⟩ := a
    obtain ⟨k', n', s'⟩ := b
    simp only at hk hk3
    subst hk
    unfold anyA at h ⊢
    rw [ha, hb] at h ⊢
    rcases hk3 with rfl | rfl | rfl
    · have := itoaS_inj (show itoaS n = itoaS n' from h)
      subst this; rfl
    · have h' : bS (n == 1) = bS (n' == 1) := h
      have : (n == 1) = (n' == 1) := by
        cases e1 : n == 1 <;> cases e2 : n' == 1 <;> simp_all [bS]
      show An.bool (n == 1) = An.bool (n' == 1)
      rw [this]
    · have : s = s' := h
      subst this; rfl
  rw [key, ob] at oa
  exact (Prod.mk.inj oa).1.symm
/-- the greater number is told as such. -/
theorem num_lt {a b : Va} (ha : rightB a = true) (hb : rightB b = true) (hk : a.k = b.k) (h3 : a.k ≠ 3) : decide (cmpV a b < 0) = decide (a.n < b.n) := by
  rw [decide_eq_decide, cmpV_lt]
  have hs : a.s = b.s := by
    have e : ∀ {x : Va}, rightB x = true → x.k ≠ 3 → x.s.toList = [] := fun {x} hx h3 => by
      unfold rightB at hx
      rcases kinds_of (x := x) (by unfold rightB; exact hx) with h | h | h
      · rw [if_pos h] at hx; simpa using hx
      · rw [if_neg (by omega), if_pos h] at hx; simp at hx; exact hx.1
      · exact absurd h h3
    exact toList_inj ((e ha h3).trans (e hb (by omega)).symm)
  unfold ltV
  rw [hs, bl_irrefl]
  constructor
  · rintro (h | ⟨_, h | ⟨_, h⟩⟩)
    · omega
    · exact h
    · cases h
  · intro h; exact .inr ⟨hk, .inl h⟩
end Go.Proofs.YtcglhpagimkajaaDoor.Vl
