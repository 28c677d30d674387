/- The order of values. No memory in it. -/
import Derived.Test.YtcglhpagimkajaaDoorVl3
import Derived.Test.YtcglhpagimkajaaDoorKn
set_option linter.unusedVariables false
set_option linter.unusedSimpArgs false
namespace Go.Proofs.YtcglhpagimkajaaDoor.Vl
open Go.RowKit Go.Proofs.YtcglhpagimkajaaDoor.B0 Go.Proofs.YtcglhpagimkajaaDoor.Pv Go.Proofs.YtcglhpagimkajaaDoorW.PrintWords Go.Proofs.YtcglhpagimkajaaDoor.By

def cf (a b : Int) : Int := if a < b then -1 else if a > b then 1 else 0
def cs (a b : ByteArray) : Int := if Op.bytesLess a.toList b.toList = true then -1 else if Op.bytesLess b.toList a.toList = true then 1 else 0
def orE (a b : Int) : Int := if a = 0 then b else a
theorem cmp_i (a b : Int) : cmp_Compare_int.f a b = some (cf a b) := by
  unfold cmp_Compare_int.f cmp_isNaN_int.f cf
  simp only [Option.bind_some, ne_eq, not_true_eq_false, decide_false, bne_self_eq_false, Bool.false_eq_true, if_false]
  split
  · rfl
  · split <;> rfl
theorem cmp_l (a b : Int) : cmp_Compare_int64.f a b = some (cf a b) := by
  unfold cmp_Compare_int64.f cmp_isNaN_int64.f cf
  simp only [Option.bind_some, ne_eq, not_true_eq_false, decide_false, bne_self_eq_false, Bool.false_eq_true, if_false]
  split
  · rfl
  · split <;> rfl
theorem cmp_s (a b : ByteArray) : cmp_Compare_string.f a b = some (cs a b) := by
  unfold cmp_Compare_string.f cmp_isNaN_string.f cs
  simp only [Option.bind_some, ne_eq, not_true_eq_false, decide_false, bne_self_eq_false, Bool.false_eq_true, if_false]
  split
  · rfl
  · split <;> rfl
theorem or3 (a b c : Int) : cmp_Or_int.f 5 [a, b, c] = some (orE a (orE b c)) := by
  have w1 : wrap64 1 = 1 := by kernel_rfl
  have w2 : wrap64 2 = 2 := by kernel_rfl
  have w3 : wrap64 3 = 3 := by kernel_rfl
  unfold orE
  simp only [cmp_Or_int.f, cmp_Or_int.l0, List.length_cons, List.length_nil]
  by_cases ha : a = 0
  · by_cases hb : b = 0
    · by_cases hc : c = 0 <;> simp [rd, w1, w2, w3, ha, hb, hc]
    · simp [rd, w1, w2, w3, ha, hb]
  · simp [rd, w1, w2, w3, ha]
def cmpV (x y : Va) : Int := orE (cf x.k y.k) (orE (cf x.n y.n) (cs x.s y.s))
theorem cmpV_f (x y : Va) : value_Compare.f 5 x.k x.n x.s y.k y.n y.s = some (cmpV x y) := by
  unfold value_Compare.f
  rw [cmp_i, cmp_l, cmp_s]
  simp only [Option.bind_some]
  rw [or3]
  rfl
theorem Cmp_c (x y : Va) (w : World) : Calls Tryd.prog 15 #[x.c, y.c] w fun e w' => e = .returned (.int .i64 (cmpV x y)) ∧ Below w.heap.size w w' :=
  value_Compare.calls 5 x.k x.n x.s y.k y.n y.s _ w (cmpV_f x y)

def ltV (x y : Va) : Prop := x.k < y.k ∨ x.k = y.k ∧ (x.n < y.n ∨ x.n = y.n ∧ Op.bytesLess x.s.toList y.s.toList = true)
theorem toList_inj {a b : ByteArray} (h : a.toList = b.toList) : a = b := by
  rw [ByteArray.toList_eq, ByteArray.toList_eq] at h
  cases a; cases b; congr 1; exact Array.toList_inj.1 h
theorem cs_lt {a b : ByteArray} : cs a b < 0 ↔ Op.bytesLess a.toList b.toList = true := by
  unfold cs; split
  · simp_all
  · split <;> simp_all
theorem cs_eq {a b : ByteArray} : cs a b = 0 ↔ a = b := by
  unfold cs
  constructor
  · intro h
    split at h
    · omega
    · split at h
      · omega
      · rename_i h1 h2
        exact toList_inj (bl_total (by simpa using h1) (by simpa using h2))
  · rintro rfl
    rw [bl_irrefl]; rfl
theorem cf_lt {a b : Int} : cf a b < 0 ↔ a < b := by unfold cf; split <;> (try split) <;> simp_all <;> omega
theorem cf_eq {a b : Int} : cf a b = 0 ↔ a = b := by unfold cf; split <;> (try split) <;> simp_all <;> omega
theorem orE_lt {a b : Int} : orE a b < 0 ↔ a < 0 ∨ a = 0 ∧ b < 0 := by unfold orE; split <;> simp_all <;> omega
theorem orE_eq {a b : Int} : orE a b = 0 ↔ a = 0 ∧ b = 0 := by unfold orE; split <;> simp_all
theorem cmpV_lt {x y : Va} : cmpV x y < 0 ↔ ltV x y := by unfold cmpV ltV; rw [orE_lt, orE_lt, cf_lt, cf_eq, cf_lt, cf_eq, cs_lt]
theorem cmpV_eq {x y : Va} : cmpV x y = 0 ↔ x = y := by
  unfold cmpV; rw [orE_eq, orE_eq, cf_eq, cf_eq, cs_eq]
  cases x; cases y; simp
theorem ltV_trans {x y z : Va} (h1 : ltV x y) (h2 : ltV y z) : ltV x z := by
  unfold ltV at *
  rcases h1 with h1 | ⟨e1, h1 | ⟨e2, h1⟩⟩ <;> rcases h2 with h2 | ⟨f1, h2 | ⟨f2, h2⟩⟩
  · exact .inl (by omega)
  · exact .inl (by omega)
  · exact .inl (by omega)
  · exact .inl (by omega)
  · exact .inr ⟨by omega, .inl (by omega)⟩
  · exact .inr ⟨by omega, .inl (by omega)⟩
  · exact .inl (by omega)
  · exact .inr ⟨by omega, .inl (by omega)⟩
  · exact .inr ⟨by omega, .inr ⟨by omega, bl_trans h1 h2⟩⟩
theorem ltV_irrefl (x : Va) : ¬ ltV x x := by
  unfold ltV
  rintro (h | ⟨_, h | ⟨_, h⟩⟩)
  · omega
  · omega
  · rw [bl_irrefl] at h; cases h
theorem cf_val (a b : Int) : cf a b = -1 ∨ cf a b = 0 ∨ cf a b = 1 := by unfold cf; split <;> (try split) <;> simp
theorem cs_val (a b : ByteArray) : cs a b = -1 ∨ cs a b = 0 ∨ cs a b = 1 := by unfold cs; split <;> (try split) <;> simp
theorem orE_val {a b : Int} (h1 : a = -1 ∨ a = 0 ∨ a = 1) (h2 : b = -1 ∨ b = 0 ∨ b = 1) : orE a b = -1 ∨ orE a b = 0 ∨ orE a b = 1 := by unfold orE; split <;> simp_all
theorem cmpV_val (x y : Va) : cmpV x y = -1 ∨ cmpV x y = 0 ∨ cmpV x y = 1 := orE_val (cf_val _ _) (orE_val (cf_val _ _) (cs_val _ _))
theorem cf_neg (a b : Int) : cf b a = - cf a b := by unfold cf; split <;> (try split) <;> (try split) <;> omega
theorem cs_neg (a b : ByteArray) : cs b a = - cs a b := by
  unfold cs
  cases h : Op.bytesLess a.toList b.toList with
  | true => rw [bl_asymm h]; rfl
  | false => cases h2 : Op.bytesLess b.toList a.toList <;> rfl
theorem orE_neg (a b : Int) : orE (-a) (-b) = - orE a b := by unfold orE; split <;> split <;> omega
theorem cmpV_neg (x y : Va) : cmpV y x = - cmpV x y := by
  unfold cmpV; rw [cf_neg x.k y.k, cf_neg x.n y.n, cs_neg x.s y.s, orE_neg, orE_neg]
theorem cmpV_tr {x y z : Va} (h1 : cmpV x y ≤ 0) (h2 : cmpV y z ≤ 0) : cmpV x z ≤ 0 ∧ (cmpV x z = 0 → cmpV x y = 0 ∧ cmpV y z = 0) := by
  by_cases e1 : cmpV x y = 0
  · obtain rfl := cmpV_eq.1 e1
    exact ⟨h2, fun h => ⟨e1, h⟩⟩
  · by_cases e2 : cmpV y z = 0
    · obtain rfl := cmpV_eq.1 e2
      exact ⟨h1, fun h => ⟨h, e2⟩⟩
    · have := cmpV_lt.2 (ltV_trans (cmpV_lt.1 (show cmpV x y < 0 by omega)) (cmpV_lt.1 (show cmpV y z < 0 by omega)))
      exact ⟨by omega, fun h => by omega⟩
def eqV (x y : Va) : Bool := (x.k == y.k && (x.n == y.n && x.s.toList == y.s.toList))
theorem ref_f (x y : Va) : tallyroomref04_Compare.f 5 x.k x.n x.s y.k y.n y.s = some (cmpV x y) := by
  have hlt : (cmpV x y < 0) ↔ ltV x y := cmpV_lt
  have heq : (cmpV x y = 0) ↔ x = y := cmpV_eq
  have hv := cmpV_val x y
  have jt : tallyroomref04_Compare.j0 5 true x.k x.n x.s y.k y.n y.s = some (-1) := by rw [tallyroomref04_Compare.j0]; simp
  have jf : ¬ ltV x y → tallyroomref04_Compare.j0 5 false x.k x.n x.s y.k y.n y.s = some (cmpV x y) := by
    intro hn
    have : ¬ cmpV x y < 0 := fun h => hn (hlt.1 h)
    rw [tallyroomref04_Compare.j0]
    by_cases e : x = y
    · subst e
      rw [heq.2 rfl]; simp
    · have h1 : cmpV x y = 1 := by
        rcases hv with h | h | h
        · omega
        · exact absurd (heq.1 h) e
        · exact h
      rw [h1]
      have : ¬ (x.k = y.k ∧ x.n = y.n ∧ x.s.toList = y.s.toList) := fun ⟨a, b, c⟩ => e (by obtain ⟨k, n, s⟩ := x; obtain ⟨k', n', s'⟩ := y; simp only at a b c; subst a b; rw [toList_inj c])
      simp only [Bool.false_eq_true, if_false]
      rw [if_neg]
      simpa using this
  unfold tallyroomref04_Compare.f
  split
  · rw [jt, show cmpV x y = -1 from by have := hlt.2 (.inl ‹_›); omega]
  · split
    · split
      · rw [jt, show cmpV x y = -1 from by have := hlt.2 (.inr ⟨‹_›, .inl ‹_›⟩); omega]
      · split
        · cases hb : Op.bytesLess x.s.toList y.s.toList with
          | true => rw [jt, show cmpV x y = -1 from by have := hlt.2 (.inr ⟨‹_›, .inr ⟨‹_›, hb⟩⟩); omega]
          | false => exact jf (by unfold ltV; rw [hb]; simp; omega)
        · exact jf (by unfold ltV; omega)
    · exact jf (by unfold ltV; omega)
theorem Ref_c (x y : Va) (w : World) : Calls Tryd.prog 16 #[x.c, y.c] w fun e w' => e = .returned (.int .i64 (cmpV x y)) ∧ Below w.heap.size w w' :=
  tallyroomref04_Compare.calls 5 x.k x.n x.s y.k y.n y.s _ w (ref_f x y)
end Go.Proofs.YtcglhpagimkajaaDoor.Vl
