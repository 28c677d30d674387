/- The order of lists of numbers, and what codes bear it. No program. -/
import Derived.WalkKit
import Derived.Lib.Bytealg
set_option linter.unusedVariables false
namespace Go.Proofs.Ytamcchdblglfoaa.Ft

/-- the first that is not 0. -/
def orI (a b : Int) : Int := if a = 0 then b else a
theorem orI_zero {a b : Int} : orI a b = 0 ↔ a = 0 ∧ b = 0 := by unfold orI; split <;> simp_all
theorem orI_r0 (a : Int) : orI a 0 = a := by unfold orI; split <;> simp_all
theorem orI_assoc (a b c : Int) : orI (orI a b) c = orI a (orI b c) := by unfold orI; split <;> simp_all
def cI (x y : Int) : Int := if x < y then -1 else if y < x then 1 else 0
def lexC : List Int → List Int → Int
  | [], [] => 0
  | [], _ :: _ => -1
  | _ :: _, [] => 1
  | x :: a, y :: b => orI (cI x y) (lexC a b)
theorem cI_zero {x y : Int} : cI x y = 0 ↔ x = y := by
  unfold cI
  by_cases h : x < y
  · simp [h]; omega
  · by_cases h2 : y < x
    · simp [h, h2]; omega
    · simp [h, h2]; omega
theorem cI_self (x : Int) : cI x x = 0 := cI_zero.2 rfl
theorem cI_neg (x y : Int) : cI y x = - cI x y := by unfold cI; split <;> split <;> (try split) <;> omega
theorem lexC_zero : ∀ {a b : List Int}, lexC a b = 0 ↔ a = b
  | [], [] => by simp [lexC]
  | [], y :: b => by simp [lexC]
  | x :: a, [] => by simp [lexC]
  | x :: a, y :: b => by rw [lexC, orI_zero, cI_zero, lexC_zero]; simp
theorem lexC_neg : ∀ (a b : List Int), lexC b a = - lexC a b
  | [], [] => by simp [lexC]
  | [], y :: b => by simp [lexC]
  | x :: a, [] => by simp [lexC]
  | x :: a, y :: b => by
    rw [lexC, lexC, lexC_neg a b, cI_neg x y]
    unfold orI
    by_cases h : cI x y = 0 <;> simp [h]
theorem lexC_range : ∀ (a b : List Int), lexC a b = -1 ∨ lexC a b = 0 ∨ lexC a b = 1
  | [], [] => by simp [lexC]
  | [], y :: b => by simp [lexC]
  | x :: a, [] => by simp [lexC]
  | x :: a, y :: b => by
    rw [lexC]
    have := lexC_range a b
    unfold orI cI
    split <;> split <;> (try split) <;> simp_all
theorem lexC_trans : ∀ {a b c : List Int}, lexC a b ≤ 0 → lexC b c ≤ 0 → lexC a c ≤ 0 ∧ (lexC a c = 0 → lexC a b = 0 ∧ lexC b c = 0)
  | [], [], [], _, _ => by simp [lexC]
  | [], [], z :: c, _, _ => by simp [lexC]
  | [], y :: b, [], _, h => by simp [lexC] at h
  | [], y :: b, z :: c, _, h => by simp [lexC]
  | x :: a, [], c, h, _ => by simp [lexC] at h
  | x :: a, y :: b, [], _, h => by simp [lexC] at h
  | x :: a, y :: b, z :: c, h1, h2 => by
    rw [lexC] at h1 h2 ⊢
    rw [lexC, lexC]
    unfold orI cI at *
    by_cases e1 : x < y
    · have n1 : ¬ y < x := by omega
      by_cases e2 : y < z
      · have : x < z := by omega
        simp [e1, e2, this]
      · by_cases e3 : z < y
        · simp [e2, e3] at h2
        · have : y = z := by omega
          subst this
          simp [e1]
    · by_cases e1' : y < x
      · simp [e1, e1'] at h1
      · have : x = y := by omega
        subst this
        by_cases e2 : x < z
        · simp [e2]
        · by_cases e3 : z < x
          · simp [e2, e3] at h2
          · have : x = z := by omega
            subst this
            simp only [Int.lt_irrefl, if_false, if_true] at h1 h2 ⊢
            exact lexC_trans h1 h2
theorem lexC_append_self (a b c : List Int) : lexC (a ++ b) (a ++ c) = lexC b c := by
  induction a with
  | nil => rfl
  | cons x a ih => rw [List.cons_append, List.cons_append, lexC, cI_self, ih]; simp [orI]

/-- a code whose order is c, with whatever stands behind it. -/
def CodeOf {α : Type} (enc : α → List Int) (c : α → α → Int) : Prop := ∀ x y r q, lexC (enc x ++ r) (enc y ++ q) = orI (c x y) (lexC r q)
theorem CodeOf.cmp {α : Type} {enc : α → List Int} {c : α → α → Int} (h : CodeOf enc c) (x y : α) : c x y = lexC (enc x) (enc y) := by
  have := h x y [] []
  simp only [List.append_nil] at this
  rw [this]; simp [lexC, orI_r0]
theorem CodeOf.int : CodeOf (fun x : Int => [x]) cI := fun x y r q => rfl
theorem CodeOf.pair {α β γ : Type} {e1 : α → List Int} {c1 : α → α → Int} {e2 : β → List Int} {c2 : β → β → Int} (h1 : CodeOf e1 c1) (h2 : CodeOf e2 c2) (f : γ → α) (g : γ → β) :
    CodeOf (fun x => e1 (f x) ++ e2 (g x)) (fun x y => orI (c1 (f x) (f y)) (c2 (g x) (g y))) := fun x y r q => by
  simp only [List.append_assoc]
  rw [h1, h2, orI_assoc]
theorem CodeOf.of {α γ : Type} {e : α → List Int} {c : α → α → Int} (h : CodeOf e c) (f : γ → α) : CodeOf (fun x => e (f x)) (fun x y => c (f x) (f y)) := fun x y r q => h _ _ r q
def encL {α : Type} (enc : α → List Int) : List α → List Int
  | [] => [0]
  | x :: l => 1 :: (enc x ++ encL enc l)
def cmpLs {α : Type} (c : α → α → Int) : List α → List α → Int
  | [], [] => 0
  | [], _ :: _ => -1
  | _ :: _, [] => 1
  | x :: a, y :: b => orI (c x y) (cmpLs c a b)
theorem CodeOf.list {α : Type} {enc : α → List Int} {c : α → α → Int} (h : CodeOf enc c) : CodeOf (encL enc) (cmpLs c)
  | [], [], r, q => by simp [encL, cmpLs, lexC, cI, orI]
  | [], y :: b, r, q => by simp [encL, cmpLs, lexC, cI, orI]
  | x :: a, [], r, q => by simp [encL, cmpLs, lexC, cI, orI]
  | x :: a, y :: b, r, q => by
    have ih := CodeOf.list h a b r q
    simp only [encL, cmpLs, List.cons_append, List.append_assoc, lexC]
    rw [h, ih, cI_self, orI_assoc]
    simp [orI]
def encB (s : ByteArray) : List Int := encL (fun b : UInt8 => [(b.toNat : Int)]) s.data.toList
def cB (a b : ByteArray) : Int := Lib.compareBytes a.data.toList b.data.toList
theorem cmpLs_bytes : ∀ a b : List UInt8, cmpLs (fun x y : UInt8 => cI x.toNat y.toNat) a b = Lib.compareBytes a b
  | [], [] => rfl
  | [], y :: b => rfl
  | x :: a, [] => rfl
  | x :: a, y :: b => by
    rw [cmpLs, Lib.compareBytes, cmpLs_bytes a b]
    unfold orI cI
    have e1 : x < y ↔ ((x.toNat : Int) < (y.toNat : Int)) := by rw [UInt8.lt_iff_toNat_lt]; omega
    have e2 : y < x ↔ ((y.toNat : Int) < (x.toNat : Int)) := by rw [UInt8.lt_iff_toNat_lt]; omega
    by_cases h1 : x < y
    · simp [h1, e1.1 h1]
    · by_cases h2 : y < x
      · have n1 : ¬ ((x.toNat : Int) < (y.toNat : Int)) := fun h => h1 (e1.2 h)
        simp [h1, h2, e2.1 h2, n1]
      · have n1 : ¬ ((x.toNat : Int) < (y.toNat : Int)) := fun h => h1 (e1.2 h)
        have n2 : ¬ ((y.toNat : Int) < (x.toNat : Int)) := fun h => h2 (e2.2 h)
        simp [h1, h2, n1, n2]
theorem CodeOf.bytes : CodeOf encB cB := fun x y r q => by
  have := CodeOf.list (CodeOf.of CodeOf.int (fun b : UInt8 => (b.toNat : Int))) x.data.toList y.data.toList r q
  rw [cmpLs_bytes] at this
  exact this
theorem encL_inj {α : Type} {enc : α → List Int} {c : α → α → Int} (h : CodeOf enc c) (hc : ∀ x y, c x y = 0 → x = y) : ∀ a b : List α, cmpLs c a b = 0 → a = b
  | [], [], _ => rfl
  | [], y :: b, e => by simp [cmpLs] at e
  | x :: a, [], e => by simp [cmpLs] at e
  | x :: a, y :: b, e => by
    rw [cmpLs, orI_zero] at e
    rw [hc x y e.1, encL_inj h hc a b e.2]
theorem cB_zero {a b : ByteArray} (h : cB a b = 0) : a = b := by
  have h1 : a.data.toList = b.data.toList := by
    refine encL_inj (CodeOf.of CodeOf.int (fun b : UInt8 => (b.toNat : Int))) (fun x y e => ?_) _ _ ((cmpLs_bytes _ _).trans h)
    exact UInt8.toNat_inj.1 (by have := cI_zero.1 e; omega)
  rcases a with ⟨a⟩; rcases b with ⟨b⟩
  congr 1
  exact Array.toList_inj.1 h1
theorem CodeOf.self {α : Type} {enc : α → List Int} {c : α → α → Int} (h : CodeOf enc c) (x : α) : c x x = 0 := by rw [h.cmp]; exact lexC_zero.2 rfl
theorem CodeOf.neg {α : Type} {enc : α → List Int} {c : α → α → Int} (h : CodeOf enc c) (x y : α) : c y x = - c x y := by rw [h.cmp, h.cmp]; exact lexC_neg _ _
theorem CodeOf.lt_trans {α : Type} {enc : α → List Int} {c : α → α → Int} (h : CodeOf enc c) {x y z : α} (h1 : c x y < 0) (h2 : c y z < 0) : c x z < 0 := by
  rw [h.cmp] at h1 h2 ⊢
  have := lexC_trans (a := enc x) (b := enc y) (c := enc z) (by omega) (by omega)
  have h3 : ¬ lexC (enc x) (enc z) = 0 := fun e => by have := this.2 e; omega
  omega
theorem CodeOf.le_trans {α : Type} {enc : α → List Int} {c : α → α → Int} (h : CodeOf enc c) {x y z : α} (h1 : c x y ≤ 0) (h2 : c y z ≤ 0) : c x z ≤ 0 := by
  rw [h.cmp] at h1 h2 ⊢
  exact (lexC_trans h1 h2).1
theorem CodeOf.range {α : Type} {enc : α → List Int} {c : α → α → Int} (h : CodeOf enc c) (x y : α) : c x y = -1 ∨ c x y = 0 ∨ c x y = 1 := by rw [h.cmp]; exact lexC_range _ _
end Go.Proofs.Ytamcchdblglfoaa.Ft
