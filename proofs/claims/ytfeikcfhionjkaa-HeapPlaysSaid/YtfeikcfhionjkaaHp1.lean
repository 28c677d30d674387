/- Contracts of cmp.Compare at uint64, cmp.Or at int, and heap.order: what each hands back, and that the heap below stands. -/
import Derived.Test.YtfeikcfhionjkaaProg
import Derived.WalkKit
import Derived.KernelRfl
import Derived.WalkSpells
import Derived.WalkLawsBesides
import Derived.Lib.Hide
import Derived.Test.YtfeikcfhionjkaaB0
import Derived.Deep.QuietTactic
import Derived.BigQuiet
import Derived.Deep.RegionHeld3
set_option linter.unusedVariables false
set_option linter.unusedSimpArgs false
namespace Go.Proofs.Ytfeikcfhionjkaa.Hp
open Go.RowKit Go.Proofs.Ytfeikcfhionjkaa.B0

def cmpI (a b : Int) : Int := if a < b then -1 else if b < a then 1 else 0

theorem isNaN_u64 (a : Int) (w : World) : Calls Try.prog 48 #[.int .u64 a] w fun e w' => e = .returned (.bool false) ∧ w = w' := by
  go_enter Try.func48, Try.ntmps48
  go_wp2
  go_ret
  exact ⟨by simp, rfl⟩

theorem compare_u64 (a b : Int) (w : World) : Calls Try.prog 37 #[.int .u64 a, .int .u64 b] w fun e w' => e = .returned (.int .i64 (cmpI a b)) ∧ w = w' := by
  rcases Int.lt_trichotomy a b with h | h | h
  · have hd : cmpI a b = -1 := by simp [cmpI, h]
    have H := Lib.hid hd; clear hd
    go_enter Try.func37, Try.ntmps37
    go_wp2_with (go_at_call 48; refine (isNaN_u64 _ _).mono ?_; rintro e w' ⟨rfl, rfl⟩)
    go_ret
    exact ⟨by rw [H.out]; rfl, rfl⟩
  · subst h
    have hd : cmpI a a = 0 := by simp [cmpI]
    have H := Lib.hid hd; clear hd
    go_enter Try.func37, Try.ntmps37
    go_wp2_with (go_at_call 48; refine (isNaN_u64 _ _).mono ?_; rintro e w' ⟨rfl, rfl⟩)
    go_ret
    exact ⟨by rw [H.out]; rfl, rfl⟩
  · have hd : cmpI a b = 1 := by unfold cmpI; rw [if_neg (by omega), if_pos h]
    have H := Lib.hid hd; clear hd
    have h' : ¬ a < b := by omega
    go_enter Try.func37, Try.ntmps37
    go_wp2_with (go_at_call 48; refine (isNaN_u64 _ _).mono ?_; rintro e w' ⟨rfl, rfl⟩)
    go_ret
    exact ⟨by rw [H.out]; rfl, rfl⟩

/-- cmp.Or. -/
def orL : List Int → Int
  | [] => 0
  | x :: l => if x = 0 then orL l else x

theorem orL_drop (xs : List Int) (k : Nat) (h : k < xs.length) : orL (xs.drop k) = if xs.getD k 0 = 0 then orL (xs.drop (k + 1)) else xs.getD k 0 := by
  rw [List.drop_eq_getElem_cons h]
  simp [orL, h]

theorem or_any (w : World) (g : Nat) (xs : List Int) (n c : Nat) (hn : xs.length = n) (hm : n < 1000) (h : ∀ i, i < n → w.cell? ⟨g, i, none⟩ = some (.int .i64 (xs.getD i 0))) :
    Calls Try.prog 36 #[.slice (some ⟨g, 0, none⟩) n c] w fun e w' => e = .returned (.int .i64 (orL xs)) ∧ w = w' := by
  have HC := Lib.hid h; clear h
  have HN := Lib.hid hn; clear hn
  go_enter Try.func36, Try.ntmps36
  go_wp2
  go_loop [8] (fun i => ∃ k : Nat, k ≤ n ∧ i = .int .i64 k ∧ Hid (orL (xs.drop k) = orL xs)) (fun i => n - (intOf i).toNat)
  case atStart => exact ⟨0, Nat.zero_le _, rfl, rfl⟩
  case round =>
    obtain ⟨k, hk, rfl, HR⟩ := hrel
    by_cases hlt : k < n
    · have hc := HC.out k hlt
      have HD := Lib.hid (orL_drop xs k (by rw [HN.out]; exact hlt))
      generalize hx : xs.getD k 0 = x at *
      clear hx HC
      by_cases hz : x = 0
      · subst hz
        go_wp2
        go_round
        case rel => exact ⟨k + 1, by omega, by go_num, by have h1 := HR.out; have h2 := HD.out; rw [if_pos rfl] at h2; exact h2.symm.trans h1⟩
        case measure => simp [intOf]; omega
      · have hne : (x == 0) = false := by simp [hz]
        have hne' : (x != 0) = true := by simp [hz]
        have HZ := Lib.hid hz; clear hz
        go_wp2
        go_ret
        have h1 := HR.out
        have h2 := HD.out
        rw [if_neg HZ.out] at h2
        exact ⟨by rw [← h1, h2]; rfl, rfl⟩
    · go_wp2
      go_ret
      have h1 := HR.out
      rw [List.drop_of_length_le (by rw [HN.out]; omega)] at h1
      exact ⟨by rw [← h1]; rfl, rfl⟩
end Go.Proofs.Ytfeikcfhionjkaa.Hp
