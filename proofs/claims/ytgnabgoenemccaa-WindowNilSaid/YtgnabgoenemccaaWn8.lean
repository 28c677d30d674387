/- window: alive. -/
import Derived.Test.YtgnabgoenemccaaWn7
set_option linter.unusedVariables false
set_option linter.unusedSimpArgs false
namespace Go.Proofs.Ytgnabgoenemccaa.Wn
open Go.RowKit Go.Proofs.Ytgnabgoenemccaa.B0 Go.Sort Go.Maps
theorem AtPost.alive {w w' : World} {p mb : Nat} {e : Ending} (h : AtPost w p mb 10 0 2 0 [] 5 0 [] (fun _ _ => True) e w') : e = .returned (.tuple #[.int .i64 0, .int .i64 0]) ∧ BookR w' p mb 10 0 2 0 [(0, 0)] ∧ Fr [mb] w w' := by
  have ho : overN (5 / 10) 10 0 0 = false := by decide
  rcases h with h | h | h | h
  · exact absurd (ho.symm.trans h.1) (by decide)
  · obtain ⟨_, v, hv, _⟩ := h
    simp at hv
  · have := h.2.2.1
    simp at this
  · exact ⟨h.2.2.2.1, h.2.2.2.2.1, h.2.2.2.2.2.1⟩
set_option maxHeartbeats 4000000 in
set_option maxRecDepth 100000 in
theorem alive19 (w : World) : Calls Try.prog 7 #[] w fun e w' => e = .returned (.bool true) ∧ Below w.heap.size w w' := by
  go_enter Try.func7, Try.ntmps7
  go_wp2_with fail
  refine (New_i 10 0 2 w (by omega) (by omega) (by omega) (by omega) (by omega)).mono ?_
  rintro e w1 ⟨p, mb, rfl, hb1, hf1, hp1, hm1⟩
  have H1 := Lib.hid (And.intro hb1 (And.intro hf1 (And.intro hp1 hm1))); clear hb1 hf1 hp1 hm1
  go_wp2_with fail
  refine (At_n H1.out.1 5 (by omega) (by omega) (by omega) (by omega) (by omega)).mono ?_
  rintro e w2 hpost
  obtain ⟨rfl, hb2, hf2⟩ := hpost.alive
  have H2 := Lib.hid (And.intro hb2 hf2); clear hb2 hf2 hpost
  go_wp2_with fail
  refine (New_no 0 0 2 w2 (.inl (by omega))).mono ?_
  rintro e w3 ⟨rfl, hw3⟩
  subst hw3
  go_wp2_with fail
  refine (Open_i (N := 1) sortU1 (by omega) H2.out.1 (by simp)).mono ?_
  rintro e w4 ⟨v, rfl, hr, hb4⟩
  have hr2 : w4.ownsRow w3.heap.size 22 1 v 1 [encU 0] := by simpa [srt] using hr
  rcases hr2.2 with ⟨_, hz⟩ | ⟨gb, cap, cur, rfl, hrest⟩
  · exact absurd hz (by decide)
  have H4 := Lib.hid (And.intro hrest hb4); clear hr hr2 hrest hb4
  go_wp2_with fail
  refine (WOf_c 9 10 (by omega) w4).mono ?_
  rintro e w5 ⟨rfl, hw5⟩
  subst hw5
  go_wp2_with fail
  refine (WOf_c 10 10 (by omega) w5).mono ?_
  rintro e w6 ⟨rfl, hw6⟩
  subst hw6
  go_wp2_with fail
  refine (Over_c 0 10 0 10 (by omega) (by omega) (by omega) (by omega) w6).mono ?_
  rintro e w7 ⟨rfl, hw7⟩
  subst hw7
  have ho1 : overN 0 10 0 10 = true := by decide
  rw [ho1]
  go_wp2_with fail
  refine (Over_c 0 10 0 9 (by omega) (by omega) (by omega) (by omega) w7).mono ?_
  rintro e w8 ⟨rfl, hw8⟩
  subst hw8
  have ho2 : overN 0 10 0 9 = false := by decide
  rw [ho2]
  go_wp2_with fail
  go_ret
  refine ⟨rfl, ?_⟩
  have h2 := H2.out.2
  have b1 : Below w.heap.size w w1 := H1.out.2.1.belowB (Nat.le_refl _) (by simp)
  have b2 : Below w.heap.size w1 w3 := h2.belowB b1.size (fun k hk => by have := H1.out.2.2.2; simp at hk; omega)
  exact (b1.trans b2).trans (H4.out.2.mono (b1.trans b2).size)
end Go.Proofs.Ytgnabgoenemccaa.Wn
