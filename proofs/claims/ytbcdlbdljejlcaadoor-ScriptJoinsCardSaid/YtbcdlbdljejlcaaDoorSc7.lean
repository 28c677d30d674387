/- script: step, the last way; joined. -/
import Derived.Test.YtbcdlbdljejlcaaDoorSc6
set_option linter.unusedVariables false
set_option linter.unusedSimpArgs false
namespace Go.Proofs.YtbcdlbdljejlcaaDoor.Sc
open Go.RowKit Go.Proofs.YtbcdlbdljejlcaaDoor.B0 Go.Proofs.YtbcdlbdljejlcaaDoor.Ps Go.Proofs.YtbcdlbdljejlcaaDoorW.PrintWords Go.Proofs.YtbcdlbdljejlcaaDoor.Bld

set_option maxHeartbeats 8000000 in
set_option maxRecDepth 100000 in
theorem step_C (s : ByteArray) (hs : s.size ≤ 5000000) (w : World) (h : LP w) (a : List UInt8) (r : List (List UInt8)) (hw : wordsL s.data.toList = a :: r) (h1 : ¬ (a = sDeliver ∧ r.length = 2)) (h2 : ¬ (a = sClose ∧ r.length = 1)) :
    Calls Tryd.prog 16 #[.string s] w fun e w' => ∃ (y : Stp) (v : Value), e = .returned (.tuple #[stepV y v, .bool (stepL s.data.toList).isSome]) ∧ (∀ x, stepL s.data.toList = some x → y = x) ∧ OB w' w.heap.size v y.f3 ∧ Below w.heap.size w w' := by
  have HL := Lib.hid h; clear h
  have HW := Lib.hid hw; clear hw
  have H1 := Lib.hid h1; clear h1
  have H2 := Lib.hid h2; clear h2
  have hsz : (w.alloc (.cells #[.int .i64 0, .int .i64 0, .int .i64 0, .slice none 0 0] 32)).heap.size = w.heap.size + 1 := Array.size_push ..
  have HZ := Lib.hid hsz; clear hsz
  go_enter Tryd.func16, Tryd.ntmps16
  go_wp2_with fail
  refine (Split_c s _ hs (HL.out.below ((Below.refl _ _).alloc (Nat.le_refl _) _))).mono ?_
  rintro e w1 ⟨rfl, hw1⟩
  rw [HW.out] at hw1 ⊢
  rw [HZ.out]
  have HF := Lib.hid (split_facts hw1); clear hw1
  obtain ⟨sa, hsa⟩ : ∃ sa : ByteArray, Hid (sa = ⟨a.toArray⟩) := ⟨_, Lib.hid rfl⟩
  have k0 : w1.cell? ⟨w.heap.size + 1, 0, none⟩ = some (.string sa) := by rw [hsa.out]; exact HF.out.2.1 0 _ rfl
  obtain ⟨m, hm⟩ : ∃ m, Hid ((a :: r).length = m) := ⟨_, Lib.hid rfl⟩
  rw [hm.out]
  have hm1 : (0 : Int) < (m : Int) := by have := hm.out; simp only [List.length_cons] at this; omega
  have HSA : Hid (sa.toList = a) := by show _ = _; rw [ba_toList, hsa.out]
  have HSD : Hid (sa.toList = [100, 101, 108, 105, 118, 101, 114] → m ≠ 3) := fun e e2 => H1.out ⟨by rw [← HSA.out, e]; rfl, by have := hm.out; simp only [List.length_cons] at this; omega⟩
  have HSC : Hid (sa.toList = [99, 108, 111, 115, 101] → m ≠ 2) := fun e e2 => H2.out ⟨by rw [← HSA.out, e]; rfl, by have := hm.out; simp only [List.length_cons] at this; omega⟩
  obtain ⟨c0, c1, c2, c3⟩ := HF.out.1.cells
  obtain ⟨f0, f1, f2, f3⟩ := HF.out.1.free
  have HSt : Hid (stepL s.data.toList = if s.data.toList = sTick then some ⟨1, 0, 0, []⟩ else if s.data.toList = sFlush then some ⟨3, 0, 0, []⟩ else if s.data.toList = sEnd then some ⟨4, 0, 0, []⟩ else none) := by
    show _ = _
    unfold stepL
    rw [HW.out, if_neg (fun h => H1.out ⟨h.1, by have := h.2; simp only [List.length_cons] at this; omega⟩), if_neg (fun h => H2.out ⟨h.1, by have := h.2; simp only [List.length_cons] at this; omega⟩)]
  have HEnd : ∀ x0 x1 x2 x3, Hid (Below w.heap.size w ((((w1.setCell ⟨w.heap.size, 0, none⟩ x0).setCell ⟨w.heap.size, 1, none⟩ x1).setCell ⟨w.heap.size, 2, none⟩ x2).setCell ⟨w.heap.size, 3, none⟩ x3)) := fun x0 x1 x2 x3 =>
    (((HF.out.2.2.setCell (p := ⟨w.heap.size, 0, none⟩) (Nat.le_refl _) x0).setCell (p := ⟨w.heap.size, 1, none⟩) (Nat.le_refl _) x1).setCell (p := ⟨w.heap.size, 2, none⟩) (Nat.le_refl _) x2).setCell (p := ⟨w.heap.size, 3, none⟩) (Nat.le_refl _) x3
  -- how the words begin
  obtain ⟨bd, bc, Hd, Hc⟩ : ∃ bd bc, (sa.toList == [100, 101, 108, 105, 118, 101, 114]) = bd ∧ (sa.toList == [99, 108, 111, 115, 101]) = bc := ⟨_, _, rfl, rfl⟩
  have hd3 : bd = true → ((m : Int) == 3) = false := fun e => beq_eq_false_iff_ne.2 (fun h => HSD.out (beq_iff_eq.1 (Hd.trans e)) (by omega))
  have hc2 : bc = true → ((m : Int) == 2) = false := fun e => beq_eq_false_iff_ne.2 (fun h => HSC.out (beq_iff_eq.1 (Hc.trans e)) (by omega))
  -- the text itself
  obtain ⟨t1, Ht1⟩ : ∃ t1, (s.toList == [116, 105, 99, 107]) = t1 := ⟨_, rfl⟩
  obtain ⟨t2, Ht2⟩ : ∃ t2, (s.toList == [102, 108, 117, 115, 104]) = t2 := ⟨_, rfl⟩
  obtain ⟨t3, Ht3⟩ : ∃ t3, (s.toList == [101, 110, 100]) = t3 := ⟨_, rfl⟩
  have HS2 : Hid (stepL s.data.toList = if t1 = true then some ⟨1, 0, 0, []⟩ else if t2 = true then some ⟨3, 0, 0, []⟩ else if t3 = true then some ⟨4, 0, 0, []⟩ else none) := by
    show _ = _
    rw [HSt.out, ← Ht1, ← Ht2, ← Ht3, ba_toList]
    simp only [beq_iff_eq, sTick, sFlush, sEnd]
    congr
  clear HSt
  cases bd
  · clear hd3
    cases bc
    · clear hc2
      cases t1
      · cases t2
        · go_wp2_with fail
          (try simp only [Exit.inBlock, Exit.then])
          refine ret_step rfl rfl (HF.out.1.put _ _ _ _) ?_
          refine ⟨⟨4, 0, 0, []⟩, .slice none 0 0, ?_, ?_, OB.nil _ _, (HEnd _ _ _ _).out⟩
          · rw [HS2.out]; cases t3 <;> rfl
          · rw [HS2.out]; intro x hx; cases t3
            · cases hx
            · exact Option.some.inj hx
        · go_wp2_with fail
          (try simp only [Exit.inBlock, Exit.then])
          refine ret_step rfl rfl (HF.out.1.put _ _ _ _) ?_
          refine ⟨⟨3, 0, 0, []⟩, .slice none 0 0, ?_, ?_, OB.nil _ _, (HEnd _ _ _ _).out⟩
          · rw [HS2.out]; rfl
          · rw [HS2.out]; intro x hx; exact Option.some.inj hx
      · go_wp2_with fail
        (try simp only [Exit.inBlock, Exit.then])
        refine ret_step rfl rfl (HF.out.1.put _ _ _ _) ?_
        refine ⟨⟨1, 0, 0, []⟩, .slice none 0 0, ?_, ?_, OB.nil _ _, (HEnd _ _ _ _).out⟩
        · rw [HS2.out]; rfl
        · rw [HS2.out]; intro x hx; exact Option.some.inj hx
    · have hc2' := hc2 rfl
      clear hc2
      cases t1
      · cases t2
        · go_wp2_with fail
          (try simp only [Exit.inBlock, Exit.then])
          refine ret_step rfl rfl (HF.out.1.put _ _ _ _) ?_
          refine ⟨⟨4, 0, 0, []⟩, .slice none 0 0, ?_, ?_, OB.nil _ _, (HEnd _ _ _ _).out⟩
          · rw [HS2.out]; cases t3 <;> rfl
          · rw [HS2.out]; intro x hx; cases t3
            · cases hx
            · exact Option.some.inj hx
        · go_wp2_with fail
          (try simp only [Exit.inBlock, Exit.then])
          refine ret_step rfl rfl (HF.out.1.put _ _ _ _) ?_
          refine ⟨⟨3, 0, 0, []⟩, .slice none 0 0, ?_, ?_, OB.nil _ _, (HEnd _ _ _ _).out⟩
          · rw [HS2.out]; rfl
          · rw [HS2.out]; intro x hx; exact Option.some.inj hx
      · go_wp2_with fail
        (try simp only [Exit.inBlock, Exit.then])
        refine ret_step rfl rfl (HF.out.1.put _ _ _ _) ?_
        refine ⟨⟨1, 0, 0, []⟩, .slice none 0 0, ?_, ?_, OB.nil _ _, (HEnd _ _ _ _).out⟩
        · rw [HS2.out]; rfl
        · rw [HS2.out]; intro x hx; exact Option.some.inj hx
  · have hd3' := hd3 rfl
    clear hd3
    have hbc : bc = false := by
      rcases bc with _ | _
      · rfl
      · have e1 := beq_iff_eq.1 Hd; have e2 := beq_iff_eq.1 Hc; rw [e1] at e2; exact absurd e2 (by decide)
    subst hbc
    clear hc2
    cases t1
    · cases t2
      · go_wp2_with fail
        (try simp only [Exit.inBlock, Exit.then])
        refine ret_step rfl rfl (HF.out.1.put _ _ _ _) ?_
        refine ⟨⟨4, 0, 0, []⟩, .slice none 0 0, ?_, ?_, OB.nil _ _, (HEnd _ _ _ _).out⟩
        · rw [HS2.out]; cases t3 <;> rfl
        · rw [HS2.out]; intro x hx; cases t3
          · cases hx
          · exact Option.some.inj hx
      · go_wp2_with fail
        (try simp only [Exit.inBlock, Exit.then])
        refine ret_step rfl rfl (HF.out.1.put _ _ _ _) ?_
        refine ⟨⟨3, 0, 0, []⟩, .slice none 0 0, ?_, ?_, OB.nil _ _, (HEnd _ _ _ _).out⟩
        · rw [HS2.out]; rfl
        · rw [HS2.out]; intro x hx; exact Option.some.inj hx
    · go_wp2_with fail
      (try simp only [Exit.inBlock, Exit.then])
      refine ret_step rfl rfl (HF.out.1.put _ _ _ _) ?_
      refine ⟨⟨1, 0, 0, []⟩, .slice none 0 0, ?_, ?_, OB.nil _ _, (HEnd _ _ _ _).out⟩
      · rw [HS2.out]; rfl
      · rw [HS2.out]; intro x hx; exact Option.some.inj hx

theorem words_le (l : List UInt8) : ∀ x ∈ wordsL l, x.length ≤ l.length := by
  induction l with
  | nil => simp [wordsL]
  | cons c r ih =>
    intro x hx
    rw [wordsL] at hx
    split at hx
    · rcases List.mem_cons.1 hx with rfl | hx
      · simp
      · have := ih x hx; simp; omega
    · split at hx
      · rename_i w ws hw
        rcases List.mem_cons.1 hx with rfl | hx
        · have := ih w (by rw [hw]; exact List.mem_cons_self); simp; omega
        · have := ih x (by rw [hw]; exact List.mem_cons_of_mem _ hx); simp; omega
      · simp at hx; subst hx; simp
/-- step, whatever the line. -/
theorem step_c (s : ByteArray) (hs : s.size ≤ 5000000) (w : World) (h : LP w) :
    Calls Tryd.prog 16 #[.string s] w fun e w' => ∃ (y : Stp) (v : Value), e = .returned (.tuple #[stepV y v, .bool (stepL s.data.toList).isSome]) ∧ (∀ x, stepL s.data.toList = some x → y = x) ∧ OB w' w.heap.size v y.f3 ∧ Below w.heap.size w w' := by
  have hle := words_le s.data.toList
  have hsz : s.data.toList.length = s.size := rfl
  rcases hw : wordsL s.data.toList with _ | ⟨a, r⟩
  · exact absurd hw (words_ne _)
  rw [hw, hsz] at hle
  by_cases h1 : a = sDeliver ∧ r.length = 2
  · obtain ⟨b, c, rfl⟩ := len2 h1.2
    obtain rfl := h1.1
    exact step_A s hs w h b c hw (hle b (by simp)) (hle c (by simp))
  by_cases h2 : a = sClose ∧ r.length = 1
  · obtain ⟨b, rfl⟩ := List.length_eq_one_iff.1 h2.2
    obtain rfl := h2.1
    exact step_B s hs w h b hw (hle b (by simp))
  exact step_C s hs w h a r hw h1 h2
end Go.Proofs.YtbcdlbdljejlcaaDoor.Sc
