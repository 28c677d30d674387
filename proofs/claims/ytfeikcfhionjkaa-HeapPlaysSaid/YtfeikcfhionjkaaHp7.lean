/- The method Pop of heap's items; container/heap's Push and Remove. -/
import Derived.Test.YtfeikcfhionjkaaHp6
set_option linter.unusedVariables false
set_option linter.unusedSimpArgs false
namespace Go.Proofs.Ytfeikcfhionjkaa.Hp
open Go.RowKit Go.Proofs.Ytfeikcfhionjkaa.B0

theorem m_push (w : World) (q : Nat) (fuel : Nat) : (method (fuel + 1) 67 (.pointer (some ⟨q, 0, none⟩)) "Push").run Try.prog w = .ok (75, .pointer (some ⟨q, 0, none⟩)) w := by kernel_rfl
theorem m_pop (w : World) (q : Nat) (fuel : Nat) : (method (fuel + 1) 67 (.pointer (some ⟨q, 0, none⟩)) "Pop").run Try.prog w = .ok (74, .pointer (some ⟨q, 0, none⟩)) w := by kernel_rfl

theorem pop_world {w : World} {q mb g c : Nat} {L : List E} {e : E} (h : IRep w q mb (some (g, c)) (L ++ [e])) :
    IRep (w.setCell ⟨q, 0, none⟩ (.slice (some ⟨g, 0, none⟩) L.length c)) q mb (some (g, c)) L := by
  obtain ⟨hqg, hmg, hqm, hE⟩ := nodup_parts h
  obtain ⟨cs, hg, hcs, hlc, hcm, hptr⟩ := h.hr
  refine ⟨?_, ⟨cs, ?_, hcs, by simp at hlc; omega, hcm, fun i x hx => hptr i x ?_⟩, fun i x hx => ?_, ?_⟩
  · rw [setB h.hq]; rfl
  · rw [setO _ _ _ (by simpa using hqg.symm)]; exact hg
  · have := (List.getElem?_eq_some_iff.1 hx).1
    rw [List.getElem?_append_left this]; exact hx
  · have := (List.getElem?_eq_some_iff.1 hx).1
    have hx' : (L ++ [e])[i]? = some x := by rw [List.getElem?_append_left this]; exact hx
    rw [setO _ _ _ (by simpa using (hE x (List.mem_of_getElem? hx')).2.1)]
    exact h.hi i x hx'
  · have := h.nd
    rw [List.map_append, ← List.append_assoc, List.nodup_cons, List.nodup_cons] at this
    rw [List.nodup_cons, List.nodup_cons]
    obtain ⟨h1, h2, h3⟩ := this
    refine ⟨fun hh => h1 ?_, fun hh => h2 ?_, (List.nodup_append.1 h3).1⟩
    · simp only [List.mem_cons, List.mem_append] at hh ⊢
      rcases hh with x | x
      · exact .inl x
      · exact .inr (.inl x)
    · simp only [List.mem_append] at hh ⊢
      exact .inl hh

set_option maxRecDepth 100000 in
set_option maxHeartbeats 2000000 in
theorem Pop_m {w : World} {q mb : Nat} {r : Option (Nat × Nat)} {L : List E} {e0 : E} (h : IRep w q mb r (L ++ [e0])) (hL : L.length < 1000000000000) :
    Calls Try.prog 74 #[.pointer (some ⟨q, 0, none⟩)] w fun e w' => e = .returned (.iface 63 (.pointer (some ⟨e0.b, 0, none⟩))) ∧
      IRep w' q mb r L ∧ Fr [q] w w' := by
  obtain ⟨g, c, rfl⟩ := h.cap (by simp)
  have c0 : w.cell? ⟨q, 0, none⟩ = some (.slice (some ⟨g, 0, none⟩) (L.length + 1) c) := by have := h.c0; simpa [svOf] using this
  have f0 : w.frozen? ⟨q, 0, none⟩ = false := frozenB h.hq 0
  obtain ⟨cs, hg, hcs, hlc, hcm, hptr⟩ := h.hr
  have cl : w.cell? ⟨g, L.length, none⟩ = some (.pointer (some ⟨e0.b, 0, none⟩)) := (cellB hg _).trans (hptr L.length e0 (by simp))
  have hlen : (L.length : Int) < 1000000000000 := by omega
  have hlen0 : (0 : Int) ≤ L.length := by omega
  have hlc1 : (L.length : Int) ≤ (c : Int) := by simp at hlc; omega
  have HW := Lib.hid (pop_world h)
  clear h hg hptr hcs hlc hcm
  go_enter Try.func74, Try.ntmps74
  go_wp2
  go_quiet (fail)
  go_wp2
  go_region
  go_wp2
  go_ret
  exact ⟨rfl, ⟨HW.out.hq, HW.out.hr, HW.out.hi, HW.out.nd⟩, ((Fr.refl [q] w).drewN _).setCell (.inl (by simp)) _⟩

theorem Pop_d {w : World} {q mb : Nat} {r : Option (Nat × Nat)} {L : List E} (h : IRep w q mb r L) (h0 : 0 < L.length) (hL : L.length < 1000000000000) :
    Calls Try.prog 74 #[.pointer (some ⟨q, 0, none⟩)] w fun e w' => (∃ b, e = .returned (.iface 63 (.pointer (some ⟨b, 0, none⟩)))) ∧
      IRep w' q mb r L.dropLast ∧ Fr [q] w w' := by
  have hne : L ≠ [] := by intro hh; simp [hh] at h0
  have e := List.dropLast_concat_getLast hne
  rw [← e] at h
  refine (Pop_m h (by simp; omega)).mono ?_
  rintro e w' ⟨he, h1, h2⟩
  exact ⟨⟨_, he⟩, h1, h2⟩
theorem Len_n {w : World} {q mb : Nat} {r : Option (Nat × Nat)} {L : List E} (h : IRep w q mb r L) (n : Nat) (en : L.length = n) :
    Calls Try.prog 71 #[svOf r n] w fun e w' => e = .returned (.int .i64 n) ∧ w = w' := by subst en; exact Len_c h

set_option maxRecDepth 100000 in
set_option maxHeartbeats 2000000 in
/-- container/heap.Push. -/
theorem HPush_c {w : World} {q mb : Nat} {r : Option (Nat × Nat)} {L : List E} (h : IRep w q mb r L) (b : Nat) (id t : Int) (p : Value) (hb : w.heap[b]? = some (.cells #[.int .u64 id, .int .u64 t, p] 65 (0, 0)))
    (hn : b ≠ q ∧ b ≠ mb ∧ b ∉ foot r L) (hmb : mb < w.heap.size) (hL : L.length < 1000000000000) :
    Calls Try.prog 28 #[.iface 67 (.pointer (some ⟨q, 0, none⟩)), .iface 63 (.pointer (some ⟨b, 0, none⟩))] w fun e w' => e = .returned (.tuple #[]) ∧
      ∃ r', IRep w' q mb r' (upL (L ++ [⟨b, id, t⟩]) L.length) ∧ (∀ k, k ∈ rb r' → k ∈ rb r ∨ w.heap.size ≤ k) ∧ Fr (q :: b :: foot r L) w w' := by
  have m1 := m_push w q
  have HN := Lib.hid hn; clear hn
  have HB := Lib.hid hb; clear hb
  have hlen : (L.length : Int) < 1000000000000 := by omega
  go_enter Try.func28, Try.ntmps28
  go_wp2_with fail
  refine (Push_m h b id t p HB.out HN.out hmb hL).mono ?_
  rintro e w1 ⟨rfl, r', hM, hr', hF⟩
  have c1 := hM.c0
  have m2 := m_len c1
  have HR := Lib.hid hr'; clear hr'
  clear m1 h
  go_wp2_with fail
  refine (Len_n hM _ (by simp)).mono ?_
  rintro e w2 ⟨rfl, rfl⟩
  clear m2
  go_wp2_with fail
  refine (up_c hM _ L.length (by simp) (by simp) (by simp; omega)).mono ?_
  rintro e w2 ⟨rfl, hM2, hF2⟩
  go_wp2_with fail
  go_end0
  refine ⟨rfl, r', hM2, HR.out, hF.trans' hF2 ?_⟩
  intro k hk
  simp only [foot, List.mem_append, List.map_append, List.map_cons, List.map_nil, List.mem_cons, List.not_mem_nil, or_false] at hk
  rcases hk with hk | hk | hk
  · rcases HR.out k hk with x | x
    · exact .inl (by simp [foot, x])
    · exact .inr x
  · exact .inl (by simp only [foot, List.mem_cons, List.mem_append]; exact .inr (.inr (.inr hk)))
  · exact .inl (by simp [hk])

def removeL (L : List E) (i : Nat) : List E :=
  if i = L.length - 1 then L.dropLast else
  let M := swp L i (L.length - 1)
  let d := downL (L.length - 1) M i
  (if i < d.2 then d.1 else upL d.1 i).dropLast

set_option maxRecDepth 100000 in
set_option maxHeartbeats 4000000 in
/-- container/heap.Remove. -/
theorem HRemove_c {w : World} {q mb : Nat} {r : Option (Nat × Nat)} {L : List E} (h : IRep w q mb r L) (a : Int) (i : Nat) (ea : a = i) (hi : i < L.length) (hL : L.length < 1000000000000) :
    Calls Try.prog 29 #[.iface 67 (.pointer (some ⟨q, 0, none⟩)), .int .i64 a] w fun e w' => ∃ v, e = .returned v ∧
      IRep w' q mb r (removeL L i) ∧ Fr (q :: foot r L) w w' := by
  subst ea
  have c0 := h.c0
  have m0 := m_len c0
  have hlen : (L.length : Int) < 1000000000000 := by omega
  have hlen0 : (1 : Int) ≤ L.length := by omega
  go_enter Try.func29, Try.ntmps29
  go_wp2_with fail
  refine (Len_c h).mono ?_
  rintro e w' ⟨rfl, rfl⟩
  clear m0
  by_cases hlast : i = L.length - 1
  · have hR : removeL L i = L.dropLast := by unfold removeL; rw [if_pos hlast]
    have hne : ((L.length : Int) - 1 != (i : Int)) = false := by rw [bne_eq_false_iff_eq]; omega
    have hne' : ((L.length : Int) - 1 == (i : Int)) = true := by rw [beq_iff_eq]; omega
    have HR := Lib.hid hR; clear hR
    have HLA := Lib.hid hlast; clear hlast
    have m1 := m_pop w q
    go_wp2_with fail
    refine (Pop_d h (by omega) hL).mono ?_
    rintro e w1 ⟨⟨b, rfl⟩, hM, hF⟩
    clear m1
    go_wp2_with fail
    go_ret
    exact ⟨_, rfl, HR.out ▸ hM, hF.mono (by simp)⟩
  · have hR : removeL L i = (if i < (downL (L.length - 1) (swp L i (L.length - 1)) i).2 then (downL (L.length - 1) (swp L i (L.length - 1)) i).1 else upL (downL (L.length - 1) (swp L i (L.length - 1)) i).1 i).dropLast := by unfold removeL; rw [if_neg hlast]
    have hne : ((L.length : Int) - 1 != (i : Int)) = true := by rw [bne_iff_ne]; omega
    have hne' : ((L.length : Int) - 1 == (i : Int)) = false := by rw [beq_eq_false_iff_ne]; omega
    have hil : i < L.length - 1 := by omega
    have HR := Lib.hid hR; clear hR
    have HLA := Lib.hid hlast; clear hlast
    have m1 := m_swap c0
    go_wp2_with fail
    refine (Swap_o h _ _ i (L.length - 1) rfl (by omega) hi (by omega) (by omega)).mono ?_
    rintro e w1 ⟨rfl, hM, hF⟩
    have hsl : (swp L i (L.length - 1)).length = L.length := length_swp _ _ _
    have hP : (swp L i (L.length - 1)).Perm L := perm_swp _ _ _ (by omega)
    generalize swp L i (L.length - 1) = M at *
    have HS := Lib.hid hsl; clear hsl
    have HP := Lib.hid hP; clear hP
    have hiM : i < M.length := by rw [HS.out]; exact hi
    have hbM : M.length < 1000000000000 := by rw [HS.out]; exact hL
    clear m1 c0
    go_wp2_with fail
    refine (down_c hM _ _ i (L.length - 1) rfl (by omega) hiM (by rw [HS.out]; omega) (by omega)).mono ?_
    rintro e w2 ⟨rfl, hM2, hF2⟩
    have hP2 := downL_perm (L.length - 1) M i
    have hF3 := hF.trans (hF2.mono (foot_perm HP.out))
    clear hM hF hF2 h
    by_cases hd : i < (downL (L.length - 1) M i).2
    · have hdd : decide (i < (downL (L.length - 1) M i).2) = true := by simpa using hd
      have HD := Lib.hid hd; clear hd
      have HP2 := Lib.hid hP2; clear hP2
      generalize hgen : downL (L.length - 1) M i = d at *
      have HG := Lib.hid hgen; clear hgen
      have hdl : 0 < d.1.length := by rw [HP2.out.length_eq]; omega
      have hdl2 : d.1.length < 1000000000000 := by rw [HP2.out.length_eq]; omega
      have m3 := m_pop w2 q
      go_wp2_with fail
      refine (Pop_d hM2 hdl hdl2).mono ?_
      rintro e w3 ⟨⟨b, rfl⟩, hM3, hF4⟩
      clear m3
      go_wp2_with fail
      go_ret
      refine ⟨_, rfl, ?_, (hF3.mono (by intro k hk; simp [hk])).trans (hF4.mono (by simp))⟩
      rw [HR.out, if_pos HD.out]; exact hM3
    · have hdd : decide (i < (downL (L.length - 1) M i).2) = false := by simpa using hd
      have HD := Lib.hid hd; clear hd
      have HP2 := Lib.hid hP2; clear hP2
      generalize hgen : downL (L.length - 1) M i = d at *
      have HG := Lib.hid hgen; clear hgen
      have hdl : i < d.1.length := by rw [HP2.out.length_eq]; omega
      have hdl2 : d.1.length < 1000000000000 := by rw [HP2.out.length_eq]; omega
      go_wp2_with fail
      refine (up_c hM2 _ i rfl hdl (by omega)).mono ?_
      rintro e w3 ⟨rfl, hM3, hF4⟩
      have hP3 := upL_perm d.1 i
      have hF5 := hF3.trans (hF4.mono (foot_perm (HP2.out.trans HP.out)))
      have hu1 : 0 < (upL d.1 i).length := by rw [hP3.length_eq]; omega
      have hu2 : (upL d.1 i).length < 1000000000000 := by rw [hP3.length_eq]; omega
      clear hP3 hF3 hF4 hM2
      have m3 := m_pop w3 q
      go_wp2_with fail
      refine (Pop_d hM3 hu1 hu2).mono ?_
      rintro e w4 ⟨⟨b, rfl⟩, hM4, hF6⟩
      clear m3
      go_wp2_with fail
      go_ret
      refine ⟨_, rfl, ?_, (hF5.mono (by intro k hk; simp [hk])).trans (hF6.mono (by simp))⟩
      rw [HR.out, if_neg HD.out]; exact hM4
end Go.Proofs.Ytfeikcfhionjkaa.Hp
