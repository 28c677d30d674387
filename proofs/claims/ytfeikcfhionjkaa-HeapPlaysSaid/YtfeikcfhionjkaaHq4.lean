/- The queue's method Put. -/
import Derived.Test.YtfeikcfhionjkaaHq3
set_option linter.unusedVariables false
set_option linter.unusedSimpArgs false
namespace Go.Proofs.Ytfeikcfhionjkaa.Hp
open Go.RowKit Go.Proofs.Ytfeikcfhionjkaa.B0

def insS (x : Int × Int) : List (Int × Int) → List (Int × Int)
  | [] => [x]
  | y :: l => if ltP y x then y :: insS x l else x :: y :: l
def putS (S : List (Int × Int)) (id t : Int) : List (Int × Int) := insS (id, t) (delS S id)

theorem insS_perm (x : Int × Int) (l : List (Int × Int)) : (insS x l).Perm (x :: l) := by
  induction l with
  | nil => exact List.Perm.refl _
  | cons y l ih =>
    unfold insS
    split
    · exact (ih.cons y).trans (List.Perm.swap x y l)
    · exact List.Perm.refl _
theorem ltP_trans {a b c : Int × Int} (h1 : ltP a b) (h2 : ltP b c) : ltP a c := by unfold ltP at *; omega
theorem ltP_total {a b : Int × Int} (h : a.1 ≠ b.1) (h1 : ¬ ltP a b) : ltP b a := by unfold ltP at *; omega
theorem insS_sorted (x : Int × Int) (l : List (Int × Int)) (hl : l.Pairwise ltP) (hx : x.1 ∉ l.map Prod.fst) : (insS x l).Pairwise ltP := by
  induction l with
  | nil => unfold insS; simp
  | cons y l ih =>
    rw [List.pairwise_cons] at hl
    simp only [List.map_cons, List.mem_cons, not_or] at hx
    unfold insS
    split
    · rename_i hyx
      rw [List.pairwise_cons]
      refine ⟨fun z hz => ?_, ih hl.2 hx.2⟩
      rcases List.mem_cons.1 ((insS_perm x l).mem_iff.1 hz) with rfl | hz
      · exact hyx
      · exact hl.1 z hz
    · rename_i hyx
      have hxy : ltP x y := ltP_total (fun hh => hx.1 hh.symm) hyx
      rw [List.pairwise_cons, List.pairwise_cons]
      refine ⟨fun z hz => ?_, hl⟩
      rcases List.mem_cons.1 hz with rfl | hz
      · exact hxy
      · exact ltP_trans hxy (hl.1 z hz)
theorem not_mem_delS (S : List (Int × Int)) (id : Int) : id ∉ (delS S id).map Prod.fst := by
  intro hh
  obtain ⟨p, hp, rfl⟩ := List.mem_map.1 hh
  unfold delS at hp
  rw [List.mem_filter] at hp
  simp at hp
theorem putS_sorted {S : List (Int × Int)} (h : S.Pairwise ltP) (id t : Int) : (putS S id t).Pairwise ltP :=
  insS_sorted _ _ (h.filter _) (not_mem_delS S id)

theorem set_perm {α : Type} {L : List α} {i : Nat} {x y : α} (hx : L[i]? = some x) : ∃ X, L.Perm (x :: X) ∧ (L.set i y).Perm (y :: X) := by
  obtain ⟨hi, rfl⟩ := List.getElem?_eq_some_iff.1 hx
  refine ⟨L.take i ++ L.drop (i + 1), ?_, ?_⟩
  · conv => lhs; rw [← List.take_append_drop i L, List.drop_eq_getElem_cons hi]
    exact List.perm_middle
  · rw [List.set_eq_take_append_cons_drop, if_pos hi]
    exact List.perm_middle

theorem filter_gone' {β : Type} (g : E → Int × β) (hg : ∀ e, (g e).1 = e.id) {X : List E} {e : E} (hn : e.id ∉ X.map E.id) : ((e :: X).map g).filter (fun p => !decide (p.1 = e.id)) = X.map g := by
  have := filter_gone g hg hn
  rw [List.map_append, List.filter_append] at this
  rw [List.map_cons, List.filter_cons]
  simp [hg] at this ⊢
  exact this

theorem map_set_same {α β : Type} (f : α → β) {L : List α} {i : Nat} {x y : α} (hx : L[i]? = some x) (hf : f y = f x) : (L.set i y).map f = L.map f := by
  apply List.ext_getElem?
  intro j
  rw [List.getElem?_map, List.getElem?_map, List.getElem?_set]
  by_cases h : i = j
  · subst h
    rw [if_pos rfl, if_pos (List.getElem?_eq_some_iff.1 hx).1, hx]
    simp [hf]
  · rw [if_neg h]

/-- a new time at one place. -/
theorem set_world {w : World} {q mb : Nat} {r : Option (Nat × Nat)} {L : List E} (h : IRep w q mb r L) {i : Nat} {e : E} (hi : L[i]? = some e) (t : Int) :
    IRep (w.setCell ⟨e.b, 1, none⟩ (.int .u64 t)) q mb r (L.set i ⟨e.b, e.id, t⟩) := by
  have hnd := h.nd
  have hmap : (L.set i ⟨e.b, e.id, t⟩).map E.b = L.map E.b := map_set_same E.b hi rfl
  have hbf : e.b ∈ foot r L := by simp only [foot, List.mem_append, List.mem_map]; exact .inr ⟨e, List.mem_of_getElem? hi, rfl⟩
  have hbq : e.b ≠ q := by
    simp only [List.nodup_cons, List.mem_cons, not_or] at hnd
    rintro rfl; exact hnd.1.2 hbf
  have hbr : e.b ∉ rb r := by
    simp only [List.nodup_cons, List.nodup_append] at hnd
    intro hh
    exact hnd.2.2.2.2 e.b hh e.b (List.mem_map.2 ⟨e, List.mem_of_getElem? hi, rfl⟩) rfl
  refine ⟨?_, ?_, ?_, by rw [hmap]; exact hnd⟩
  · rw [setO _ _ _ (by simpa using hbq.symm), List.length_set]; exact h.hq
  · cases r with
    | none => have := h.hr; simp only [Row] at this ⊢; subst this; simp at hi
    | some p =>
      obtain ⟨g, c⟩ := p
      obtain ⟨cs, hg, hcs, hlc, hcm, hptr⟩ := h.hr
      refine ⟨cs, ?_, hcs, by simpa using hlc, hcm, ?_⟩
      · rw [setO _ _ _ (by simp [rb] at hbr; exact fun hh => hbr hh.symm)]; exact hg
      · intro j x hx
        rw [List.getElem?_set] at hx
        by_cases hij : i = j
        · subst hij
          rw [if_pos rfl, if_pos (List.getElem?_eq_some_iff.1 hi).1] at hx
          cases hx
          exact hptr i e hi
        · rw [if_neg hij] at hx
          exact hptr j x hx
  · intro j x hx
    rw [List.getElem?_set] at hx
    by_cases hij : i = j
    · subst hij
      rw [if_pos rfl, if_pos (List.getElem?_eq_some_iff.1 hi).1] at hx
      cases hx
      have := h.hi i e hi
      unfold itemO at this ⊢
      rw [setB this]; rfl
    · rw [if_neg hij] at hx
      rw [setO _ _ _ (by simpa using (block_ne h hx hi (Ne.symm hij)))]
      exact h.hi j x hx

set_option maxRecDepth 100000 in
set_option maxHeartbeats 4000000 in
theorem Put_q {w : World} {q : Nat} {S : List (Int × Int)} {fp : List Nat} (h : QA w q S fp) (id t : Int) (hlen : S.length < 999999999999) :
    Calls Try.prog 12 #[.pointer (some ⟨q, 0, none⟩), .int .u64 id, .int .u64 t] w fun e w' => e = .returned (.bool (decide (id ∉ S.map Prod.fst))) ∧ ∃ fp', QA w' q (putS S id t) fp' ∧ (∀ k, k ∈ fp' → k ∈ fp ∨ w.heap.size ≤ k) ∧ Fr fp w w' := by
  obtain ⟨mb, r, L, M, h1, rfl⟩ := h
  have c0 := h1.irep.c0
  have c1 := h1.irep.c1
  have hlk := h1.mp.lookup KB58 Try.underlying58 (zero63 w) id
  have HLL : L.length < 999999999999 := by rw [← h1.len]; exact hlen
  rcases h1.look id with ⟨l1, l3, l4, l2⟩ | ⟨i, e, hi, rfl, l1, l2, l3⟩
  · have hd : decide (id ∉ S.map Prod.fst) = true := by simpa using l3
    rw [hd]
    rw [l1] at hlk
    simp only [Option.getD_none] at hlk
    have L4 := Lib.hid l4
    have lq := lt_of_get h1.irep.hq
    have lm := h1.mp.lt
    have hmq : mb ≠ q := by
      have := h1.irep.nd
      simp only [List.nodup_cons, List.mem_cons, not_or] at this
      exact fun hh => this.1.1 hh.symm
    have hmf : mb ∉ foot r L := by
      have := h1.irep.nd
      simp only [List.nodup_cons] at this
      exact this.2.1
    have hfl : ∀ k, k ∈ foot r L → k < w.heap.size := fun k hk => (QA.lt (S := S) ⟨mb, r, L, M, h1, rfl⟩) k (by simp [hk])
    obtain ⟨wa, hwa⟩ : ∃ wa, wa = w.alloc (.cells #[.int .u64 id, .int .u64 t, .int .i64 0] 65) := ⟨_, rfl⟩
    have hFa : Fr [] w wa := by rw [hwa]; exact (Fr.refl [] w).alloc _
    obtain ⟨wu, hup, hMu, hFu⟩ := (h1.mp.fr hFa (by simp)).update KB58 Try.underlying58 id (.pointer (some ⟨w.heap.size, 0, none⟩))
    have hIu := (h1.irep.fr hFa (by simp) (by simp)).fr hFu (by simpa using hmq.symm) (by intro k hk; simp; rintro rfl; exact hmf hk)
    have hbu : wu.heap[w.heap.size]? = some (.cells #[.int .u64 id, .int .u64 t, .int .i64 0] 65 (0, 0)) := by
      refine hFu.get ?_ (by simp; omega)
      rw [hwa]; exact allocN w _
    have c2 := hIu.c0
    have hnew : w.heap.size ≠ q ∧ w.heap.size ≠ mb ∧ w.heap.size ∉ foot r L := ⟨by omega, by omega, fun hh => by have := hfl _ hh; omega⟩
    have hmu : mb < wu.heap.size := by have := hFu.size; have := hFa.size; omega
    rw [hwa] at hup
    have HIU := Lib.hid hIu; clear hIu
    have HFA := Lib.hid hFa; clear hFa
    have HFU := Lib.hid hFu; clear hFu
    have HNEW := Lib.hid hnew; clear hnew
    have HBU := Lib.hid hbu; clear hbu
    have HMF := Lib.hid hmf; clear hmf
    have HFL := Lib.hid hfl; clear hfl
    have HMU := Lib.hid hMu; clear hMu
    have H1 := Lib.hid h1; clear h1
    clear l1 l2 l3 l4 hd hwa
    go_enter Try.func12, Try.ntmps12
    go_wp2_with fail
    refine (HPush_c HIU.out w.heap.size id t _ HBU.out HNEW.out hmu (by omega)).mono ?_
    rintro e w2 ⟨rfl, r', hI2, hr', hF2⟩
    have HR := Lib.hid hr'; clear hr'
    have HI2 := Lib.hid hI2; clear hI2
    have HF2 := Lib.hid hF2; clear hF2
    clear hlk hup c0 c1 c2
    go_wp2_with fail
    go_ret
    have hfu : w.heap.size ≤ wu.heap.size := Nat.le_trans HFA.out.size HFU.out.size
    have hperm := upL_perm (L ++ [⟨w.heap.size, id, t⟩]) L.length
    have hmf2 : mb ∉ q :: w.heap.size :: foot r L := by simp only [List.mem_cons, not_or]; exact ⟨hmq, by omega, HMF.out⟩
    refine ⟨rfl, _, ⟨mb, r', _, _, ⟨HI2.out, HMU.out.fr HF2.out hmf2, ?_, ?_, ?_, ?_⟩, rfl⟩, ?_, ?_⟩
    · have hne : id ∉ M.map Prod.fst := by
        intro hh
        have := (H1.out.mperm.map Prod.fst).mem_iff.1 hh
        rw [List.map_map] at this
        exact L4.out this
      unfold putM
      rw [if_neg hne]
      refine List.Perm.trans ?_ (hperm.map mapE).symm
      rw [List.map_append]
      exact H1.out.mperm.append_right _
    · rw [hperm.length_eq]
      have := push_HO ⟨w.heap.size, id, t⟩ H1.out.ho
      simpa using this
    · refine List.Perm.trans ?_ (hperm.map keyE).symm
      have hdel : delS S id = S := by
        unfold delS; rw [List.filter_eq_self]
        intro a ha
        have : a.1 ≠ id := fun hh => L4.out (by
          have := (H1.out.sp.map Prod.fst).mem_iff.1 (List.mem_map.2 ⟨a, ha, rfl⟩)
          rw [List.map_map, hh] at this
          exact this)
        simp [this]
      unfold putS
      rw [hdel, List.map_append]
      refine (insS_perm _ _).trans ?_
      refine ((H1.out.sp.cons (id, t))).trans ?_
      exact (List.perm_append_singleton _ _).symm
    · exact putS_sorted H1.out.so id t
    · intro k hk
      simp only [List.mem_cons, foot, List.mem_append, List.mem_map] at hk ⊢
      rcases hk with hk | hk | hk | ⟨e, he, rfl⟩
      · exact .inl (.inl hk)
      · exact .inl (.inr (.inl hk))
      · rcases HR.out k hk with x | x
        · exact .inl (.inr (.inr (.inl x)))
        · exact .inr (by omega)
      · have := hperm.mem_iff.1 he
        simp only [List.mem_append, List.mem_cons, List.not_mem_nil, or_false] at this
        rcases this with x | rfl
        · exact .inl (.inr (.inr (.inr ⟨e, x, rfl⟩)))
        · exact .inr (Nat.le_refl _)
    · refine ((HFA.out.mono (by simp)).trans (HFU.out.mono (by simp))).trans' HF2.out ?_
      intro k hk
      simp only [List.mem_cons] at hk ⊢
      rcases hk with hk | hk | hk
      · exact .inl (.inl hk)
      · exact .inr (by omega)
      · exact .inl (.inr (.inr hk))
  · have hd : decide (e.id ∉ S.map Prod.fst) = false := by simpa using l3
    rw [hd]
    rw [l1] at hlk
    simp only [Option.getD_some] at hlk
    have b1 : w.cell? ⟨e.b, 1, none⟩ = some (.int .u64 e.t) := cellB (h1.irep.hi i e hi) 1
    have f1 : w.frozen? ⟨e.b, 1, none⟩ = false := frozenB (h1.irep.hi i e hi) 1
    have b2 : w.cell? ⟨e.b, 2, none⟩ = some (.int .i64 i) := cellB (h1.irep.hi i e hi) 2
    have hil := (List.getElem?_eq_some_iff.1 hi).1
    have hbq : e.b ≠ q := by
      have hnd := h1.irep.nd
      simp only [List.nodup_cons, List.mem_cons, not_or, List.mem_append, List.mem_map, not_exists, not_and] at hnd
      exact fun hh => hnd.1.2.2 e (List.mem_of_getElem? hi) hh
    have HW := Lib.hid (set_world h1.irep hi t)
    have H1 := Lib.hid h1; clear h1
    have HI := Lib.hid hi; clear hi
    clear l1 l2 l3 hd
    go_enter Try.func12, Try.ntmps12
    go_wp2_with fail
    refine wp_region_still_tail 8 (by kernel_rfl) (by kernel_rfl) ?_
    simp only [List.take_succ_cons, List.take_zero, List.drop_succ_cons, List.drop_zero]
    change wpStill _ _ (w.setCell ⟨e.b, 1, none⟩ (.int .u64 t)).drew _ _ _
    repeat still_step
    refine wpStill_nil ?_
    change wpList _ _ _ _ _ (w.setCell ⟨e.b, 1, none⟩ (.int .u64 t)).drew
    go_wp2_with fail
    refine (Fix_c (HW.out.fr ((Fr.refl [] _).drew) (by simp) (by simp)) _ i rfl (by simpa using hil) (by simp; omega)).mono ?_
    rintro e1 w1 ⟨rfl, hI, hF⟩
    go_wp2_with fail
    go_ret
    have hmap : (L.set i ⟨e.b, e.id, t⟩).map mapE = L.map mapE := map_set_same mapE HI.out rfl
    have hmapb : (L.set i ⟨e.b, e.id, t⟩).map E.b = L.map E.b := map_set_same E.b HI.out rfl
    have hfp : ∀ k, k ∈ foot r (L.set i ⟨e.b, e.id, t⟩) ↔ k ∈ foot r L := fun k => by unfold foot; rw [hmapb]
    have hpm := fixL_perm (L.set i ⟨e.b, e.id, t⟩) i
    have hbf : e.b ∈ foot r L := by simp only [foot, List.mem_append, List.mem_map]; exact .inr ⟨e, List.mem_of_getElem? HI.out, rfl⟩
    have hmf : mb ∉ foot r L := by
      have := H1.out.irep.nd
      simp only [List.nodup_cons] at this
      exact this.2.1
    have hF1 : Fr (foot r L) w (w.setCell ⟨e.b, 1, none⟩ (.int .u64 t)).drew := ((Fr.refl _ w).setCell (.inl hbf) _).drew
    have hF2 : Fr (foot r L) w w1 := hF1.trans (hF.mono (fun k hk => (hfp k).1 hk))
    refine ⟨rfl, _, ⟨mb, r, _, _, ⟨hI, H1.out.mp.fr hF2 hmf, ?_, ?_, ?_, ?_⟩, rfl⟩, ?_, hF2.mono (by intro k hk; simp [hk])⟩
    · refine H1.out.mperm.trans ?_
      rw [← hmap]
      exact (hpm.map mapE).symm
    · rw [hpm.length_eq, List.length_set]
      exact fixL_set _ H1.out.ho hil
    · refine List.Perm.trans ?_ (hpm.map keyE).symm
      obtain ⟨X, p1, p2⟩ := set_perm (y := (⟨e.b, e.id, t⟩ : E)) HI.out
      have hnX : e.id ∉ X.map E.id := by
        have := (p1.map E.id).nodup_iff.1 H1.out.ids
        rw [List.map_cons, List.nodup_cons] at this
        exact this.1
      have hd : (delS S e.id).Perm (X.map keyE) := by
        have := (H1.out.sp.trans (p1.map keyE)).filter (fun p => !decide (p.1 = e.id))
        rwa [filter_gone' keyE (fun _ => rfl) hnX] at this
      unfold putS
      refine (insS_perm _ _).trans ?_
      refine (hd.cons _).trans ?_
      exact (p2.map keyE).symm
    · exact putS_sorted H1.out.so e.id t
    · intro k hk
      simp only [List.mem_cons] at hk ⊢
      rcases hk with hk | hk | hk
      · exact .inl (.inl hk)
      · exact .inl (.inr (.inl hk))
      · exact .inl (.inr (.inr ((hfp k).1 (foot_perm hpm k hk))))
end Go.Proofs.Ytfeikcfhionjkaa.Hp
