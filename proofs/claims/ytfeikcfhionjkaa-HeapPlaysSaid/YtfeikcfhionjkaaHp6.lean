/- container/heap's Fix, and the methods Push and Pop of heap's items. -/
import Derived.Test.YtfeikcfhionjkaaHp5
import Derived.Maps.AppendAt
import Derived.Deep.AppendLies
set_option linter.unusedVariables false
set_option linter.unusedSimpArgs false
namespace Go.Proofs.Ytfeikcfhionjkaa.Hp
open Go.RowKit Go.Proofs.Ytfeikcfhionjkaa.B0

def fixL (L : List E) (i : Nat) : List E := if i < (downL L.length L i).2 then (downL L.length L i).1 else upL (downL L.length L i).1 i

theorem downL_perm (n : Nat) (L : List E) (i : Nat) : (downL n L i).1.Perm L := by
  induction hk : n - i using Nat.strongRecOn generalizing L i with
  | ind m ih =>
    by_cases h : 2 * i + 1 < n
    · by_cases hl : ltO L (child n L i) i = true
      · rw [downL_step h rfl hl]
        have h1 := child_gt n L i
        have h2 := child_lt n L i h
        exact (ih (n - child n L i) (by omega) _ _ rfl).trans (perm_swp _ _ _ (by omega))
      · rw [downL_stop rfl (by simpa using hl)]
    · rw [downL_end h]
theorem upL_perm (L : List E) (i : Nat) : (upL L i).Perm L := by
  induction i using Nat.strongRecOn generalizing L with
  | ind m ih =>
    rw [upL]
    split
    · exact List.Perm.refl _
    · split
      · rename_i x y hx hy
        split
        · exact (ih _ (by omega) _).trans (perm_swap hy hx (by omega))
        · exact List.Perm.refl _
      · exact List.Perm.refl _

set_option maxRecDepth 100000 in
set_option maxHeartbeats 2000000 in
theorem Fix_c {w : World} {q mb : Nat} {r : Option (Nat × Nat)} {L : List E} (h : IRep w q mb r L) (a : Int) (i : Nat) (ea : a = i) (hi : i < L.length) (hL : L.length < 2305843009213693952) :
    Calls Try.prog 27 #[.iface 67 (.pointer (some ⟨q, 0, none⟩)), .int .i64 a] w fun e w' => e = .returned (.tuple #[]) ∧ IRep w' q mb r (fixL L i) ∧ Fr (foot r L) w w' := by
  subst ea
  have c0 := h.c0
  have m0 := m_len c0
  go_enter Try.func27, Try.ntmps27
  go_wp2_with fail
  refine (Len_c h).mono ?_
  rintro e w' ⟨rfl, rfl⟩
  clear m0 c0
  go_wp2_with fail
  refine (down_c h _ _ i L.length rfl rfl hi (Nat.le_refl _) hL).mono ?_
  rintro e w1 ⟨rfl, hM, hF⟩
  have hP := downL_perm L.length L i
  by_cases hd : i < (downL L.length L i).2
  · have hf : fixL L i = (downL L.length L i).1 := by unfold fixL; rw [if_pos hd]
    rw [← hf] at hM
    have HF := Lib.hid hf; clear hf
    have hdd : decide (i < (downL L.length L i).2) = true := by simpa using hd
    clear hP h
    go_wp2_with fail
    go_end0
    exact ⟨rfl, hM, hF⟩
  · have hf : fixL L i = upL (downL L.length L i).1 i := by unfold fixL; rw [if_neg hd]
    have HF := Lib.hid hf; clear hf
    have hdd : decide (i < (downL L.length L i).2) = false := by simpa using hd
    have HP := Lib.hid hP; clear hP
    have HL := HP.out.length_eq
    have hi' : i < (downL L.length L i).1.length := by rw [HL]; exact hi
    have hL' : (downL L.length L i).1.length < 4611686018427387904 := by rw [HL]; omega
    clear HL h
    go_wp2_with fail
    refine (up_c hM _ i rfl hi' hL').mono ?_
    rintro e w2 ⟨rfl, hM2, hF2⟩
    go_wp2_with fail
    go_end0
    exact ⟨rfl, HF.out ▸ hM2, hF.trans (hF2.mono (foot_perm HP.out))⟩

theorem grownBy_setCell (w : World) (p : Addr) (u : Value) : w.grownBy (w.setCell p u) (some p.block) :=
  ⟨rfl, rfl, rfl, by simp [World.setCell], fun k hk hn => setO _ _ _ (by intro h; exact hn (by rw [h]))⟩

def ptrs (L : List E) : List Value := L.map fun e => Value.pointer (some ⟨e.b, 0, none⟩)

theorem svOf_block (r : Option (Nat × Nat)) (n : Nat) : (svOf r n).ownBlock = r.map (·.1) := by cases r <;> rfl

theorem Row.owns {w : World} {L : List E} {r : Option (Nat × Nat)} (h : Row w L r) : w.ownsRow 0 63 1 (svOf r L.length) L.length (ptrs L) := by
  refine ⟨by simp [ptrs], ?_⟩
  cases r with
  | none => simp only [Row] at h; subst h; exact .inl ⟨rfl, rfl⟩
  | some p =>
    obtain ⟨g, c⟩ := p
    obtain ⟨cs, h1, h2, h3, h4, h5⟩ := h
    refine .inr ⟨g, c, cs, rfl, Nat.zero_le _, h1, h3, h4, by omega, ?_⟩
    apply List.ext_getElem?
    intro i
    rw [List.getElem?_take, Array.getElem?_toList]
    simp only [ptrs, List.getElem?_map, Nat.mul_one]
    by_cases hi : i < L.length
    · rw [if_pos hi, h5 i _ (List.getElem?_eq_getElem hi), List.getElem?_eq_getElem hi]; rfl
    · rw [if_neg hi, List.getElem?_eq_none (by omega)]; rfl

theorem Row.of_owns {w : World} {L : List E} {v : Value} (h : w.ownsRow 0 63 1 v L.length (ptrs L)) : ∃ r, v = svOf r L.length ∧ Row w L r := by
  rcases h.2 with ⟨rfl, hn⟩ | ⟨g, cap, cur, rfl, _, hg, hnc, hcm, hcs, ht⟩
  · exact ⟨none, rfl, List.eq_nil_of_length_eq_zero hn⟩
  · refine ⟨some (g, cap), rfl, cur, hg, by omega, hnc, hcm, fun i e he => ?_⟩
    have hi := (List.getElem?_eq_some_iff.1 he).1
    have := congrArg (fun l => l[i]?) ht
    simp only [List.getElem?_take, Nat.mul_one, if_pos hi, Array.getElem?_toList, ptrs, List.getElem?_map, he] at this
    exact this

theorem len_sv {w0 : World} {L : List E} {r : Option (Nat × Nat)} (hr : Row w0 L r) (ty : TypeId) (w : World) : (Builtin.len_ #[60] ty #[svOf r L.length]).run Try.prog w = .ok (.int .i64 L.length) w := by
  cases r with
  | none => simp only [Row] at hr; subst hr; kernel_rfl
  | some p => simp [svOf, Builtin.len_, run_underlying Try.underlying60, goInt]
theorem Try.info63 : (Try.prog.info? 63).map (fun i => (i.zero, i.size, i.bytes)) = some (some (.pointer none), 1, 8) := by kernel_rfl

theorem push_world {w w' : World} {q mb : Nat} {r : Option (Nat × Nat)} {L : List E} (h : IRep w q mb r L) (b : Nat) (id t : Int) (p v' : Value) (hb : w.heap[b]? = some (.cells #[.int .u64 id, .int .u64 t, p] 65 (0, 0)))
    (hn : b ≠ q ∧ b ≠ mb ∧ b ∉ foot r L) (hmb : mb < w.heap.size) (hown : w'.ownsRow 0 63 1 v' (L.length + 1) (ptrs L ++ [.pointer (some ⟨b, 0, none⟩)]))
    (hg : ((w.setCell ⟨b, 2, none⟩ (.int .i64 L.length)).alloc (.cells #[.pointer (some ⟨b, 0, none⟩)] 63)).grownBy w' (svOf r L.length).ownBlock)
    (hat : v'.ownBlock = (svOf r L.length).ownBlock ∨ v'.ownBlock = some (w.heap.size + 1)) :
    w'.heap[q]? = some (.cells #[svOf r L.length, .map (some mb)] 62 (0, 0)) ∧
    ∃ r', IRep (w'.setCell ⟨q, 0, none⟩ v') q mb r' (L ++ [⟨b, id, t⟩]) ∧ (∀ k, k ∈ rb r' → k ∈ rb r ∨ w.heap.size ≤ k) ∧ Fr (q :: b :: foot r L) w (w'.setCell ⟨q, 0, none⟩ v') := by
  have lb := lt_of_get hb
  have lq := lt_of_get h.hq
  have hsz := hg.size
  simp only [size_alloc, size_setCell] at hsz
  have hblk : ∀ k, k < w.heap.size → k ∉ rb r → w'.heap[k]? = (w.setCell ⟨b, 2, none⟩ (.int .i64 L.length)).heap[k]? := by
    intro k hk hr
    rw [hg.block k (by simp only [size_alloc, size_setCell]; omega) ?_, allocO _ _ (by rw [size_setCell]; exact hk)]
    rw [svOf_block]
    intro e
    cases r with
    | none => simp at e
    | some p => simp at e; exact hr (by simp [rb, e])
  have hold : ∀ k, k < w.heap.size → k ∉ rb r → k ≠ b → w'.heap[k]? = w.heap[k]? := by
    intro k hk hr hkb
    rw [hblk k hk hr, setO _ _ _ (by simpa using hkb)]
  have hqr : q ∉ rb r := by
    have := h.nd
    simp only [List.nodup_cons, List.mem_cons, List.mem_append, not_or] at this
    exact this.1.2.1
  have hmr : mb ∉ rb r := by
    have := h.nd
    simp only [List.nodup_cons, List.mem_cons, List.mem_append, not_or] at this
    exact this.2.1.1
  have hqm : q ≠ mb := by
    have := h.nd
    simp only [List.nodup_cons, List.mem_cons, List.mem_append, not_or] at this
    exact this.1.1
  have hbr : b ∉ rb r := fun hh => hn.2.2 (by simp [foot, hh])
  have hq' := (hold q lq hqr hn.1.symm).trans h.hq
  have hvn : ∃ r', v' = svOf r' (L ++ [(⟨b, id, t⟩ : E)]).length ∧ Row w' (L ++ [⟨b, id, t⟩]) r' :=
    Row.of_owns (L := L ++ [(⟨b, id, t⟩ : E)]) (by simpa [ptrs] using hown)
  obtain ⟨r', hv, hrow⟩ := hvn
  have hrb : ∀ k, k ∈ rb r' → k ∈ rb r ∨ k = w.heap.size + 1 := by
    intro k hk
    rw [hv, svOf_block, svOf_block] at hat
    cases r' with
    | none => simp [rb] at hk
    | some p' =>
      simp [rb] at hk
      subst hk
      cases r with
      | none => simp at hat; exact .inr hat
      | some p => simp at hat; rcases hat with hh | hh; exact .inl (by simp [rb, hh]); exact .inr hh
  have hE : ∀ e, e ∈ L → e.b ≠ q ∧ e.b ≠ mb ∧ e.b ∉ rb r ∧ e.b ≠ b ∧ e.b < w.heap.size := by
    intro e he
    have hnd := h.nd
    simp only [List.nodup_cons, List.mem_cons, List.mem_append, not_or, List.mem_map, not_exists, not_and, List.nodup_append] at hnd
    refine ⟨fun hh => hnd.1.2.2 e he hh, fun hh => hnd.2.1.2 e he hh, fun hh => ?_, fun hh => hn.2.2 ?_, ?_⟩
    · exact hnd.2.2.2.2 e.b hh e.b ⟨e, he, rfl⟩ rfl
    · rw [← hh]; simp only [foot, List.mem_append, List.mem_map]; exact .inr ⟨e, he, rfl⟩
    · obtain ⟨i, hi⟩ := List.mem_iff_getElem?.1 he
      exact lt_of_get (h.hi i e hi)
  have hqr' : q ∉ rb r' := fun hh => by rcases hrb q hh with x | x; exact hqr x; omega
  refine ⟨hq', r', ⟨?_, ?_, ?_, ?_⟩, ?_, ?_⟩
  · rw [setB hq', hv]; rfl
  · cases r' with
    | none => exact hrow
    | some p' =>
      obtain ⟨g', c'⟩ := p'
      obtain ⟨cs, h1, h2⟩ := hrow
      exact ⟨cs, by rw [setO _ _ _ (by simp [rb] at hqr'; exact fun e => hqr' e.symm)]; exact h1, h2⟩
  · intro i e he
    by_cases hi : i < L.length
    · rw [List.getElem?_append_left hi] at he
      obtain ⟨n1, n2, n3, n4, n5⟩ := hE e (List.mem_of_getElem? he)
      rw [setO _ _ _ (by simpa using n1), hold _ n5 n3 n4]
      exact h.hi i e he
    · rw [List.getElem?_append_right (by omega)] at he
      have hi' : i = L.length := by
        have := (List.getElem?_eq_some_iff.1 he).1
        simp at this; omega
      subst hi'
      simp at he
      subst he
      rw [setO _ _ _ (by simpa using hn.1), hblk b lb hbr, setB hb]
      rfl
  · have hmr' : mb ∉ rb r' := fun hh => by rcases hrb mb hh with x | x; exact hmr x; omega
    have hbr' : b ∉ rb r' := fun hh => by rcases hrb b hh with x | x; exact hbr x; omega
    have hnL : (L.map E.b).Nodup := by
      have := h.nd
      simp only [List.nodup_cons, List.nodup_append] at this
      exact this.2.2.2.1
    have hbL : b ∉ L.map E.b := fun hh => hn.2.2 (by simp only [foot, List.mem_append]; exact .inr hh)
    have hrr : (rb r').Nodup := by cases r' <;> simp [rb]
    have hELr : ∀ x, x ∈ L.map E.b → x ≠ q ∧ x ≠ mb ∧ x ∉ rb r' := by
      intro x hx
      obtain ⟨e, he, rfl⟩ := List.mem_map.1 hx
      obtain ⟨n1, n2, n3, n4, n5⟩ := hE e he
      exact ⟨n1, n2, fun hh => by rcases hrb _ hh with y | y; exact n3 y; omega⟩
    rw [List.map_append, List.map_cons, List.map_nil, List.nodup_cons, List.nodup_cons, List.nodup_append, List.nodup_append]
    refine ⟨?_, ?_, hrr, ⟨hnL, by simp, ?_⟩, ?_⟩
    · simp only [List.mem_cons, List.mem_append, not_or, List.not_mem_nil, or_false]
      exact ⟨hqm, hqr', fun hh => (hELr q hh).1 rfl, hn.1.symm⟩
    · simp only [List.mem_cons, List.mem_append, not_or, List.not_mem_nil, or_false]
      exact ⟨hmr', fun hh => (hELr mb hh).2.1 rfl, hn.2.1.symm⟩
    · intro x hx y hy; simp at hy; subst hy; exact fun hh => hbL (hh ▸ hx)
    · intro x hx y hy e
      subst e
      simp only [List.mem_append, List.mem_cons, List.not_mem_nil, or_false] at hy
      rcases hy with hy | hy
      · exact (hELr x hy).2.2 hx
      · subst hy; exact hbr' hx
  · intro k hk
    rcases hrb k hk with x | x
    · exact .inl x
    · exact .inr (by omega)
  · refine ⟨?_, ?_, ?_, ?_, ?_⟩
    · exact hg.os
    · exact hg.tape
    · exact hg.output
    · rw [size_setCell]; omega
    · intro k hk hkn
      simp only [List.mem_cons, not_or] at hkn
      rw [setO _ _ _ (by simpa using hkn.1)]
      exact hold k hk (fun hh => hkn.2.2 (by simp [foot, hh])) hkn.2.1

set_option maxRecDepth 100000 in
set_option maxHeartbeats 2000000 in
theorem Push_m {w : World} {q mb : Nat} {r : Option (Nat × Nat)} {L : List E} (h : IRep w q mb r L) (b : Nat) (id t : Int) (p : Value) (hb : w.heap[b]? = some (.cells #[.int .u64 id, .int .u64 t, p] 65 (0, 0)))
    (hn : b ≠ q ∧ b ≠ mb ∧ b ∉ foot r L) (hmb : mb < w.heap.size) (hL : L.length < 1000000000000) :
    Calls Try.prog 75 #[.pointer (some ⟨q, 0, none⟩), .iface 63 (.pointer (some ⟨b, 0, none⟩))] w fun e w' => e = .returned (.tuple #[]) ∧
      ∃ r', IRep w' q mb r' (L ++ [⟨b, id, t⟩]) ∧ (∀ k, k ∈ rb r' → k ∈ rb r ∨ w.heap.size ≤ k) ∧ Fr (q :: b :: foot r L) w w' := by
  have c0 := h.c0
  have f0 : w.frozen? ⟨q, 0, none⟩ = false := frozenB h.hq 0
  have b2 : w.cell? ⟨b, 2, none⟩ = some p := cellB hb 2
  have fb : w.frozen? ⟨b, 2, none⟩ = false := frozenB hb 2
  have hbq := hn.1
  have hqb := hn.1.symm
  have HN := Lib.hid hn.2; clear hn
  have hown := h.hr.owns
  have lb := lt_of_get hb
  have lq := lt_of_get h.hq
  have hls := len_sv h.hr
  have H := Lib.hid h; clear h
  have HB := Lib.hid hb; clear hb
  have hlen : (L.length : Int) < 1000000000000 := by omega
  obtain ⟨i0, hi, hz0, hz1, hz2⟩ := info_parts Try.info63
  have ta : ∀ w, (Instr.typeAssert (.iface 63 (.pointer (some ⟨b, 0, none⟩))) 20 63 false).run Try.prog w = .ok (.pointer (some ⟨b, 0, none⟩)) w := fun _ => by kernel_rfl
  go_enter Try.func75, Try.ntmps75
  have hown1 : (w.setCell ⟨b, 2, none⟩ (.int .i64 L.length)).ownsRow 0 63 1 (svOf r L.length) L.length (ptrs L) := by
    refine hown.kept (grownBy_setCell w ⟨b, 2, none⟩ _) (.inr ?_)
    rw [svOf_block]
    intro e
    apply HN.out.2
    cases r with
    | none => simp at e
    | some p => simp at e; simp [foot, rb, e]
  go_wp2_with (at_builtin; refine wpList_append_own_at _ rfl _ _ 60 rfl 0 63 i0 _ 1 8 Try.underlying60 hi hz0 hz1 hz2 rfl (by decide) _ _ _ rfl (hown1.alloc _) ⟨w.heap.size, 0, none⟩ 1 1 [.pointer (some ⟨b, 0, none⟩)] rfl rfl ?c1 ?c2 ?c3 ?c4 ?c5 ?_)
  case c1 => have hh := cell_one_new (w.setCell ⟨b, 2, none⟩ (.int .i64 L.length)) (.pointer (some ⟨b, 0, none⟩)) 63; rw [size_setCell] at hh; exact hh
  case c2 => intro u hu; simp at hu; subst hu; rfl
  case c3 => unfold maxLen; omega
  case c4 => omega
  case c5 => exact Nat.zero_le _
  intro v' w1 ho hg hnil hat
  obtain ⟨gg, cap, rfl, _⟩ := ho.form (by omega)
  have hn : b ≠ q ∧ b ≠ mb ∧ b ∉ foot r L := ⟨hbq, HN.out⟩
  have hpw := push_world H.out b id t p _ HB.out hn hmb ho hg (by simpa using hat)
  obtain ⟨hq1, r', hI, hr', hF⟩ := hpw
  have k0 : w1.cell? ⟨q, 0, none⟩ = some (svOf r L.length) := cellB hq1 0
  have kf : w1.frozen? ⟨q, 0, none⟩ = false := frozenB hq1 0
  have HI := Lib.hid hI; clear hI
  clear ho hg hat hq1 hown hown1 c0 f0 b2 fb ta hls hn
  have HR := Lib.hid hr'; clear hr'
  have HF := Lib.hid hF; clear hF
  clear hnil hi hz0 hz1 hz2 i0 hlen hmb hL lb lq
  go_wp2_with fail
  go_end0
  exact ⟨rfl, r', HI.out, HR.out, HF.out⟩
end Go.Proofs.Ytfeikcfhionjkaa.Hp
