/- The queue as a sorted list of (id, time): what its methods answer and leave. -/
import Derived.Test.YtfeikcfhionjkaaHq1
import Derived.Test.YtfeikcfhionjkaaMp
set_option linter.unusedVariables false
set_option linter.unusedSimpArgs false
namespace Go.Proofs.Ytfeikcfhionjkaa.Hp
open Go.RowKit Go.Proofs.Ytfeikcfhionjkaa.B0

abbrev eku : Int → Value := fun n => .int .u64 n
def keyE (e : E) : Int × Int := (e.id, e.t)
def mapE (e : E) : Int × Value := (e.id, .pointer (some ⟨e.b, 0, none⟩))
def ltP (a b : Int × Int) : Prop := a.2 < b.2 ∨ a.2 = b.2 ∧ a.1 < b.1
instance (a b : Int × Int) : Decidable (ltP a b) := by unfold ltP; infer_instance

structure QAt (w : World) (q mb : Nat) (r : Option (Nat × Nat)) (L : List E) (M : List (Int × Value)) (S : List (Int × Int)) : Prop where
  irep : IRep w q mb r L
  mp : MapR eku w mb M
  mperm : M.Perm (L.map mapE)
  ho : HO L.length L
  sp : S.Perm (L.map keyE)
  so : S.Pairwise ltP

def QA (w : World) (q : Nat) (S : List (Int × Int)) (fp : List Nat) : Prop := ∃ mb r L M, QAt w q mb r L M S ∧ fp = q :: mb :: foot r L

theorem QA.fr {w w' : World} {q : Nat} {S : List (Int × Int)} {fp F : List Nat} (h : QA w q S fp) (hf : Fr F w w') (hd : ∀ k, k ∈ fp → k ∉ F) : QA w' q S fp := by
  obtain ⟨mb, r, L, M, h1, rfl⟩ := h
  exact ⟨mb, r, L, M, ⟨h1.irep.fr hf (hd q (by simp)) (fun k hk => hd k (by simp [hk])), h1.mp.fr hf (hd mb (by simp)), h1.mperm, h1.ho, h1.sp, h1.so⟩, rfl⟩

theorem QA.lt {w : World} {q : Nat} {S : List (Int × Int)} {fp : List Nat} (h : QA w q S fp) : ∀ k, k ∈ fp → k < w.heap.size := by
  obtain ⟨mb, r, L, M, h1, rfl⟩ := h
  intro k hk
  simp only [List.mem_cons, foot, List.mem_append, List.mem_map] at hk
  rcases hk with rfl | rfl | hk | ⟨e, he, rfl⟩
  · exact lt_of_get h1.irep.hq
  · exact h1.mp.lt
  · cases r with
    | none => simp [rb] at hk
    | some p => simp [rb] at hk; subst hk; obtain ⟨cs, hg, _⟩ := h1.irep.hr; exact lt_of_get hg
  · obtain ⟨i, hi⟩ := List.mem_iff_getElem?.1 he
    exact lt_of_get (h1.irep.hi i e hi)

theorem KB58 : KeyB Try.prog 27 eku := KeyB.u64 Try.underlying27

section
variable {w : World} {q mb : Nat} {r : Option (Nat × Nat)} {L : List E} {M : List (Int × Value)} {S : List (Int × Int)}

theorem QAt.ids (h : QAt w q mb r L M S) : (L.map E.id).Nodup := by
  have h1 := h.mp.keys KB58
  have h2 := (h.mperm.map Prod.fst).nodup_iff.1 h1
  rw [List.map_map] at h2
  exact h2
theorem QAt.len (h : QAt w q mb r L M S) : S.length = L.length := by rw [h.sp.length_eq]; simp
theorem QAt.idsS (h : QAt w q mb r L M S) : (S.map Prod.fst).Nodup := by
  have h2 := (h.sp.map Prod.fst).nodup_iff.2
  apply h2
  rw [List.map_map]
  exact h.ids
theorem QAt.look (h : QAt w q mb r L M S) (id : Int) : (M.lookup id = none ∧ id ∉ S.map Prod.fst ∧ id ∉ L.map E.id ∧ S.lookup id = none) ∨ ∃ (i : Nat) (e : E), L[i]? = some e ∧ e.id = id ∧ M.lookup id = some (.pointer (some ⟨e.b, 0, none⟩)) ∧ S.lookup id = some e.t ∧ id ∈ S.map Prod.fst := by
  have hk := h.mp.keys KB58
  by_cases hid : id ∈ L.map E.id
  · right
    obtain ⟨e, he, rfl⟩ := List.mem_map.1 hid
    obtain ⟨i, hi⟩ := List.mem_iff_getElem?.1 he
    have hm : mapE e ∈ M := h.mperm.mem_iff.2 (List.mem_map.2 ⟨e, he, rfl⟩)
    have hs : keyE e ∈ S := h.sp.mem_iff.2 (List.mem_map.2 ⟨e, he, rfl⟩)
    obtain ⟨j, hj⟩ := List.mem_iff_getElem?.1 hm
    obtain ⟨j', hj'⟩ := List.mem_iff_getElem?.1 hs
    exact ⟨i, e, hi, rfl, lookup_at hk hj, by have := h.idsS; exact lookup_at this hj', List.mem_map.2 ⟨_, hs, rfl⟩⟩
  · left
    have h1 : id ∉ M.map Prod.fst := by
      intro hh
      have := (h.mperm.map Prod.fst).mem_iff.1 hh
      rw [List.map_map] at this
      exact hid this
    have h2 : id ∉ S.map Prod.fst := by
      intro hh
      have := (h.sp.map Prod.fst).mem_iff.1 hh
      rw [List.map_map] at this
      exact hid this
    exact ⟨lookup_none h1, h2, hid, lookup_none h2⟩
end

theorem zero63 (w : World) : (zeroValue 63).run Try.prog w = .ok (.pointer none) w := by kernel_rfl

set_option maxHeartbeats 1000000 in
theorem New_c (w : World) : Calls Try.prog 11 #[] w fun e w' => ∃ q fp, e = .returned (.pointer (some ⟨q, 0, none⟩)) ∧ QA w' q [] fp ∧ Fr [] w w' ∧ (∀ k, k ∈ fp → w.heap.size ≤ k) := by
  have hmm := @run_makeMap Try.prog
  go_enter Try.func11, Try.ntmps11
  go_wp2
  go_ret
  refine ⟨w.heap.size + 1, [w.heap.size + 1, w.heap.size], rfl, ⟨w.heap.size, none, [], [], ⟨⟨?_, rfl, by simp, by simp [rb]⟩, ?_, by simp, ?_, by simp, by simp⟩, by simp [foot, rb]⟩, ((Fr.refl [] w).alloc _).alloc _, ?_⟩
  · have := allocN (w.alloc (.map #[] 0)) (.cells #[svOf none 0, .map (some w.heap.size)] 62)
    rw [size_alloc] at this; exact this
  · exact (MapR.made w).fr ((Fr.refl [] _).alloc _) (by simp)
  · intro k hk hkn; simp at hkn
  · intro k hk; simp at hk; omega

set_option maxHeartbeats 1000000 in
theorem Len_q {w : World} {q : Nat} {S : List (Int × Int)} {fp : List Nat} (h : QA w q S fp) : Calls Try.prog 13 #[.pointer (some ⟨q, 0, none⟩)] w fun e w' => e = .returned (.int .i64 S.length) ∧ w = w' := by
  obtain ⟨mb, r, L, M, h1, rfl⟩ := h
  have c0 := h1.irep.c0
  have hls := len_sv h1.irep.hr
  have HL := Lib.hid h1.len
  clear h1
  go_enter Try.func13, Try.ntmps13
  go_wp2
  go_ret
  rw [HL.out]
  exact ⟨rfl, rfl⟩
end Go.Proofs.Ytfeikcfhionjkaa.Hp
