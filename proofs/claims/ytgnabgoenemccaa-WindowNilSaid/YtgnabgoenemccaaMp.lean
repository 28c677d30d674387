/- Maps in memory, by the list of their entries: what a lookup, a store, a delete, a length come to. No program. -/
import Derived.Test.YtgnabgoenemccaaB0
import Derived.Maps.Own
set_option linter.unusedVariables false
set_option linter.unusedSimpArgs false
namespace Go.Proofs.Ytgnabgoenemccaa.B0
open Go.RowKit Go.MapKept

/-- How keys of a type are told in memory. -/
structure KeyB (P : Program) (kt : TypeId) {K : Type} (ek : K → Value) : Prop where
  inj : ∀ a b, ek a = ek b → a = b
  chk : ∀ e w k, (Instr.checkKey e 10000 kt (ek k)).run P w = .ok () w
  fnd : ∀ k (l : List MapEntry) w, (∀ x ∈ l, ∃ k', x.key = ek k') →
    ((Instr.findKey kt (ek k) l).run P w = .ok none w ∧ ∀ x ∈ l, x.key ≠ ek k) ∨ ∃ j e, (Instr.findKey kt (ek k) l).run P w = .ok (some (j, e.val)) w ∧ l[j]? = some e ∧ e.key = ek k
  stay : ∀ k w, (Instr.keyThatStays (ek k) (ek k)).run P w = .ok (ek k) w

theorem KeyB.of_isKey {P : Program} {kt : TypeId} {d : TypeDesc} {K : Type} {ek : K → Value} (hd : P.underlying kt = some d) (hk : ∀ k, IsKey d (ek k)) (inj : ∀ a b, ek a = ek b → a = b) : KeyB P kt ek where
  inj := inj
  chk := fun e w k => run_checkKey hd (hk k) e 9999
  fnd := fun k l w hl => by
    rcases findNow_spec (hk k) l 0 (fun x hx => by obtain ⟨k', h⟩ := hl x hx; rw [h]; exact hk k') with ⟨h1, h2⟩ | ⟨j, e, h1, h2, h3⟩
    · exact .inl ⟨run_findKey hd h1, h2⟩
    · exact .inr ⟨j, e, by simpa using run_findKey (w := w) hd h1, h2, h3⟩
  stay := fun k w => run_keyThatStays (hk k)

theorem KeyB.u64 {P : Program} {kt : TypeId} (hd : P.underlying kt = some (.int .u64)) : KeyB P kt (fun n : Int => Value.int .u64 n) :=
  .of_isKey hd (fun k => by simp [IsKey]) (fun a b h => by simpa using h)
theorem KeyB.str {P : Program} {kt : TypeId} (hd : P.underlying kt = some .string) : KeyB P kt (fun s : ByteArray => Value.string s) :=
  .of_isKey hd (fun k => by simp [IsKey]) (fun a b h => by simpa using h)

/-- Block b of w is a map of these entries, in the order in which they came. -/
def MapR {K : Type} (ek : K → Value) (w : World) (b : Nat) (M : List (K × Value)) : Prop :=
  ∃ es clock, w.heap[b]? = some (.map es clock) ∧ es.toList.map (fun e => (e.key, e.val)) = M.map (fun p => (ek p.1, p.2)) ∧ Stamped es clock

theorem MapR.lt {K : Type} {ek : K → Value} {w : World} {b : Nat} {M : List (K × Value)} (h : MapR ek w b M) : b < w.heap.size := by obtain ⟨_, _, h1, _⟩ := h; exact lt_of_get h1
theorem MapR.fr {K : Type} {ek : K → Value} {w w' : World} {b : Nat} {M : List (K × Value)} {F : List Nat} (h : MapR ek w b M) (hf : Fr F w w') (hb : b ∉ F) : MapR ek w' b M := by
  obtain ⟨es, c, h1, h2⟩ := h
  exact ⟨es, c, hf.get h1 hb, h2⟩
theorem MapR.made {K : Type} {ek : K → Value} (w : World) : MapR ek (w.alloc (.map #[] 0)) w.heap.size ([] : List (K × Value)) := ⟨#[], 0, allocN w _, by simp, stamped_empty 0⟩

theorem nodup_of_map {α β : Type} (f : α → β) {l : List α} (h : (l.map f).Nodup) : l.Nodup := by
  unfold List.Nodup at *
  rw [List.pairwise_map] at h
  exact h.imp (fun hab e => hab (by rw [e]))
theorem nodup_inj {α : Type} {l : List α} (h : l.Nodup) {i j : Nat} {x : α} (hi : l[i]? = some x) (hj : l[j]? = some x) : i = j := by
  obtain ⟨l1, e1⟩ := List.getElem?_eq_some_iff.1 hi
  obtain ⟨l2, e2⟩ := List.getElem?_eq_some_iff.1 hj
  rcases Nat.lt_trichotomy i j with hlt | heq | hgt
  · exact absurd (e1.trans e2.symm) (List.pairwise_iff_getElem.1 h i j l1 l2 hlt)
  · exact heq
  · exact absurd (e2.trans e1.symm) (List.pairwise_iff_getElem.1 h j i l2 l1 hgt)

theorem MapR.keys {K : Type} {ek : K → Value} {P : Program} {kt : TypeId} {w : World} {b : Nat} {M : List (K × Value)} (KB : KeyB P kt ek) (h : MapR ek w b M) : (M.map Prod.fst).Nodup := by
  obtain ⟨es, c, h1, h2, h3⟩ := h
  have hn : (es.toList.map (·.key)).Nodup := h3.2.2
  have e : es.toList.map (·.key) = (M.map Prod.fst).map ek := by
    have := congrArg (List.map Prod.fst) h2
    rw [List.map_map, List.map_map] at this
    rw [List.map_map]
    exact this
  rw [e] at hn
  exact nodup_of_map _ hn

theorem nodup_at {K : Type} {M : List (K × Value)} (hn : (M.map Prod.fst).Nodup) {i j : Nat} {p q : K × Value} (hi : M[i]? = some p) (hj : M[j]? = some q) (h : p.1 = q.1) : i = j :=
  nodup_inj hn (x := p.1) (by simp [hi]) (by simp [hj, h])

theorem find_M {K : Type} {ek : K → Value} {P : Program} {kt : TypeId} (KB : KeyB P kt ek) (k : K) {es : Array MapEntry} {M : List (K × Value)} (h2 : es.toList.map (fun e => (e.key, e.val)) = M.map (fun p => (ek p.1, p.2))) (w : World) :
    ((Instr.findKey kt (ek k) es.toList).run P w = .ok none w ∧ k ∉ M.map Prod.fst) ∨
    ∃ j e v, (Instr.findKey kt (ek k) es.toList).run P w = .ok (some (j, v)) w ∧ es[j]? = some e ∧ e.key = ek k ∧ e.val = v ∧ M[j]? = some (k, v) := by
  have hl : ∀ x ∈ es.toList, ∃ k', x.key = ek k' := by
    intro x hx
    have : (x.key, x.val) ∈ es.toList.map (fun e => (e.key, e.val)) := List.mem_map.2 ⟨x, hx, rfl⟩
    rw [h2] at this
    obtain ⟨p, _, hp⟩ := List.mem_map.1 this
    simp only [Prod.mk.injEq] at hp
    exact ⟨p.1, hp.1.symm⟩
  rcases KB.fnd k es.toList w hl with ⟨h1, h3⟩ | ⟨j, e, h1, h3, h4⟩
  · refine .inl ⟨h1, fun hh => ?_⟩
    obtain ⟨p, hp, rfl⟩ := List.mem_map.1 hh
    have : (ek p.1, p.2) ∈ M.map (fun p => (ek p.1, p.2)) := List.mem_map.2 ⟨p, hp, rfl⟩
    rw [← h2] at this
    obtain ⟨x, hx, he⟩ := List.mem_map.1 this
    simp only [Prod.mk.injEq] at he
    exact h3 x hx he.1
  · refine .inr ⟨j, e, e.val, h1, by simpa using h3, h4, rfl, ?_⟩
    have := congrArg (fun l => l[j]?) h2
    simp only [List.getElem?_map, h3, Option.map_some] at this
    cases hm : M[j]? with
    | none => simp [hm] at this
    | some p =>
      simp only [hm, Option.map_some, Option.some.injEq, Prod.mk.injEq] at this
      rw [h4] at this
      obtain ⟨t1, t2⟩ := this
      have := KB.inj _ _ t1
      subst this
      rw [t2]

section
variable {K : Type} [DecidableEq K] {ek : K → Value} {P : Program} {kt : TypeId} {w w' : World} {b : Nat} {M : List (K × Value)}

def putM (M : List (K × Value)) (k : K) (v : Value) : List (K × Value) := if k ∈ M.map Prod.fst then M.map (fun p => if p.1 = k then (k, v) else p) else M ++ [(k, v)]
def delM (M : List (K × Value)) (k : K) : List (K × Value) := M.filter (fun p => !decide (p.1 = k))

theorem lookup_at {V : Type} {M : List (K × V)} (hn : (M.map Prod.fst).Nodup) {i : Nat} {p : K × V} (hi : M[i]? = some p) : M.lookup p.1 = some p.2 := by
  induction M generalizing i with
  | nil => simp at hi
  | cons a M ih =>
    simp only [List.map_cons, List.nodup_cons] at hn
    cases i with
    | zero => simp at hi; subst hi; simp [List.lookup]
    | succ i =>
      simp at hi
      have hne : p.1 ≠ a.1 := fun hh => hn.1 (by rw [← hh]; exact List.mem_map.2 ⟨p, List.mem_of_getElem? hi, rfl⟩)
      have : (p.1 == a.1) = false := by simp [hne]
      simp only [List.lookup, this]
      exact ih hn.2 hi
theorem lookup_none {V : Type} {M : List (K × V)} {k : K} (h : k ∉ M.map Prod.fst) : M.lookup k = none := by
  induction M with
  | nil => rfl
  | cons a M ih =>
    simp only [List.map_cons, List.mem_cons, not_or] at h
    have : (k == a.1) = false := by simp [h.1]
    simp only [List.lookup, this]
    exact ih h.2

theorem MapR.lookup (KB : KeyB P kt ek) (h : MapR ek w b M) {t e : TypeId} (ht : P.underlying t = some (.map kt e)) {z : Value} (hz : (zeroValue e).run P w = .ok z w) (k : K) :
    (Instr.lookup t (.map (some b)) (ek k) false).run P w = .ok ((M.lookup k).getD z) w := by
  have hn := h.keys KB
  obtain ⟨es, c, h1, h2, h3⟩ := h
  rcases find_M KB k h2 w with ⟨f, hne⟩ | ⟨j, e, v, f, _, _, _, hm⟩
  · rw [lookup_none hne]
    simp [Instr.lookup, run_underlying ht, Go.MapKept.run_getObj_map h1, KB.chk, f, Result.andThen, hz]
  · rw [lookup_at hn hm]
    simp [Instr.lookup, run_underlying ht, Go.MapKept.run_getObj_map h1, KB.chk, f, Result.andThen]

theorem MapR.lookup_ok (KB : KeyB P kt ek) (h : MapR ek w b M) {t e : TypeId} (ht : P.underlying t = some (.map kt e)) {z : Value} (hz : (zeroValue e).run P w = .ok z w) (k : K) :
    (Instr.lookup t (.map (some b)) (ek k) true).run P w = .ok (.tuple #[(M.lookup k).getD z, .bool (M.lookup k).isSome]) w := by
  have hn := h.keys KB
  obtain ⟨es, c, h1, h2, h3⟩ := h
  rcases find_M KB k h2 w with ⟨f, hne⟩ | ⟨j, e, v, f, _, _, _, hm⟩
  · rw [lookup_none hne]
    simp [Instr.lookup, run_underlying ht, Go.MapKept.run_getObj_map h1, KB.chk, f, Result.andThen, hz]
  · rw [lookup_at hn hm]
    simp [Instr.lookup, run_underlying ht, Go.MapKept.run_getObj_map h1, KB.chk, f, Result.andThen]

/-- what a store and a delete leave: one block is another. -/
def setBlk (w : World) (b : Nat) (o : Obj) : World := { w with heap := w.heap.setIfInBounds b o }
theorem setBlk_same {w : World} {b : Nat} {o o' : Obj} (h : w.heap[b]? = some o) : (setBlk w b o').heap[b]? = some o' := (heap_set h).1
theorem setBlk_fr {w : World} {b : Nat} {o o' : Obj} (h : w.heap[b]? = some o) : Fr [b] w (setBlk w b o') :=
  ⟨rfl, rfl, rfl, by simp [setBlk], fun k _ hk => (heap_set h).2 k (by simpa using hk)⟩

theorem putM_in {M : List (K × Value)} {k : K} {v v0 : Value} {j : Nat} (hn : (M.map Prod.fst).Nodup) (hj : M[j]? = some (k, v0)) : putM M k v = M.set j (k, v) := by
  have hm : k ∈ M.map Prod.fst := List.mem_map.2 ⟨_, List.mem_of_getElem? hj, rfl⟩
  unfold putM
  rw [if_pos hm]
  apply List.ext_getElem?
  intro i
  rw [List.getElem?_map, List.getElem?_set]
  by_cases hij : j = i
  · subst hij
    obtain ⟨hlt, he⟩ := List.getElem?_eq_some_iff.1 hj
    simp [hlt, he]
  · rw [if_neg hij]
    cases hi : M[i]? with
    | none => rfl
    | some p =>
      have : p.1 ≠ k := fun hh => hij (nodup_at hn hj hi (by simp [hh]))
      simp [this]

theorem MapR.update (KB : KeyB P kt ek) (h : MapR ek w b M) {t e : TypeId} (ht : P.underlying t = some (.map kt e)) (k : K) (v : Value) :
    ∃ w', (Instr.mapUpdate t (.map (some b)) (ek k) v).run P w = .ok () w' ∧ MapR ek w' b (putM M k v) ∧ Fr [b] w w' := by
  have hn := h.keys KB
  obtain ⟨es, c, h1, h2, h3⟩ := h
  rcases find_M KB k h2 w with ⟨f, hne⟩ | ⟨j, e, v0, f, he, hek, hev, hm⟩
  · refine ⟨setBlk w b (.map (es.push { key := ek k, val := v, born := c }) (c + 1)), ?_, ⟨_, _, setBlk_same h1, ?_, ?_⟩, setBlk_fr h1⟩
    · simp [Instr.mapUpdate, run_underlying ht, Go.MapKept.run_getObj_map h1, KB.chk, f, Result.andThen, run_setObj_map _ h1, setBlk]
    · unfold putM
      rw [if_neg hne]
      simp [h2]
    · refine stamped_push h3 ?_
      intro x hx hh
      have : (x.key, x.val) ∈ es.toList.map (fun e => (e.key, e.val)) := List.mem_map.2 ⟨x, hx, rfl⟩
      rw [h2] at this
      obtain ⟨p, hp, hpe⟩ := List.mem_map.1 this
      simp only [Prod.mk.injEq] at hpe
      have hh' : ek p.1 = ek k := by rw [hpe.1]; exact hh
      exact hne (by rw [← KB.inj _ _ hh']; exact List.mem_map.2 ⟨p, hp, rfl⟩)
  · refine ⟨setBlk w b (.map (es.modify j fun e => { e with key := ek k, val := v }) c), ?_, ⟨_, _, setBlk_same h1, ?_, ?_⟩, setBlk_fr h1⟩
    · simp [Instr.mapUpdate, run_underlying ht, Go.MapKept.run_getObj_map h1, KB.chk, f, Result.andThen, run_setObj_map _ h1, setBlk, he, hek, KB.stay]
    · rw [putM_in hn hm]
      apply List.ext_getElem?
      intro i
      have h2i := congrArg (fun l => l[i]?) h2
      simp only [List.getElem?_map, Array.getElem?_toList] at h2i
      simp only [List.getElem?_map, Array.getElem?_toList, Array.getElem?_modify, List.getElem?_set]
      by_cases hij : j = i
      · subst hij
        have := (List.getElem?_eq_some_iff.1 hm).1
        simp [he, this]
      · simp only [if_neg hij]; exact h2i
    · exact stamped_modify h3 _ _ (fun _ _ => rfl) (fun e' _ he' => by rw [he] at he'; cases he'; exact hek.symm)

theorem MapR.delete (KB : KeyB P kt ek) (h : MapR ek w b M) {t e : TypeId} (ht : P.underlying t = some (.map kt e)) (u : TypeId) (k : K) :
    ∃ w', (∀ ty, (Builtin.delete_ #[t, u] ty #[.map (some b), ek k]).run P w = .ok (.tuple #[]) w') ∧ MapR ek w' b (delM M k) ∧ Fr [b] w w' := by
  have hn := h.keys KB
  obtain ⟨es, c, h1, h2, h3⟩ := h
  rcases find_M KB k h2 w with ⟨f, hne⟩ | ⟨j, e, v0, f, he, hek, hev, hm⟩
  · refine ⟨setBlk w b (.map es c), ?_, ⟨_, _, setBlk_same h1, ?_, h3⟩, setBlk_fr h1⟩
    · intro ty; simp [Builtin.delete_, run_underlying ht, Go.MapKept.run_getObj_map h1, KB.chk, f, Result.andThen, run_setObj_map _ h1, setBlk]
    · rw [h2]
      congr 1
      unfold delM
      rw [List.filter_eq_self.2]
      intro p hp
      have : p.1 ≠ k := fun hh => hne (by rw [← hh]; exact List.mem_map.2 ⟨p, hp, rfl⟩)
      simp [this]
  · refine ⟨setBlk w b (.map (es.eraseIdxIfInBounds j) c), ?_, ⟨_, _, setBlk_same h1, ?_, stamped_erase h3 j⟩, setBlk_fr h1⟩
    · intro ty; simp [Builtin.delete_, run_underlying ht, Go.MapKept.run_getObj_map h1, KB.chk, f, Result.andThen, run_setObj_map _ h1, setBlk]
    · have hjs : j < es.size := (Array.getElem?_eq_some_iff.1 he).1
      have e1 : (es.eraseIdxIfInBounds j).toList = es.toList.eraseIdx j := by
        unfold Array.eraseIdxIfInBounds; rw [dif_pos hjs]; simp
      have e2 : delM M k = M.eraseIdx j := by
        unfold delM
        have hjl := (List.getElem?_eq_some_iff.1 hm).1
        rw [List.eraseIdx_eq_take_drop_succ]
        conv => lhs; rw [← List.take_append_drop j M, List.drop_eq_getElem_cons hjl]
        rw [List.filter_append, List.filter_cons]
        have hjk : M[j] = (k, v0) := by have := (List.getElem?_eq_some_iff.1 hm).2; exact this
        rw [hjk]
        simp only [decide_true, Bool.not_true, Bool.false_eq_true, if_false]
        rw [List.filter_eq_self.2, List.filter_eq_self.2]
        · intro p hp
          obtain ⟨i, hi⟩ := List.mem_iff_getElem?.1 hp
          rw [List.getElem?_drop] at hi
          have : p.1 ≠ k := fun hh => by have := nodup_at hn hm hi (by simp [hh]); omega
          simp [this]
        · intro p hp
          obtain ⟨i, hi⟩ := List.mem_iff_getElem?.1 hp
          rw [List.getElem?_take] at hi
          split at hi
          · have : p.1 ≠ k := fun hh => by have := nodup_at hn hm hi (by simp [hh]); omega
            simp [this]
          · cases hi
      rw [e1, e2, List.eraseIdx_eq_take_drop_succ, List.eraseIdx_eq_take_drop_succ, List.map_append, List.map_append, List.map_take, List.map_drop, List.map_take, List.map_drop, h2]

end
theorem MapR.len {K : Type} {ek : K → Value} {P : Program} {w : World} {b : Nat} {M : List (K × Value)} (h : MapR ek w b M) {t ke e ty : TypeId} (ht : P.underlying t = some (.map ke e)) : (Builtin.len_ #[t] ty #[.map (some b)]).run P w = .ok (.int .i64 M.length) w := by
  obtain ⟨es, c, h1, h2, h3⟩ := h
  have : es.size = M.length := by have := congrArg List.length h2; simpa using this
  simp [Builtin.len_, run_underlying ht, Go.MapKept.run_getObj_map h1, Result.andThen, this, goInt]
end Go.Proofs.Ytgnabgoenemccaa.B0
