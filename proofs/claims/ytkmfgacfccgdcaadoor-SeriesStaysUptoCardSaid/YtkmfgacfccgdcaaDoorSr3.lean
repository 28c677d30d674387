/- series' table: New, Len, Of. -/
import Derived.Test.YtkmfgacfccgdcaaDoorSr2
import Derived.WalkLawsBesides
import Derived.Test.YtkmfgacfccgdcaaDoorWTab
import Derived.Test.YtkmfgacfccgdcaaDoorWLast
set_option linter.unusedVariables false
set_option linter.unusedSimpArgs false
namespace Go.Proofs.YtkmfgacfccgdcaaDoor.Sr
open Go.RowKit Go.Proofs.YtkmfgacfccgdcaaDoor.B0 Go.Proofs.YtkmfgacfccgdcaaDoor.Ps Go.Proofs.YtkmfgacfccgdcaaDoorW.PrintWords Go.Proofs.YtkmfgacfccgdcaaDoorW.PrintLast Go.Proofs.YtkmfgacfccgdcaaDoor.Bld

def keyB (xs : List ByteArray) : ByteArray := ⟨(keyL xs).toArray⟩
theorem keyB_inj {xs ys : List ByteArray} (h : keyB xs = keyB ys) : xs = ys := by
  apply keyL_inj
  have := congrArg (fun s : ByteArray => s.data.toList) h
  simpa [keyB] using this
def keysAt (k : Nat) (L : List (List ByteArray)) : List (ByteArray × Value) := (L.zipIdx k).map fun p => (keyB p.1, .int .i64 ((p.2 : Int) + 1))
theorem keysAt_mem (L : List (List ByteArray)) : ∀ k xs, keyB xs ∈ (keysAt k L).map Prod.fst ↔ xs ∈ L := by
  induction L with
  | nil => intro k xs; simp [keysAt]
  | cons x L ih =>
    intro k xs
    have := ih (k + 1) xs
    simp only [keysAt, List.zipIdx_cons, List.map_cons, List.mem_cons] at this ⊢
    rw [this]
    constructor
    · rintro (h | h)
      · exact .inl (keyB_inj h)
      · exact .inr h
    · rintro (h | h)
      · exact .inl (by rw [h])
      · exact .inr h
/-- where a list of texts stands. -/
def posL : List (List ByteArray) → List ByteArray → Option Nat
  | [], _ => none
  | x :: L, xs => if xs = x then some 0 else (posL L xs).map (· + 1)
theorem posL_none {L : List (List ByteArray)} {xs : List ByteArray} : posL L xs = none ↔ xs ∉ L := by
  induction L with
  | nil => simp [posL]
  | cons x L ih =>
    simp only [posL]
    split
    · rename_i h; simp [h]
    · rename_i h; simp [ih, h]
theorem posL_some {L : List (List ByteArray)} {xs : List ByteArray} {i : Nat} (h : posL L xs = some i) : L[i]? = some xs := by
  induction L generalizing i with
  | nil => simp [posL] at h
  | cons x L ih =>
    simp only [posL] at h
    split at h
    · rename_i e; simp at h; subst h; simp [e]
    · rw [Option.map_eq_some_iff] at h
      obtain ⟨j, hj, rfl⟩ := h
      simpa using ih hj
theorem posL_app {L : List (List ByteArray)} {xs : List ByteArray} (h : posL L xs = none) (R : List (List ByteArray)) : posL (L ++ R) xs = (posL R xs).map (· + L.length) := by
  induction L with
  | nil => cases hR : posL R xs <;> simp [hR]
  | cons x L ih =>
    simp only [posL] at h
    split at h
    · cases h
    · rename_i e
      rw [Option.map_eq_none_iff] at h
      simp only [List.cons_append, posL]
      rw [if_neg e, ih h]
      cases posL R xs with
      | none => rfl
      | some j => simp; omega
theorem posL_app_some {L : List (List ByteArray)} {xs : List ByteArray} {i : Nat} (h : posL L xs = some i) (R : List (List ByteArray)) : posL (L ++ R) xs = some i := by
  induction L generalizing i with
  | nil => simp [posL] at h
  | cons x L ih =>
    simp only [posL, List.cons_append] at h ⊢
    split at h
    · rename_i e; rw [if_pos e]; exact h
    · rename_i e
      rw [if_neg e]
      rw [Option.map_eq_some_iff] at h ⊢
      obtain ⟨j, hj, rfl⟩ := h
      exact ⟨j, ih hj, rfl⟩
def lookB (M : List (ByteArray × Value)) (k : ByteArray) : Option Value := @List.lookup _ _ instBEqOfDecidableEq k M
theorem keysAt_lookup (L : List (List ByteArray)) : ∀ k xs, lookB (keysAt k L) (keyB xs) = (posL L xs).map fun i => Value.int .i64 (((k + i : Nat) : Int) + 1) := by
  induction L with
  | nil => intro k xs; simp [keysAt, lookB, posL]
  | cons x L ih =>
    intro k xs
    have h1 := ih (k + 1) xs
    unfold lookB at h1 ⊢
    simp only [keysAt, List.zipIdx_cons, List.map_cons, List.lookup, posL] at h1 ⊢
    by_cases e : xs = x
    · subst e
      simp
    · have hb : (@BEq.beq _ instBEqOfDecidableEq (keyB xs) (keyB x)) = false := (@beq_eq_false_iff_ne ByteArray instBEqOfDecidableEq _ _ _).2 (fun h => e (keyB_inj h))
      rw [hb, if_neg e]
      simp only [h1]
      cases posL L xs with
      | none => rfl
      | some j =>
        simp only [Option.map_some, Option.some.injEq]
        congr 2; omega
def ofN (most : Int) (L : List (List ByteArray)) (xs : List ByteArray) : Int := match posL L xs with | some i => (i : Int) + 1 | none => if most ≤ L.length then 0 else L.length + 1
def ofL (most : Int) (L : List (List ByteArray)) (xs : List ByteArray) : List (List ByteArray) := match posL L xs with | some _ => L | none => if most ≤ L.length then L else L ++ [xs]

def ekS (s : ByteArray) : Value := .string s
theorem KBs : KeyB Tryd.prog 9 ekS := KeyB.str Tryd.underlying9

def RowAt (w : World) (v : Value) (xs : List ByteArray) (rs : List Nat) : Prop := ∃ A c, v = .slice A xs.length c ∧ xs.length ≤ c ∧ RS w A xs.length xs ∧ ∀ ad, A = some ad → 0 < xs.length → ad.block ∈ rs
theorem RowAt.fr {w w' : World} {v : Value} {xs : List ByteArray} {rs F : List Nat} (h : RowAt w v xs rs) (hf : Fr F w w') (hd : ∀ k, k ∈ rs → k ∉ F) : RowAt w' v xs rs := by
  obtain ⟨A, c, h1, h2, h3, h4⟩ := h
  exact ⟨A, c, h1, h2, h3.fr hf (fun ad e h0 => hd _ (h4 ad e h0)), h4⟩
theorem RowAt.mono {w : World} {v : Value} {xs : List ByteArray} {rs rs' : List Nat} (h : RowAt w v xs rs) (hd : ∀ k, k ∈ rs → k ∈ rs') : RowAt w v xs rs' := by
  obtain ⟨A, c, h1, h2, h3, h4⟩ := h
  exact ⟨A, c, h1, h2, h3, fun ad e h0 => hd _ (h4 ad e h0)⟩

structure TB (w : World) (t : Nat) (most : Int) (L : List (List ByteArray)) (lv : Value) (mb : Nat) (vals : List Value) (rs : List Nat) : Prop where
  blk : w.heap[t]? = some (.cells #[.int .i64 most, lv, .map (some mb)] 45 (0, 0))
  own : w.ownsRow 0 29 1 lv L.length vals
  map : MapR ekS w mb (keysAt 0 L)
  rows : ∀ i (h : i < L.length), ∃ v, vals[i]? = some v ∧ RowAt w v L[i] rs
  tr : t ∉ rs
  mr : mb ∉ rs
  tm : t ≠ mb
  gr : ∀ g, lv.ownBlock = some g → g ∉ rs ∧ g ≠ t ∧ g ≠ mb
  rl : ∀ k, k ∈ rs → k < w.heap.size
  nd : L.Nodup
def fpT (t mb : Nat) (lv : Value) (rs : List Nat) : List Nat := t :: mb :: (lv.ownBlock.toList ++ rs)
def TA (w : World) (t : Nat) (most : Int) (L : List (List ByteArray)) (fp : List Nat) : Prop := ∃ lv mb vals rs, TB w t most L lv mb vals rs ∧ fp = fpT t mb lv rs

theorem own_fr {w w' : World} {base : Nat} {e : TypeId} {size n : Nat} {v : Value} {xs : List Value} {F : List Nat} (h : w.ownsRow base e size v n xs) (hf : Fr F w w') (hd : ∀ g, v.ownBlock = some g → g ∉ F) : w'.ownsRow base e size v n xs := by
  refine ⟨h.1, ?_⟩
  rcases h.2 with hn | ⟨g, cap, cur, rfl, hb, hgg, rest⟩
  · exact .inl hn
  · exact .inr ⟨g, cap, cur, rfl, hb, hf.get hgg (hd g rfl), rest⟩
theorem TB.fr {w w' : World} {t : Nat} {most : Int} {L : List (List ByteArray)} {lv : Value} {mb : Nat} {vals : List Value} {rs F : List Nat} (h : TB w t most L lv mb vals rs) (hf : Fr F w w') (hd : ∀ k, k ∈ fpT t mb lv rs → k ∉ F) : TB w' t most L lv mb vals rs where
  blk := hf.get h.blk (hd _ (by simp [fpT]))
  own := own_fr h.own hf (fun g e => hd _ (by simp [fpT, e]))
  map := h.map.fr hf (hd _ (by simp [fpT]))
  rows := fun i hi => by
    obtain ⟨v, h1, h2⟩ := h.rows i hi
    exact ⟨v, h1, h2.fr hf (fun k hk => hd _ (by simp [fpT, hk]))⟩
  tr := h.tr
  mr := h.mr
  tm := h.tm
  gr := h.gr
  rl := fun k hk => Nat.lt_of_lt_of_le (h.rl k hk) hf.size
  nd := h.nd
theorem TA.fr {w w' : World} {t : Nat} {most : Int} {L : List (List ByteArray)} {fp F : List Nat} (h : TA w t most L fp) (hf : Fr F w w') (hd : ∀ k, k ∈ fp → k ∉ F) : TA w' t most L fp := by
  obtain ⟨lv, mb, vals, rs, h1, rfl⟩ := h
  exact ⟨lv, mb, vals, rs, h1.fr hf hd, rfl⟩
theorem TA.lt {w : World} {t : Nat} {most : Int} {L : List (List ByteArray)} {fp : List Nat} (h : TA w t most L fp) : ∀ k, k ∈ fp → k < w.heap.size := by
  obtain ⟨lv, mb, vals, rs, h1, rfl⟩ := h
  intro k hk
  simp only [fpT, List.mem_cons, List.mem_append, Option.mem_toList] at hk
  rcases hk with rfl | rfl | hk | hk
  · exact lt_of_get h1.blk
  · exact h1.map.lt
  · exact (World.ownsRow.lt h1.own k hk).2
  · exact h1.rl k hk

set_option maxHeartbeats 1000000 in
theorem New_c (most : Int) (w : World) (h0 : 1 ≤ most) (h1 : most ≤ 65536) : Calls Tryd.prog 7 #[.int .i64 most] w fun e w' => ∃ t fp, e = .returned (.tuple #[.pointer (some ⟨t, 0, none⟩), .int .i64 0]) ∧ TA w' t most [] fp ∧ Fr [] w w' ∧ (∀ k, k ∈ fp → w.heap.size ≤ k) := by
  have hmm := @run_makeMap Tryd.prog
  go_enter Tryd.func7, Tryd.ntmps7
  go_wp2_with fail
  go_ret2
  refine ⟨w.heap.size + 1, [w.heap.size + 1, w.heap.size], by simp, ⟨.slice none 0 0, w.heap.size, [], [], ?_, by simp [fpT, Value.ownBlock]⟩, ((Fr.refl [] w).alloc _).alloc _, by simp⟩
  have e1 := allocN (w.alloc (.map #[] 0)) (.cells #[.int .i64 most, .slice none 0 0, .map (some w.heap.size)] 45)
  rw [size_alloc] at e1
  exact {
    blk := e1
    own := World.ownsRow_nil _ _ _ _
    map := (MapR.made w).fr ((Fr.refl [] _).alloc _) (by simp)
    rows := fun i hi => by simp at hi
    tr := by simp
    mr := by simp
    tm := by omega
    gr := fun g e => by simp [Value.ownBlock] at e
    rl := by simp
    nd := List.nodup_nil }
theorem New_no (most : Int) (w : World) (h : most < 1 ∨ 65536 < most) : Calls Tryd.prog 7 #[.int .i64 most] w fun e w' => e = .returned (.tuple #[.pointer none, .int .i64 1]) ∧ w = w' := by
  by_cases h0 : most < 1
  · clear h
    go_enter Tryd.func7, Tryd.ntmps7
    go_wp2_with fail
    go_ret2
    exact ⟨rfl, rfl⟩
  · have h1 : 65536 < most := by omega
    clear h
    go_enter Tryd.func7, Tryd.ntmps7
    go_wp2_with fail
    go_ret2
    exact ⟨rfl, rfl⟩
theorem own_form {w : World} {base : Nat} {e : TypeId} {n : Nat} {v : Value} {xs : List Value} (h : w.ownsRow base e 1 v n xs) : ∃ A c, v = .slice A n c ∧ n ≤ c := by
  rcases h.2 with ⟨rfl, rfl⟩ | ⟨g, cap, cur, rfl, _, _, hc, _⟩
  · exact ⟨_, _, rfl, Nat.le_refl _⟩
  · exact ⟨_, _, rfl, hc⟩
set_option maxHeartbeats 1000000 in
theorem Len_q {w : World} {t : Nat} {most : Int} {L : List (List ByteArray)} {fp : List Nat} (h : TA w t most L fp) : Calls Tryd.prog 11 #[.pointer (some ⟨t, 0, none⟩)] w fun e w' => e = .returned (.int .i64 L.length) ∧ w = w' := by
  obtain ⟨lv, mb, vals, rs, h1, rfl⟩ := h
  obtain ⟨A, c, rfl, hc⟩ := own_form h1.own
  have c1 : w.cell? ⟨t, 1, none⟩ = some (.slice A L.length c) := cellB h1.blk 1
  clear h1
  go_enter Tryd.func11, Tryd.ntmps11
  go_wp2_with fail
  go_ret
  exact ⟨rfl, rfl⟩
end Go.Proofs.YtkmfgacfccgdcaaDoor.Sr
