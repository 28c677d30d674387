/- expo: the lines' row while its lines share label rows. -/
import Derived.Test.YtdbmcikoiilanaaDoorXp13
set_option linter.unusedVariables false
set_option linter.unusedSimpArgs false
namespace Go.Proofs.YtdbmcikoiilanaaDoor.Xp
open Go.RowKit Go.Proofs.YtdbmcikoiilanaaDoor.B0 Go.Proofs.YtdbmcikoiilanaaDoorW.PrintWords Go.Proofs.YtdbmcikoiilanaaDoor.Bld Go.Proofs.YtdbmcikoiilanaaDoor.Pp

/-- labels at A, in a block of labels. -/
def LabAt (w : World) (A : Option Addr) (ls : List SLab) : Prop := Kd.C k71 w A ls.length ls ∧ ∀ ad, A = some ad → ∃ cs, w.heap[ad.block]? = some (.cells cs 71 (0, 0))
/-- blocks of labels stay. -/
def KL (w w' : World) : Prop := ∀ (k : Nat) (cs : Array Value), w.heap[k]? = some (Obj.cells cs 71 (0, 0)) → w'.heap[k]? = some (Obj.cells cs 71 (0, 0))
theorem KL.refl (w : World) : KL w w := fun _ _ h => h
theorem KL.trans {a b c : World} (h : KL a b) (h' : KL b c) : KL a c := fun k cs hk => h' k cs (h k cs hk)
theorem KL.below {w w' : World} (h : Below w.heap.size w w') : KL w w' := fun k cs hk => (h.block k (lt_of_get hk)).trans hk
theorem KL.set {w : World} {b o : Nat} {v : Value} {cs : Array Value} {T : TypeId} (hb : w.heap[b]? = some (.cells cs T (0, 0))) (hT : T ≠ 71) : KL w (w.setCell ⟨b, o, none⟩ v) := fun k cs' hk => by
  refine (setO w ⟨b, o, none⟩ v ?_).trans hk
  rintro rfl
  rw [hb] at hk
  exact hT (Obj.cells.inj (Option.some.inj hk)).2.1
theorem KL.grown {w w' : World} {v : Value} {α : Type} {d : Kd α} {T base : Nat} {ok : Nat → Prop} {xs : List α} (h : d.R T w base ok v xs) (hT : T ≠ 71) (hg : w.grownBy w' v.ownBlock) : KL w w' := fun k cs hk => by
  refine (hg.block k (lt_of_get hk) (fun e => ?_)).trans hk
  obtain ⟨cells, hc⟩ := Kd.R_typed h k e.symm
  rw [hk] at hc
  exact hT (Obj.cells.inj (Option.some.inj hc)).2.1.symm
theorem LabAt.keep {w w' : World} {A : Option Addr} {ls : List SLab} (h : LabAt w A ls) (hk : KL w w') : LabAt w' A ls := by
  refine ⟨⟨h.1.1, h.1.2.1, fun hn => ?_⟩, fun ad e => ?_⟩
  · obtain ⟨ad, e, hc⟩ := h.1.2.2 hn
    obtain ⟨cs, hb⟩ := h.2 ad e
    refine ⟨ad, e, fun j p hj => ?_⟩
    obtain ⟨c, h1, h2, h3⟩ := hc j p hj
    refine ⟨c, h1, h2, fun i u hu => ?_⟩
    have h4 := h3 i u hu
    have hbl : ∀ m, (ad.add m).block = ad.block := fun m => by unfold Addr.add; split <;> rfl
    rw [← h4]
    exact World.cell?_of_block (by rw [hbl, hk _ _ hb, hb])
  · obtain ⟨cs, hb⟩ := h.2 ad e
    exact ⟨cs, hk _ _ hb⟩
theorem LabAt.of_R {w : World} {base : Nat} {v : Value} {ls : List SLab} (h : Kd.R k71 71 w base (fun _ => True) v ls) : ∃ A c, v = .slice A ls.length c ∧ ls.length ≤ c ∧ (A = none → c = 0) ∧ LabAt w A ls := by
  obtain ⟨A, c, rfl, hc, hC⟩ := Kd.R_reads h
  refine ⟨A, c, rfl, hc, fun e => ?_, hC, fun ad e => ?_⟩
  · subst e
    obtain ⟨inner, ho⟩ := Kd.R_own h
    rcases ho.2 with ⟨e, _⟩ | ⟨g, cap, cur, e, _⟩
    · exact (Value.slice.inj e).2.2
    · cases e
  subst e
  obtain ⟨g, rfl⟩ := Kd.R_head h
  obtain ⟨cells, hh⟩ := Kd.R_typed h g (by simp [Value.ownBlock])
  exact ⟨cells, hh⟩
/-- a line's cells. -/
def LRow (w : World) (x : SLin) (r : List Value) : Prop := ∃ A c, r = [.string x.f0, .slice A x.f1.length c, .int .u64 x.f2] ∧ x.f1.length ≤ c ∧ (A = none → c = 0) ∧ LabAt w A x.f1
theorem LRow.keep {w w' : World} {x : SLin} {r : List Value} (h : LRow w x r) (hk : KL w w') : LRow w' x r := by
  obtain ⟨A, c, h1, h2, h3, h4⟩ := h
  exact ⟨A, c, h1, h2, h3, h4.keep hk⟩
def LRows (w : World) (xs : List SLin) (rows : List (List Value)) : Prop := rows.length = xs.length ∧ ∀ (i : Nat) (x : SLin), xs[i]? = some x → ∃ r, rows[i]? = some r ∧ LRow w x r
theorem LRows.keep {w w' : World} {xs : List SLin} {rows : List (List Value)} (h : LRows w xs rows) (hk : KL w w') : LRows w' xs rows :=
  ⟨h.1, fun i x hx => by obtain ⟨r, h1, h2⟩ := h.2 i x hx; exact ⟨r, h1, h2.keep hk⟩⟩
theorem LRows.append {w : World} {xs ys : List SLin} {rows rs : List (List Value)} (h : LRows w xs rows) (h' : LRows w ys rs) : LRows w (xs ++ ys) (rows ++ rs) := by
  refine ⟨by rw [List.length_append, List.length_append, h.1, h'.1], fun i x hx => ?_⟩
  rcases Nat.lt_or_ge i xs.length with hl | hg
  · rw [List.getElem?_append_left hl] at hx
    rw [List.getElem?_append_left (by rw [h.1]; exact hl)]
    exact h.2 i x hx
  · rw [List.getElem?_append_right hg] at hx
    rw [List.getElem?_append_right (by rw [h.1]; exact hg), h.1]
    exact h'.2 _ x hx
/-- the lines' row. -/
def LW (w : World) (base : Nat) (v : Value) (xs : List SLin) : Prop := ∃ rows, (Kd.raw 3).R 43 w base (fun _ => True) v rows ∧ LRows w xs rows
theorem LW.below {w w' : World} {base : Nat} {v : Value} {xs : List SLin} (h : LW w base v xs) (hb : Below w.heap.size w w') : LW w' base v xs := by
  obtain ⟨rows, h1, h2⟩ := h
  exact ⟨rows, Kd.R_below h1 hb, h2.keep (KL.below hb)⟩
theorem LW.lower {w : World} {base b : Nat} {v : Value} {xs : List SLin} (h : LW w base v xs) (hb : b ≤ base) : LW w b v xs := by
  obtain ⟨rows, h1, h2⟩ := h
  exact ⟨rows, Kd.R_lower h1 hb, h2⟩
theorem LW.reads {w : World} {base : Nat} {v : Value} {xs : List SLin} (h : LW w base v xs) : ∃ A c, v = .slice A xs.length c ∧ xs.length ≤ c ∧ Kd.C k43 w A xs.length xs := by
  obtain ⟨rows, h1, h2⟩ := h
  obtain ⟨A, c, rfl, hc, hC⟩ := Kd.R_reads h1
  have hlen := h2.1
  refine ⟨A, c, by rw [hlen], by rw [← hlen]; exact hc, rfl, by rw [← hlen]; exact hC.2.1, fun hn => ?_⟩
  obtain ⟨ad, e, hcells⟩ := hC.2.2 (by rw [hlen]; exact hn)
  refine ⟨ad, e, fun j x hx => ?_⟩
  obtain ⟨r, hr, A1, c1, rfl, hc1, _, hl⟩ := h2.2 j x hx
  obtain ⟨cs, hcl, ⟨rfl, _, _⟩, hcell⟩ := hcells j _ hr
  exact ⟨_, hcl, k43_mk w x hc1 hl.1, hcell⟩
end Go.Proofs.YtdbmcikoiilanaaDoor.Xp
