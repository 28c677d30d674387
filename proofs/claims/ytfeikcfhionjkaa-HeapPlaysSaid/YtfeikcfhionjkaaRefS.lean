/- How a slice of plain elements stays while other blocks are written; the document's queue over a slice that reads as the sorted list. -/
import Derived.Test.YtfeikcfhionjkaaRef12
set_option linter.unusedVariables false
set_option linter.unusedSimpArgs false
namespace Go.Proofs.Ytfeikcfhionjkaa.B0
open Go.RowKit Go.Proofs.YtfeikcfhionjkaaW.PrintWords
/-- a kind that looks at no memory. -/
def Flat {α : Type} (d : Kd α) : Prop := ∀ (w w' : World) (x : α) (cs : List Value), d.K w x cs → d.K w' x cs
theorem Flat.int (k : IntKind) : Flat (Kd.int k) := fun _ _ _ _ h => h
theorem Flat.bool : Flat Kd.bool := fun _ _ _ _ h => h
theorem Flat.string : Flat Kd.string := fun _ _ _ _ h => h
theorem Flat.pair {α β : Type} {a : Kd α} {b : Kd β} (ha : Flat a) (hb : Flat b) : Flat (Kd.pair a b) := by
  rintro w w' x cs ⟨c0, c1, rfl, h0, h1⟩
  exact ⟨c0, c1, rfl, ha w w' _ _ h0, hb w w' _ _ h1⟩
theorem Flat.iso {α β : Type} {d : Kd α} (f : β → α) (h : Flat d) : Flat (Kd.iso d f) := fun w w' x cs hk => h w w' (f x) cs hk
theorem C_fr {α : Type} {d : Kd α} (hd : Flat d) {w w' : World} {F : List Nat} {A : Option Addr} {n : Nat} {xs : List α} (h : Kd.C d w A n xs) (hf : Fr F w w') (hA : ∀ ad, A = some ad → ad.block ∉ F) : Kd.C d w' A n xs := by
  refine ⟨h.1, h.2.1, fun hn => ?_⟩
  obtain ⟨ad, e, hc⟩ := h.2.2 hn
  refine ⟨ad, e, fun j p hj => ?_⟩
  obtain ⟨c, h1, h2, h3⟩ := hc j p hj
  refine ⟨c, h1, hd w w' p c h2, fun i u hu => ?_⟩
  have h4 := h3 i u hu
  have hb : (ad.add (j * d.sz + i)).block = ad.block := by unfold Addr.add; split <;> rfl
  have hlt := World.block_lt_of_cell? w _ h4
  rw [hb] at hlt
  have h5 := hf.block ad.block hlt (hA ad e)
  rw [← h4]
  exact World.cell?_of_block (w := w) (by rw [hb]; exact h5)
/-- a row that was made lies at its block's head. -/
theorem Below_drewN {B : Nat} {a b : World} (h : Below B a b) (n : Nat) : Below B a (b.drewN n) := ⟨h.os, h.tape, h.output, h.size, h.block⟩
theorem R_at {α : Type} {d : Kd α} {e : Nat} {w : World} {base : Nat} {ok : Nat → Prop} {v : Value} {xs : List α} (h : Kd.R d e w base ok v xs) : ∃ A c, v = .slice A xs.length c ∧ xs.length ≤ c ∧ Kd.C d w A xs.length xs ∧ ∀ ad, A = some ad → ∃ g, ad = ⟨g, 0, none⟩ ∧ base ≤ g ∧ g < w.heap.size := by
  obtain ⟨A, c, hv, hl, hC⟩ := Kd.R_reads h
  refine ⟨A, c, hv, hl, hC, fun ad e => ?_⟩
  obtain ⟨inner, ho⟩ := Kd.R_own h
  subst hv e
  rcases ho.2 with ⟨hh, _⟩ | ⟨g, cap, cur, hh, hb, hg, _⟩
  · cases hh
  · simp only [Value.slice.injEq] at hh
    exact ⟨g, by simpa using hh.1, hb, lt_of_get hg⟩
end Go.Proofs.Ytfeikcfhionjkaa.B0
namespace Go.Proofs.Ytfeikcfhionjkaa.Pk
open Go.RowKit Go.Proofs.Ytfeikcfhionjkaa.B0 Go.Proofs.Ytfeikcfhionjkaa.Hp Go.Proofs.YtfeikcfhionjkaaW.PrintWords

theorem flatI : Flat k41 := Flat.iso _ (Flat.pair (Flat.int _) (Flat.int _))

/-- a slice that reads as the sorted list. -/
def SL (w : World) (A : Option Addr) (c : Nat) (S : List (Int × Int)) : Prop := Kd.C k41 w A S.length (S.map cv) ∧ S.length ≤ c
theorem SL.below {w w' : World} {A : Option Addr} {c : Nat} {S : List (Int × Int)} (h : SL w A c S) (hb : Below w.heap.size w w') : SL w' A c S := ⟨Kd.C_below h.1 hb, h.2⟩
theorem SL.fr {w w' : World} {F : List Nat} {A : Option Addr} {c : Nat} {S : List (Int × Int)} (h : SL w A c S) (hf : Fr F w w') (hA : ∀ ad, A = some ad → ad.block ∉ F) : SL w' A c S := ⟨C_fr flatI h.1 hf hA, h.2⟩
theorem SL.len {w : World} {A : Option Addr} {c : Nat} {S : List (Int × Int)} (h : SL w A c S) : Kd.C k41 w A (S.map cv).length (S.map cv) := by rw [List.length_map]; exact h.1

theorem Put_r (w : World) (A : Option Addr) (c : Nat) (S : List (Int × Int)) (id t : Int) (hC : SL w A c S) (hS : S.length < 1000000) :
    Calls Try.prog 25 #[.slice A S.length c, .agg #[.int .u64 id, .int .u64 t]] w fun e w' => ∃ A' c', e = .returned (.slice A' (putS S id t).length c') ∧ SL w' A' c' (putS S id t) ∧ (∀ ad, A' = some ad → ∃ g, ad = ⟨g, 0, none⟩ ∧ w.heap.size ≤ g ∧ g < w'.heap.size) ∧ Below w.heap.size w w' := by
  have h := tallyroomref12_Put.calls (S.length + 1) A c (S.map cv) id t _ w hC.len (by rw [List.length_map]; exact hC.2) (put_f S id t hS _ (by omega))
  rw [List.length_map] at h
  refine h.mono ?_
  rintro e w' ⟨v, rfl, hR, hB⟩
  obtain ⟨A', c', rfl, h1, h2, h3⟩ := R_at hR
  rw [List.length_map] at h1 h2
  exact ⟨A', c', by rw [List.length_map], ⟨h2, h1⟩, h3, hB⟩
theorem Drop_r (w : World) (A : Option Addr) (c : Nat) (S : List (Int × Int)) (id : Int) (hC : SL w A c S) (hS : S.length < 1000000) :
    Calls Try.prog 26 #[.slice A S.length c, .int .u64 id] w fun e w' => ∃ A' c', e = .returned (.slice A' (delS S id).length c') ∧ SL w' A' c' (delS S id) ∧ (∀ ad, A' = some ad → ∃ g, ad = ⟨g, 0, none⟩ ∧ w.heap.size ≤ g ∧ g < w'.heap.size) ∧ Below w.heap.size w w' := by
  have h := tallyroomref12_Drop.calls (S.length + 1) A c (S.map cv) id _ w hC.len (by rw [List.length_map]; exact hC.2) (drop_f S id hS _ (by omega))
  rw [List.length_map] at h
  refine h.mono ?_
  rintro e w' ⟨v, rfl, hR, hB⟩
  obtain ⟨A', c', rfl, h1, h2, h3⟩ := R_at hR
  rw [List.length_map] at h1 h2
  exact ⟨A', c', by rw [List.length_map], ⟨h2, h1⟩, h3, hB⟩
theorem Find_r (w : World) (A : Option Addr) (c : Nat) (S : List (Int × Int)) (id : Int) (hC : SL w A c S) (hS : S.length < 1000000) :
    Calls Try.prog 22 #[.slice A S.length c, .int .u64 id] w fun e w' => e = .returned (.int .i64 (findS S id)) ∧ ∃ n, w' = w.drewN n := by
  have h := tallyroomref12_Find.calls (S.length + 1) A c (S.map cv) id _ w hC.len (by rw [List.length_map]; exact hC.2) (find_f S id hS _ (by omega))
  rw [List.length_map] at h
  refine h.mono ?_
  rintro e w' ⟨rfl, hd⟩
  exact ⟨rfl, hd.out⟩

theorem SL.head {w : World} {A : Option Addr} {c : Nat} {x : Int × Int} {R : List (Int × Int)} (h : SL w A c (x :: R)) : ∃ ad, A = some ad ∧ w.cell? ad = some (.int .u64 x.1) ∧ w.cell? ⟨ad.block, ad.off + 1, none⟩ = some (.int .u64 x.2) := by
  obtain ⟨ad, rfl, x0, x1⟩ := at_T41 (xs := (x :: R).map cv) (n := (x :: R).length) h.1 0 (by omega) (by simp)
  have hrd : rd_T41 ((x :: R).map cv) 0 = cv x := rfl
  rw [hrd] at x0 x1
  exact ⟨ad, rfl, x0, x1⟩
theorem SL.tail {w : World} {g o c : Nat} {x : Int × Int} {R : List (Int × Int)} (h : SL w (some ⟨g, o, none⟩) c (x :: R)) : SL w (some ⟨g, o + 2, none⟩) (c - 1) R := by
  refine ⟨⟨by simp, ?_, fun hn => ⟨_, rfl, fun j p hj => ?_⟩⟩, ?_⟩
  · have := h.1.2.1; simp at this; omega
  · obtain ⟨ad, e, hc⟩ := h.1.2.2 (by simp)
    cases e
    obtain ⟨c0, h1, h2, h3⟩ := hc (j + 1) p (by simpa using hj)
    refine ⟨c0, h1, h2, fun i u hu => ?_⟩
    have := h3 i u hu
    rw [← this]
    congr 1
    have e2 : (k41).sz = 2 := rfl
    rw [e2, show (j + 1) * 2 + i = 2 + (j * 2 + i) from by omega]
    exact Go.Proofs.Ytfeikcfhionjkaa.B0.add_add ⟨g, o, none⟩ 2 (j * 2 + i)
  · have := h.2; simp at this; omega

end Go.Proofs.Ytfeikcfhionjkaa.Pk
