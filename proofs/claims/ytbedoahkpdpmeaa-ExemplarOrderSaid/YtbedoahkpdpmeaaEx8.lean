/- Show.Put keeps the best ones, sorted. -/
import Derived.Test.YtbedoahkpdpmeaaEx7
import Derived.Outline
import Derived.StillTailTactics
set_option linter.unusedVariables false
set_option linter.unusedSimpArgs false
namespace Go.Proofs.Ytbedoahkpdpmeaa.Ex
open Go.RowKit Go.Proofs.Ytbedoahkpdpmeaa.B0 Go.Proofs.Ytbedoahkpdpmeaa.Pe Go.Proofs.YtbedoahkpdpmeaaW.PrintWords

theorem own_block {w w' : World} {base n size : Nat} {e : TypeId} {v : Value} {xs : List Value} (h : w.ownsRow base e size v n xs) (hb : ∀ k, v.ownBlock = some k → w'.heap[k]? = w.heap[k]?) : w'.ownsRow base e size v n xs := by
  refine ⟨h.1, ?_⟩
  rcases h.2 with h0 | ⟨g, cap, cur, rfl, hbg, hg, h1, h2, h3, h4⟩
  · exact .inl h0
  · exact .inr ⟨g, cap, cur, rfl, hbg, (hb g rfl).trans hg, h1, h2, h3, h4⟩
theorem own_fr {w w' : World} {base n size : Nat} {e : TypeId} {v : Value} {xs : List Value} {F : List Nat} (h : w.ownsRow base e size v n xs) (hF : Fr F w w') (hn : ∀ k, v.ownBlock = some k → k ∉ F) : w'.ownsRow base e size v n xs :=
  own_block h fun k hk => hF.block k (h.lt k hk).2 (hn k hk)
theorem own_cut {w : World} {base n size g cap m : Nat} {e : TypeId} {xs : List Value} (h : w.ownsRow base e size (.slice (some ⟨g, 0, none⟩) n cap) n xs) (hm : m ≤ n) : w.ownsRow base e size (.slice (some ⟨g, 0, none⟩) m cap) m (xs.take (m * size)) := by
  have hms : m * size ≤ n * size := Nat.mul_le_mul_right _ hm
  refine ⟨by rw [List.length_take, h.1]; omega, ?_⟩
  rcases h.2 with ⟨h0, _⟩ | ⟨g', cap', cur, he, hbg, hg, h1, h2, h3, h4⟩
  · cases h0
  · cases he
    exact .inr ⟨g, cap, cur, rfl, hbg, hg, by omega, h2, h3, by rw [← h4, List.take_take, Nat.min_eq_left hms]⟩

theorem flat_take (X : List One) (m : Nat) : (flat X).take (m * 4) = flat (X.take m) := by
  induction X generalizing m with
  | nil => simp [flat]
  | cons a l ih =>
    cases m with
    | zero => simp [flat]
    | succ m =>
      have e : flat (a :: l) = one4 a ++ flat l := rfl
      rw [e, List.take_succ_cons]
      show _ = one4 a ++ flat (l.take m)
      rw [List.take_append, List.take_of_length_le (by simp [one4]; omega), ← ih]
      congr 2
      simp [one4]; omega
theorem flat_drop (X : List One) (m : Nat) : (flat X).drop (m * 4) = flat (X.drop m) := by
  induction X generalizing m with
  | nil => simp [flat]
  | cons a l ih =>
    cases m with
    | zero => simp [flat]
    | succ m =>
      have e : flat (a :: l) = one4 a ++ flat l := rfl
      rw [e, List.drop_succ_cons, ← ih, List.drop_append, List.drop_of_length_le (by simp [one4]; omega)]
      simp [one4]; congr 1; omega
theorem flat_app (X Y : List One) : flat (X ++ Y) = flat X ++ flat Y := by simp [flat]
theorem flat_one1 (x : One) : flat [x] = one4 x := by simp [flat]

/-- x at its place. -/
def insX (X : List One) (x : One) : List One := X.take (cnt X x) ++ x :: X.drop (cnt X x)
/-- x put to the best ones. -/
def putX (m : Nat) (X : List One) (x : One) : List One := if fnd X x = true then X else (insX X x).take m
theorem flat_ins (X : List One) (x : One) : (flat X).take (cnt X x * 4) ++ one4 x ++ (flat X).drop (cnt X x * 4) = flat (insX X x) := by
  unfold insX
  rw [flat_app, show x :: X.drop (cnt X x) = [x] ++ X.drop (cnt X x) from rfl, flat_app, flat_take, flat_drop, flat_one1, List.append_assoc]
theorem insX_len (X : List One) (x : One) : (insX X x).length = X.length + 1 := by
  have := cnt_le X x
  unfold insX; simp only [List.length_append, List.length_take, List.length_cons, List.length_drop]; omega
theorem ordE_zero {x y : One} (h : ordE x y = 0) : x = y := by
  unfold ordE at h
  have orz : ∀ {a b : Int}, orE a b = 0 → a = 0 ∧ b = 0 := fun {a b} h => by unfold orE at h; split at h <;> simp_all
  obtain ⟨h1, h⟩ := orz h
  obtain ⟨h2, h⟩ := orz h
  obtain ⟨h3, h4⟩ := orz h
  have := fi_inj (cf_eq.1 h1); have := cf_eq.1 h2; have := cf_eq.1 h3; have := cf_eq.1 h4
  cases x; cases y; simp_all
theorem ordE_self (x : One) : ordE x x = 0 := by simp [ordE, orE, cf]
theorem fnd_mem {X : List One} {x : One} (hs : X.Pairwise lt4) : fnd X x = true ↔ x ∈ X := by
  constructor
  · intro h
    unfold fnd at h
    split at h
    · rename_i y hy
      have : y = x := ordE_zero (of_decide_eq_true h)
      subst this
      exact List.mem_of_getElem? hy
    · cases h
  · intro h
    obtain ⟨i, hi, he⟩ := List.getElem_of_mem h
    have hi' : X[i]? = some x := by rw [List.getElem?_eq_getElem hi, he]
    have h1 : ¬ i < cnt X x := fun hlt => by
      have := (cnt_iff hs hi').2 hlt
      rw [ordE_self] at this; omega
    by_cases hc : cnt X x < X.length
    · obtain ⟨y, hy⟩ : ∃ y, X[cnt X x]? = some y := ⟨_, List.getElem?_eq_getElem hc⟩
      have h2 : ¬ ordE y x < 0 := fun hh => by have := (cnt_iff hs hy).1 hh; omega
      by_cases hic : i = cnt X x
      · rw [← hic] at hy
        have : y = x := by rw [hi'] at hy; exact (Option.some.inj hy).symm
        unfold fnd
        rw [← hic, hi']
        simp [ordE_self]
      · have hlt : cnt X x < i := by omega
        have := List.pairwise_iff_getElem.1 hs (cnt X x) i hc hi hlt
        rw [he, (List.getElem?_eq_some_iff.1 hy).2] at this
        exact absurd ((ordE_lt y x).2 this) h2
    · omega
theorem insX_sorted {X : List One} {x : One} (hs : X.Pairwise lt4) (hf : fnd X x = false) : (insX X x).Pairwise lt4 := by
  unfold insX
  rw [List.pairwise_append, List.pairwise_cons]
  have hx : x ∉ X := fun h => by rw [(fnd_mem hs).2 h] at hf; cases hf
  have hlo : ∀ a ∈ X.take (cnt X x), lt4 a x := by
    intro a ha
    obtain ⟨i, hi, he⟩ := List.getElem_of_mem ha
    rw [List.getElem_take] at he
    rw [List.length_take] at hi
    exact (ordE_lt a x).1 ((cnt_iff hs (List.getElem?_eq_some_iff.2 ⟨by omega, he⟩)).2 (by omega))
  have hhi : ∀ b ∈ X.drop (cnt X x), lt4 x b := by
    intro b hb
    have hbX := List.mem_of_mem_drop hb
    obtain ⟨i, hi, he⟩ := List.getElem_of_mem hb
    rw [List.getElem_drop] at he
    rw [List.length_drop] at hi
    have : ¬ ordE b x < 0 := fun h => by
      have := (cnt_iff hs (List.getElem?_eq_some_iff.2 ⟨by omega, he⟩)).1 h
      omega
    rcases lt4_total (x := b) (y := x) (fun e => hx (e ▸ hbX)) with h | h
    · exact absurd ((ordE_lt b x).2 h) this
    · exact h
  refine ⟨hs.sublist (List.take_sublist _ _), ⟨hhi, hs.sublist (List.drop_sublist _ _)⟩, ?_⟩
  intro a ha b hb
  rcases List.mem_cons.1 hb with rfl | hb
  · exact hlo a ha
  · exact lt4_trans (hlo a ha) (hhi b hb)
theorem putX_sorted {X : List One} {m : Nat} {x : One} (hs : X.Pairwise lt4) : (putX m X x).Pairwise lt4 := by
  unfold putX
  split
  · exact hs
  · rename_i hf
    exact (insX_sorted hs (by simpa using hf)).sublist (List.take_sublist _ _)

def InsP (w w1 : World) (p : Nat) (v : Value) (X : List One) (x : One) (g cap : Nat) (w2 : World) : Prop :=
  w2.ownsRow 0 31 4 (.slice (some ⟨g, 0, none⟩) (X.length + 1) cap) (X.length + 1) (flat (insX X x)) ∧ Fr (p :: v.ownBlock.toList) w w2 ∧ (v.ownBlock = some g ∨ w.heap.size ≤ g) ∧ g ≠ p
theorem Insert_p {w w1 : World} {p : Nat} {most : Int} {X : List One} {v : Value} (h : KA w p most X v) (x : One) (hX : X.length < 1000) (hF : Fr [] w w1) :
    Calls Try.prog 19 #[v, .int .i64 (cnt X x), .slice (some ⟨w1.heap.size, 0, none⟩) 1 1] (w1.alloc (.cells #[.int .u64 x.f0, .int .u64 x.f1, .int .u64 x.f2, .bool x.f3] 31)).drew fun e w2 => ∃ g cap, e = .returned (.slice (some ⟨g, 0, none⟩) (X.length + 1) cap) ∧ X.length + 1 ≤ cap ∧ cap ≤ maxLen ∧
      w2.cell? ⟨p, 0, none⟩ = some (.int .i64 most) ∧ w2.cell? ⟨p, 1, none⟩ = some v ∧ w2.frozen? ⟨p, 1, none⟩ = false ∧ w2.heap[p]? = some (.cells #[.int .i64 most, v] 52 (0, 0)) ∧ Hid (InsP w w1 p v X x g cap w2) := by
  have hps := lt_of_get h.hp
  have hsz := hF.size
  refine (Insert_any _ v X.length (cnt X x) (flat X) (one4 x) w1.heap.size (own_fr h.own ((hF.alloc _).drewN 1) (by simp)) (cnt_le X x) hX (flat_one X) (allocN w1 _) rfl (one4_one x) (fun e => by have := (h.own.lt _ e).2; omega)).mono ?_
  rintro e w2 ⟨v', rfl, hO, hG, hv'⟩
  rw [flat_ins] at hO
  rcases hO.2 with ⟨_, h0⟩ | ⟨g, cap, cur, rfl, _, _, hnc, hcm, _⟩
  · omega
  have hpn : p ∉ v.ownBlock.toList := by
    intro hh
    cases hv : v.ownBlock with
    | none => simp [hv] at hh
    | some b => simp [hv] at hh; subst hh; exact h.ne hv
  have hp1 : w1.heap[p]? = some (.cells #[.int .i64 most, v] 52 (0, 0)) := hF.get h.hp (by simp)
  have hv2 : v.ownBlock = some g ∨ w.heap.size ≤ g := by
    rcases hv' g rfl with h | h
    · exact .inl h
    · right
      have h' : (w1.alloc (.cells #[.int .u64 x.f0, .int .u64 x.f1, .int .u64 x.f2, .bool x.f3] 31 (0, 0))).heap.size ≤ g := h
      rw [size_alloc] at h'
      omega
  have hp2 : w2.heap[p]? = some (.cells #[.int .i64 most, v] 52 (0, 0)) := hG.get ((allocO w1 _ (lt_of_get hp1)).trans hp1) hpn
  refine ⟨g, cap, rfl, hnc, hcm, cellB hp2 0, cellB hp2 1, frozenB hp2 1, hp2, hO, ?_, hv2, ?_⟩
  · exact (hF.mono (by simp)).trans' ((((Fr.refl v.ownBlock.toList w1).alloc _).drewN 1).trans hG) (by intro k hk; exact .inl (List.mem_cons_of_mem _ hk))
  · rintro rfl
    rcases hv2 with hh | hh
    · exact h.ne hh
    · omega

theorem put_close {w w1 w2 w3 : World} {p g cap : Nat} {most : Int} {X : List One} {v : Value} {x : One} (h : KA w p most X v) (hf : fnd X x = false) (hI : InsP w w1 p v X x g cap w2)
    (hw3 : w3 = w2.setCell ⟨p, 1, none⟩ (.slice (some ⟨g, 0, none⟩) (X.length + 1) cap)) (hp3 : w3.heap[p]? = some (.cells #[.int .i64 most, .slice (some ⟨g, 0, none⟩) (X.length + 1) cap] 52 (0, 0)))
    (m : Nat) (hm1 : m ≤ X.length + 1) (hm2 : (m : Int) ≤ most) (hm3 : (m : Int) = most ∨ m = X.length + 1) :
    ∃ v', KA ((w3.drew).setCell ⟨p, 1, none⟩ (.slice (some ⟨g, 0, none⟩) m cap)) p most (putX most.toNat X x) v' ∧ Fr (p :: v.ownBlock.toList) w ((w3.drew).setCell ⟨p, 1, none⟩ (.slice (some ⟨g, 0, none⟩) m cap)) ∧ (∀ k, v'.ownBlock = some k → v.ownBlock = some k ∨ w.heap.size ≤ k) := by
  obtain ⟨hO, hF, hv, hgp⟩ := hI
  have hlen := insX_len X x
  have hpx : putX most.toNat X x = (insX X x).take m := by
    unfold putX
    rw [if_neg (by rw [hf]; decide)]
    rcases hm3 with e | e
    · congr 1; omega
    · rw [List.take_of_length_le (by omega), List.take_of_length_le (by omega)]
  have hml : ((insX X x).take m).length = m := by rw [List.length_take]; omega
  have hF3 : Fr (p :: v.ownBlock.toList) w w3 := by rw [hw3]; exact hF.setCell (.inl (by simp)) _
  have hO3 : w3.ownsRow 0 31 4 (.slice (some ⟨g, 0, none⟩) (X.length + 1) cap) (X.length + 1) (flat (insX X x)) := own_block hO (fun k hk => by rw [hw3]; exact setO _ _ _ (by cases hk; exact hgp))
  have hO4 := own_cut hO3 hm1
  rw [flat_take] at hO4
  refine ⟨.slice (some ⟨g, 0, none⟩) m cap, ⟨setB (w := w3.drew) hp3 1 _, ?_, ?_, putX_sorted h.so, ?_, h.hm⟩, hF3.drew.setCell (.inl (by simp)) _, fun k hk => by cases hk; exact hv⟩
  · rw [hpx, hml]
    exact own_block hO4 (fun k hk => setO _ _ _ (by cases hk; exact hgp))
  · intro e; cases e; exact hgp rfl
  · rw [hpx, hml]; exact hm2

set_option maxRecDepth 100000 in
set_option maxHeartbeats 4000000 in
theorem Put_nil (x : One) (w : World) : Calls Try.prog 8 #[.pointer none, .agg #[.int .u64 x.f0, .int .u64 x.f1, .int .u64 x.f2, .bool x.f3]] w fun e w' => e = .returned (.int .i64 3) ∧ Below w.heap.size w w' := by
  go_enter Try.func8, Try.ntmps8
  go_wp2_with fail
  go_ret
  exact ⟨rfl, (Below.refl _ _).alloc (Nat.le_refl _) _⟩

set_option maxRecDepth 100000 in
set_option maxHeartbeats 4000000 in
theorem Put_c {w : World} {p : Nat} {most : Int} {X : List One} {v : Value} (h : KA w p most X v) (x : One) : Calls Try.prog 8 #[.pointer (some ⟨p, 0, none⟩), .agg #[.int .u64 x.f0, .int .u64 x.f1, .int .u64 x.f2, .bool x.f3]] w fun e w' => e = .returned (.int .i64 0) ∧ ∃ v', KA w' p most (putX most.toNat X x) v' ∧ Fr (p :: v.ownBlock.toList) w w' ∧ (∀ k, v'.ownBlock = some k → v.ownBlock = some k ∨ w.heap.size ≤ k) := by
  have c1 : w.cell? ⟨p, 1, none⟩ = some v := cellB h.hp 1
  have hps := lt_of_get h.hp
  have hle := h.le
  have hm := h.hm
  have hX : X.length < 1000 := by omega
  have hX2 : X.length < 100 := by omega
  have H := Lib.hid h; clear h
  obtain ⟨wa, hwa⟩ : ∃ wa, Hid (wa = w.alloc (.cells #[.int .u64 x.f0, .int .u64 x.f1, .int .u64 x.f2, .bool x.f3] 31)) := ⟨_, rfl⟩
  have hFa : Fr [] w wa := by rw [hwa.out]; exact (Fr.refl [] w).alloc _
  have hba : wa.heap[w.heap.size]? = some (.cells #[.int .u64 x.f0, .int .u64 x.f1, .int .u64 x.f2, .bool x.f3] 31 (0, 0)) := by rw [hwa.out]; exact allocN w _
  have hpa : wa.heap[p]? = some (.cells #[.int .i64 most, v] 52 (0, 0)) := hFa.get H.out.hp (by simp)
  have b0 : wa.cell? ⟨w.heap.size, 0, none⟩ = some (.int .u64 x.f0) := cellB hba 0
  have b1 : wa.cell? ⟨w.heap.size, 1, none⟩ = some (.int .u64 x.f1) := cellB hba 1
  have b2 : wa.cell? ⟨w.heap.size, 2, none⟩ = some (.int .u64 x.f2) := cellB hba 2
  have b3 : wa.cell? ⟨w.heap.size, 3, none⟩ = some (.bool x.f3) := cellB hba 3
  have e1 : wa.cell? ⟨p, 1, none⟩ = some v := cellB hpa 1
  have HFa := Lib.hid hFa; have HBa := Lib.hid hba; have HPa := Lib.hid hpa; clear hFa hba hpa
  go_enter Try.func8, Try.ntmps8
  go_wp2_with fail
  change Code.wp _ _ _ _ (w.alloc (.cells #[.int .u64 x.f0, .int .u64 x.f1, .int .u64 x.f2, .bool x.f3] 31))
  rw [← hwa.out]
  go_region_held3 (fun w' => w'.cell? ⟨p, 1, none⟩ = some v ∧ w'.cell? ⟨w.heap.size, 0, none⟩ = some (.int .u64 x.f0) ∧ w'.cell? ⟨w.heap.size, 1, none⟩ = some (.int .u64 x.f1) ∧ w'.cell? ⟨w.heap.size, 2, none⟩ = some (.int .u64 x.f2) ∧ w'.cell? ⟨w.heap.size, 3, none⟩ = some (.bool x.f3))
    ((first | go_keep | (have q0 := World.block_lt_of_cell? wa _ b0; have q1 := World.block_lt_of_cell? wa _ e1; exact ⟨(hb.cell (p := ⟨p, 1, none⟩) q1).trans e1, (hb.cell (p := ⟨w.heap.size, 0, none⟩) q0).trans b0, (hb.cell (p := ⟨w.heap.size, 1, none⟩) q0).trans b1, (hb.cell (p := ⟨w.heap.size, 2, none⟩) q0).trans b2, (hb.cell (p := ⟨w.heap.size, 3, none⟩) q0).trans b3⟩)))
    ((go_at_call 17; refine (BSF_any _ 0 v X x (own_fr H.out.own (HFa.out.drewN 1) (by simp)) H.out.so hX).mono ?_; rintro e w1 ⟨rfl, hb⟩))
  have hF1 : Fr [] w w1 := (HFa.out.drewN 1).trans (Fr.of_below hb [] (Nat.le_refl _))
  have hp1 : w1.heap[p]? = some (.cells #[.int .i64 most, v] 52 (0, 0)) := hF1.get H.out.hp (by simp)
  have hb1 : w1.heap[w.heap.size]? = some (.cells #[.int .u64 x.f0, .int .u64 x.f1, .int .u64 x.f2, .bool x.f3] 31 (0, 0)) := (hb.block _ (lt_of_get HBa.out)).trans HBa.out
  have a0 : w1.cell? ⟨w.heap.size, 0, none⟩ = some (.int .u64 x.f0) := cellB hb1 0
  have a1 : w1.cell? ⟨w.heap.size, 1, none⟩ = some (.int .u64 x.f1) := cellB hb1 1
  have a2 : w1.cell? ⟨w.heap.size, 2, none⟩ = some (.int .u64 x.f2) := cellB hb1 2
  have a3 : w1.cell? ⟨w.heap.size, 3, none⟩ = some (.bool x.f3) := cellB hb1 3
  have d1 : w1.cell? ⟨p, 1, none⟩ = some v := cellB hp1 1
  have HF1 := Lib.hid hF1; have HP1 := Lib.hid hp1
  clear hb hF1 hb1 hp1 c1 b0 b1 b2 b3 e1
  by_cases hf : fnd X x = true
  · go_wp2_with fail
    go_ret
    exact ⟨rfl, v, by unfold putX; rw [if_pos hf]; exact ⟨HP1.out, own_fr H.out.own HF1.out (by simp), H.out.ne, H.out.so, H.out.le, H.out.hm⟩, HF1.out.mono (by simp), fun k hk => .inl hk⟩
  · have hf2 : fnd X x = false := by simpa using hf
    go_wp2_with fail
    have d2 : (w1.alloc (.cells #[.int .u64 x.f0, .int .u64 x.f1, .int .u64 x.f2, .bool x.f3] 31)).cell? ⟨p, 1, none⟩ = some v := (World.cell?_alloc_some w1 _ _ (by rw [d1]; rfl)).trans d1
    go_region_law (first | (go_simp; go_at_call 19; refine (Insert_p H.out x hX HF1.out).mono ?_; rintro e w2 ⟨g, cap, rfl, hnc, hcm, c20, c21, f21, hp2, hI⟩; have HP2 := Lib.hid hp2; clear hp2))
    all_goals
      have HV2 : Hid ((w2.setCell ⟨p, 1, none⟩ (.slice (some ⟨g, 0, none⟩) (X.length + 1) cap)).heap[p]? = some (.cells #[.int .i64 most, .slice (some ⟨g, 0, none⟩) (X.length + 1) cap] 52 (0, 0))) := setB HP2.out 1 _
      have hcI : (X.length : Int) + 1 ≤ (cap : Int) := by omega
      obtain ⟨w3, hw3⟩ : ∃ w3, Hid (w3 = w2.setCell ⟨p, 1, none⟩ (.slice (some ⟨g, 0, none⟩) (X.length + 1) cap)) := ⟨_, rfl⟩
      go_wp2_with fail
      change Code.wp _ _ _ _ (w2.setCell ⟨p, 1, none⟩ (.slice (some ⟨g, 0, none⟩) (X.length + 1) cap))
      rw [← hw3.out]
      rw [← hw3.out] at HV2
      have c30 : w3.cell? ⟨p, 0, none⟩ = some (.int .i64 most) := cellB HV2.out 0
      have c31 : w3.cell? ⟨p, 1, none⟩ = some (.slice (some ⟨g, 0, none⟩) (X.length + 1) cap) := cellB HV2.out 1
      have f31 : w3.frozen? ⟨p, 1, none⟩ = false := frozenB HV2.out 1
      clear c20 c21 f21
      by_cases hmm : (X.length : Int) + 1 ≤ most
      · have hml : ((X.length : Int) + 1 : Int) < most + 1 := by omega
        go_region
        go_wp2_with fail
        go_ret
        exact ⟨rfl, put_close H.out hf2 hI.out hw3.out HV2.out (X.length + 1) (Nat.le_refl _) (by omega) (.inr rfl)⟩
      · obtain rfl : most = (X.length : Int) := by omega
        go_region
        go_wp2_with fail
        go_ret
        exact ⟨rfl, put_close H.out hf2 hI.out hw3.out HV2.out X.length (by omega) (by omega) (.inl rfl)⟩
end Go.Proofs.Ytbedoahkpdpmeaa.Ex
