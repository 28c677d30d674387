/- Queue.Until. -/
import Derived.Test.YtfeikcfhionjkaaUntil1
import Derived.Maps.Own
import Derived.Maps.AppendAt
import Derived.Deep.AppendLies
import Derived.Deep.Onto
set_option linter.unusedVariables false
set_option linter.unusedSimpArgs false
namespace Go.Proofs.Ytfeikcfhionjkaa.Hp
open Go.RowKit Go.Proofs.Ytfeikcfhionjkaa.B0

theorem IRep.row_at {w : World} {q mb : Nat} {r : Option (Nat × Nat)} {L : List E} (h : IRep w q mb r L) {k : Nat} {e : E} (he : L[k]? = some e) : ∃ g c, r = some (g, c) ∧ w.cell? ⟨g, k, none⟩ = some (.pointer (some ⟨e.b, 0, none⟩)) ∧ w.cell? ⟨e.b, 0, none⟩ = some (.int .u64 e.id) ∧ w.cell? ⟨e.b, 1, none⟩ = some (.int .u64 e.t) := by
  obtain ⟨g, c, rfl⟩ := h.cap (by have := (List.getElem?_eq_some_iff.1 he).1; omega)
  obtain ⟨cs, hg, _, _, _, hp⟩ := h.hr
  exact ⟨g, c, rfl, (cellB hg k).trans (hp k e he), cellB (h.hi k e he) 0, cellB (h.hi k e he) 1⟩
def upTo (t : Int) (L : List E) : List E := L.filter fun e => decide (e.t ≤ t)
theorem upTo_take {t : Int} {L : List E} {k : Nat} {e : E} (he : L[k]? = some e) : upTo t (L.take (k + 1)) = if e.t ≤ t then upTo t (L.take k) ++ [e] else upTo t (L.take k) := by
  unfold upTo
  rw [List.take_add_one, he, List.filter_append]
  by_cases h : e.t ≤ t <;> simp [h]
theorem ptrs_append (L : List E) (e : E) : ptrs (L ++ [e]) = ptrs L ++ [.pointer (some ⟨e.b, 0, none⟩)] := by simp [ptrs]

theorem own_sv {w : World} {base e n : Nat} {v : Value} {xs : List Value} (h : w.ownsRow base e 1 v n xs) : ∃ r, v = svOf r n ∧ (r = none → n = 0) := by
  rcases h.2 with ⟨rfl, h0⟩ | ⟨g, c, _, rfl, _⟩
  · exact ⟨none, by subst h0; rfl, fun _ => h0⟩
  · exact ⟨some (g, c), rfl, fun h => by cases h⟩
theorem len_sv' (r : Option (Nat × Nat)) (n : Nat) (h : r = none → n = 0) (ty : TypeId) (w : World) : (Builtin.len_ #[59] ty #[svOf r n]).run Try.prog w = .ok (.int .i64 n) w := by
  cases r with
  | none => rw [h rfl]; kernel_rfl
  | some p => simp [svOf, Builtin.len_, run_underlying Try.underlying59, goInt]
theorem info_u64 : (Try.prog.info? 27).map (fun i => (i.zero, i.size, i.bytes)) = some (some (.int .u64 0), 1, 8) := by kernel_rfl
/-- what the sort is asked. -/
def SortC (w : World) (v : Value) (L : List E) : Prop :=
  Calls Try.prog 30 #[v, .func (.func 31) #[] #[]] w fun e w' => e = .returned (.tuple #[]) ∧
    ∃ (L2 : List E) (F : List Nat), L2.Perm L ∧ (L2.map keyE).Pairwise ltP ∧ (∀ (g c i : Nat) (x : E), v = .slice (some ⟨g, 0, none⟩) L.length c → L2[i]? = some x → w'.cell? ⟨g, i, none⟩ = some (.pointer (some ⟨x.b, 0, none⟩))) ∧ (∀ b, b ∈ F → v.ownBlock = some b) ∧ Fr F w w'

theorem ltP_irrefl {a b : Int × Int} (h1 : ltP a b) (h2 : ltP b a) : False := by unfold ltP at *; omega
theorem perm_sorted : ∀ {A B : List (Int × Int)}, A.Perm B → A.Pairwise ltP → B.Pairwise ltP → A = B
  | [], B, h, _, _ => (List.nil_perm.1 h).symm
  | a :: A, [], h, _, _ => by simpa using h.length_eq
  | a :: A, b :: B, h, hA, hB => by
    have e : a = b := by
      rcases List.mem_cons.1 (h.mem_iff.1 (List.mem_cons_self ..)) with e | ha
      · exact e
      · rcases List.mem_cons.1 (h.mem_iff.2 (List.mem_cons_self ..)) with e | hb
        · exact e.symm
        · exact (ltP_irrefl ((List.pairwise_cons.1 hA).1 b hb) ((List.pairwise_cons.1 hB).1 a ha)).elim
    subst e
    rw [perm_sorted ((List.perm_cons a).1 h) (List.pairwise_cons.1 hA).2 (List.pairwise_cons.1 hB).2]

set_option maxRecDepth 100000 in
set_option maxHeartbeats 4000000 in
theorem Until_q0 (hsort : ∀ (w : World) (L : List E) (v : Value), w.ownsRow 0 63 1 v L.length (ptrs L) → (∀ e, e ∈ L → ∃ p T, w.heap[e.b]? = some (.cells #[.int .u64 e.id, .int .u64 e.t, p] T (0, 0)) ∧ v.ownBlock ≠ some e.b) → (L.map E.id).Nodup → L.length < 1000000000000 → SortC w v L)
    {w : World} {q : Nat} {S : List (Int × Int)} {fp : List Nat} (h : QA w q S fp) (t : Int) (hlen : S.length < 1000000000000) :
    Calls Try.prog 23 #[.pointer (some ⟨q, 0, none⟩), .int .u64 t] w fun e w' => ∃ v, e = .returned v ∧ w'.ownsRow w.heap.size 27 1 v (S.filter fun p => decide (p.2 ≤ t)).length ((S.filter fun p => decide (p.2 ≤ t)).map fun p => Value.int .u64 p.1) ∧ Fr [] w w' := by
  obtain ⟨mb, r, L, M, h1, rfl⟩ := h
  have hSL := h1.len
  have c0 := h1.irep.c0
  have hls := len_sv h1.irep.hr
  obtain ⟨i0, hi, hz0, hz1, hz2⟩ := info_parts Try.info63
  obtain ⟨i2, hi', hz0', hz1', hz2'⟩ := info_parts info_u64
  have HQ := Lib.hid h1; clear h1
  go_enter Try.func23, Try.ntmps23
  go_wp2_with fail
  go_loopw [5, 18] (fun lv iv wr => ∃ (k : Nat) (L1 : List E), iv = .int .i64 k ∧ k ≤ L.length ∧ Hid (L1 = upTo t (L.take k)) ∧ Hid (wr.ownsRow w.heap.size 63 1 lv L1.length (ptrs L1)) ∧ Hid (Fr [] w wr)) (fun _ iv _ => L.length - (intOf iv).toNat)
  case atStart => exact ⟨0, [], rfl, Nat.zero_le _, rfl, World.ownsRow_nil _ _ _ _, Fr.refl _ _⟩
  case round =>
    obtain ⟨k, L1, rfl, hk, HL1, HO, HF⟩ := hrel
    by_cases hkl : k < L.length
    · have hki : (k : Int) < L.length := by omega
      obtain ⟨e, he⟩ : ∃ e, L[k]? = some e := ⟨_, List.getElem?_eq_getElem hkl⟩
      obtain ⟨g, c, rfl, x0, x1, x2⟩ := (HQ.out.irep.below HF.out.below).row_at he
      have HU := Lib.hid (upTo_take (t := t) he)
      clear he
      simp only [svOf]
      have hL1 : L1.length ≤ k := by rw [HL1.out]; unfold upTo; exact Nat.le_trans (List.length_filter_le _ _) (by rw [List.length_take]; omega)
      by_cases hle : e.t ≤ t
      · go_wp2_with (at_builtin; refine wpList_append_own_at _ rfl _ _ 59 rfl w.heap.size 63 i0 _ 1 8 Try.underlying59 hi hz0 hz1 hz2 rfl (by decide) u5 L1.length (ptrs L1) rfl (HO.out.alloc _) ⟨wr.heap.size, 0, none⟩ 1 1 [.pointer (some ⟨e.b, 0, none⟩)] rfl rfl ?c1 ?c2 ?c3 ?c4 ?c5 ?_)
        case c1 => exact cell_one_new _ _ _
        case c2 => intro u hu; simp at hu; subst hu; rfl
        case c3 => unfold maxLen; omega
        case c4 => omega
        case c5 => have := HF.out.size; simp; omega
        intro v' w1 ho hg hnil hat
        have HF1 : Hid (Fr [] w w1) := (HF.out.alloc _).grown hg (fun kk hkk => .inr (HO.out.lt kk hkk).1)
        rw [← ptrs_append] at ho
        have HO1 := Lib.hid ho; clear ho
        have HU1 : Hid (L1 ++ [e] = upTo t (L.take (k + 1))) := by
          have := HU.out
          rw [if_pos hle, ← HL1.out] at this
          exact this.symm
        clear hg hnil hat HU HO HL1 hL1
        go_wp2_with fail
        go_roundw
        case rel => exact ⟨k + 1, L1 ++ [e], by go_num, by omega, HU1, by rw [List.length_append]; exact HO1, HF1⟩
        case measure => simp [intOf]; omega
      · go_wp2_with fail
        go_roundw
        case rel => exact ⟨k + 1, L1, by go_num, by omega, by have := HU.out; rw [if_neg hle, ← HL1.out] at this; exact this.symm, HO, HF⟩
        case measure => simp [intOf]; omega
    · have hkk : k = L.length := by omega
      have HL2 : Hid (L1 = upTo t L) := by have := HL1.out; rw [hkk, List.take_length] at this; exact this
      clear HL1
      obtain ⟨r1, rfl, hr1⟩ := own_sv HO.out
      have hls1 := len_sv' r1 L1.length hr1
      have hlt : ∀ b, (svOf r1 L1.length).ownBlock = some b → w.heap.size ≤ b := fun b hb => (HO.out.lt b hb).1
      have HLT := Lib.hid hlt; clear hlt
      have hLl : L1.length ≤ L.length := by rw [HL2.out]; exact List.length_filter_le _ _
      go_wp2_with fail
      refine (hsort wr L1 _ (Go.World.ownsRow.mono HO.out (Nat.zero_le _)) ?ha ?hb (by omega)).mono ?_
      case ha =>
        intro e he
        rw [HL2.out] at he
        obtain ⟨i, hi⟩ := List.mem_iff_getElem?.1 (List.mem_filter.1 he).1
        have hg := HQ.out.irep.hi i e hi
        refine ⟨_, _, HF.out.get hg (by simp), fun hh => ?_⟩
        have h1 := HLT.out _ hh
        have h2 := lt_of_get hg
        omega
      case hb =>
        rw [HL2.out]
        exact (List.filter_sublist.map _).nodup HQ.out.ids
      rintro e w1 ⟨rfl, L2, F, hp, hso, hcell, hFF, hF⟩
      have HFw : Hid (Fr [] w w1) := HF.out.trans' hF (fun b hb => .inr (HLT.out b (hFF b hb)))
      have HC := Lib.hid hcell; clear hcell
      have HP := Lib.hid hp; clear hp
      have HSO := Lib.hid hso; clear hso
      have hlen2 : L2.length = L1.length := HP.out.length_eq
      have HL := Lib.hid hlen2; clear hlen2
      clear hF hFF HLT
      clear hls
      go_wp2_with fail
      go_loopw [8, 37] (fun lv iv wr => ∃ (j : Nat) (xs : List Value), iv = .int .i64 j ∧ j ≤ L1.length ∧ Hid (xs = (L2.take j).map fun e => Value.int .u64 e.id) ∧ Hid (wr.ownsRow w1.heap.size 27 1 lv j xs) ∧ Hid (Fr [] w1 wr)) (fun _ iv _ => L1.length - (intOf iv).toNat)
      case atStart => exact ⟨0, [], rfl, Nat.zero_le _, rfl, World.ownsRow_nil _ _ _ _, Fr.refl _ _⟩
      case round =>
        obtain ⟨j, xs, rfl, hj, HX, HO2, HF2⟩ := hrel
        by_cases hjl : j < L1.length
        · have hji : (j : Int) < L1.length := by omega
          obtain ⟨e, he⟩ : ∃ e, L2[j]? = some e := ⟨_, List.getElem?_eq_getElem (by rw [HL.out]; exact hjl)⟩
          obtain ⟨g, c, rfl⟩ : ∃ g c, r1 = some (g, c) := by
            cases r1 with
            | none => have := hr1 rfl; omega
            | some p => exact ⟨p.1, p.2, rfl⟩
          have y0 := HC.out g c j e rfl he
          have x0 : wr.cell? ⟨g, j, none⟩ = some (.pointer (some ⟨e.b, 0, none⟩)) := (HF2.out.below.cell (p := ⟨g, j, none⟩) (World.block_lt_of_cell? w1 _ y0)).trans y0
          have x1 : wr.cell? ⟨e.b, 0, none⟩ = some (.int .u64 e.id) := by
            have hm : e ∈ L := by
              have := HP.out.mem_iff.1 (List.mem_of_getElem? he)
              rw [HL2.out] at this
              exact (List.mem_filter.1 this).1
            obtain ⟨i, hi⟩ := List.mem_iff_getElem?.1 hm
            exact cellB (((HQ.out.irep.below HFw.out.below).below HF2.out.below).hi i e hi) 0
          have HT := Lib.hid (show L2.take (j + 1) = L2.take j ++ [e] from by rw [List.take_add_one, he]; rfl)
          clear he y0
          rw [show svOf (some (g, c)) L1.length = .slice (some ⟨g, 0, none⟩) L1.length c from rfl]
          go_wp2_with (at_builtin; refine wpList_append_own_at _ rfl _ _ 22 rfl w1.heap.size 27 i2 _ 1 8 Try.underlying22 hi' hz0' hz1' hz2' rfl (by decide) u8 j xs rfl (HO2.out.alloc _) ⟨wr.heap.size, 0, none⟩ 1 1 [.int .u64 e.id] rfl rfl ?c1 ?c2 ?c3 ?c4 ?c5 ?_)
          case c1 => exact cell_one_new _ _ _
          case c2 => intro u hu; simp at hu; subst hu; rfl
          case c3 => unfold maxLen; omega
          case c4 => omega
          case c5 => have := HF2.out.size; have := HFw.out.size; simp; omega
          intro v' w3 ho hg hnil hat
          have HF3 : Hid (Fr [] w1 w3) := (HF2.out.alloc _).grown hg (fun kk hkk => .inr (HO2.out.lt kk hkk).1)
          have HX3 : Hid (xs ++ [.int .u64 e.id] = (L2.take (j + 1)).map fun e => Value.int .u64 e.id) := by rw [HT.out, List.map_append, ← HX.out]; rfl
          have HO3 := Lib.hid ho
          clear hg hnil hat HT HO2 HX ho
          go_wp2_with fail
          go_roundw
          case rel => exact ⟨j + 1, _, by go_num, by omega, HX3, HO3, HF3⟩
          case measure => simp [intOf]; omega
        · go_wp2_with fail
          go_ret
          have hj2 : j = L2.length := by have := HL.out; omega
          have hk2 : L2.map keyE = S.filter fun p => decide (p.2 ≤ t) := by
            refine perm_sorted ?_ HSO.out (HQ.out.so.filter _)
            refine (HP.out.map keyE).trans ?_
            rw [HL2.out]
            refine List.Perm.trans ?_ (HQ.out.sp.filter _).symm
            rw [List.filter_map]
            exact List.Perm.refl _
          have key : (L2.map fun e => Value.int .u64 e.id) = (S.filter fun p => decide (p.2 ≤ t)).map fun p => Value.int .u64 p.1 := by
            rw [← hk2, List.map_map]; rfl
          have h3 := Go.World.ownsRow.mono HO2.out (Nat.le_trans HFw.out.size (Nat.le_refl _))
          rw [HX.out, hj2, List.take_length, key] at h3
          have hl : (S.filter fun p => decide (p.2 ≤ t)).length = L2.length := by have := congrArg List.length key; simpa using this.symm
          rw [hl]
          exact ⟨_, rfl, h3, HFw.out.trans HF2.out⟩
end Go.Proofs.Ytfeikcfhionjkaa.Hp
