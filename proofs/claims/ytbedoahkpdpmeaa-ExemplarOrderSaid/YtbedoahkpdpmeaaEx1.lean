/- slices.Insert at exemplar.One (four cells an element). -/
import Derived.Test.YtbedoahkpdpmeaaB0
import Derived.Test.YtbedoahkpdpmeaaProg
import Derived.RowKit3
import Derived.KernelRfl
import Derived.WalkSpells
import Derived.WalkLawsBesides
import Derived.Deep.QuietTactic
import Derived.BigQuiet
import Derived.Maps.Own
import Derived.Maps.AppendAt
import Derived.Deep.AppendLies
import Derived.Laws.CopyRow
import Derived.Lib.Overlaps
import Derived.Lib.AppendZerosOnto
import Derived.Laws.Externs
import Derived.Shelf.RegionOpenPlain
set_option linter.unusedVariables false
set_option linter.unusedSimpArgs false
namespace Go.Proofs.Ytbedoahkpdpmeaa.Ex
open Go.RowKit Go.Proofs.Ytbedoahkpdpmeaa.B0

theorem run_copy_rowK {P : Program} (w : World) (dT sT ty elem : TypeId) (s g o dLen dCap : Nat) (a : Addr) (sLen sCap : Nat) (cur : Array Value) (t : TypeId) (cs : List Value)
    (hu : P.underlying dT = some (.slice elem)) (hs : (P.info? elem).map (·.size) = some s)
    (hg : w.heap[g]? = some (.cells cur t (0, 0))) (hn : cs.length = Nat.min sLen dLen * s)
    (hsrc : ∀ j v, cs[j]? = some v → w.cell? (a.add j) = some v) (hfit : o + cs.length ≤ cur.size) (h1 : ∀ v ∈ cs, v.oneCell' = true) :
    (Builtin.copy_ #[dT, sT] ty #[.slice (some ⟨g, o, none⟩) dLen dCap, .slice (some a) sLen sCap]).run P w =
      .ok (goInt (Nat.min sLen dLen)) (w.setRow g (cur.toList.take o ++ cs ++ cur.toList.drop (o + cs.length)).toArray) := by
  have hl := run_loadCells_list (P := P) w a cs hsrc
  have hst := run_storeCells_at P g o t cs 0 cur w hg (by simpa using hfit) h1
  cases hq : P.info? elem with
  | none => simp [hq] at hs
  | some i =>
    have hi : i.size = s := by simpa [hq] using hs
    simp [Builtin.copy_, run_underlying hu, Builtin.lenOf, Builtin.firstCells, sizeOf, typeInfo, hq, hi, ← hn, hl, hst]

theorem wp_copy_run (w : World) {P : Program} {o : Oper} {a : Act} {K : Act → World → Prop} {Q : Exit → Act → World → Prop} (d s : Operand) (t t' : TypeId)
    (ho : o.op = .call { callee := .builtin .copy, args := #[d, s], argTypes := #[t, t'] }) (v u : Value) (hd : a.eval d = v) (hs : a.eval s = u) {v' : Value} {w' : World}
    (hr : (Builtin.copy_ #[t, t'] o.type #[v, u]).run P w = .ok v' w') (h : K (a.put o.dst v') w') : o.wp P a w K Q := by
  unfold Oper.wp execOp
  simp only [ho, resolve, invoke, builtin, Sem.run_bind, Sem.run_pure, Result.andThen_ok, List.map_toArray, List.map_cons, List.map_nil, hd, hs, hr]
  exact h
theorem wpList_copy_run (w : World) {P : Program} {ops : Array Oper} {rest : List Oper} {o : Oper} {a : Act} {Q : Exit → Act → World → Prop} (hgd : o.guard = none) (d s : Operand) (t t' : TypeId)
    (ho : o.op = .call { callee := .builtin .copy, args := #[d, s], argTypes := #[t, t'] }) (v u : Value) (hd : a.eval d = v) (hs : a.eval s = u) {v' : Value} {w' : World}
    (hr : (Builtin.copy_ #[t, t'] o.type #[v, u]).run P w = .ok v' w') (h : wpList P ops Q rest (a.put o.dst v') w') : wpList P ops Q (o :: rest) a w :=
  wpList_plain hgd fun _ hK => wp_copy_run w d s t t' ho v u hd hs hr (hK _ _ h)
theorem step_copy_run {P : Program} {ops : Array Oper} {o : Oper} {a : Act} {w : World} {K : Act → World → Prop} {Q : Exit → Act → World → Prop} {E : Prop}
    (hg : o.guard = none) (d x : Operand) (dT sT : TypeId) (hop : o.op = Op.call { callee := Callee.builtin Builtin.copy, args := #[d, x], argTypes := #[dT, sT] })
    (v u : Value) (hd : a.eval d = v) (hx : a.eval x = u) {v' : Value} {w' : World} (hr : (Builtin.copy_ #[dT, sT] o.type #[v, u]).run P w = .ok v' w') (hK : K (a.put o.dst v') w') :
    if Region.wanted o (yielded ops a.tmps) = true then Oper.wp P o a w K Q else E := by
  have hw : Region.wanted o (yielded ops a.tmps) = true := by simp [Region.wanted, hg]
  rw [if_pos hw]
  unfold Oper.wp
  simp [execOp, hop, resolve, invoke, builtin, hd, hx, hr, Result.andThen]
  exact hK
theorem add_lit (g o j : Nat) : (⟨g, o, none⟩ : Addr).add j = ⟨g, o + j, none⟩ := by unfold Addr.add; split <;> simp_all

theorem i34 : (Try.prog.info? 31).map (·.size) = some 4 := by kernel_rfl

set_option maxRecDepth 100000 in
set_option maxHeartbeats 4000000 in
theorem Insert_room (w : World) (g n c i vb : Nat) (cur : Array Value) (pre suf rest x4 : List Value) (hi : i < n) (hn : n < 1000) (hc : n + 1 ≤ c)
    (hg : w.heap[g]? = some (.cells cur 31 (0, 0))) (hcur : cur.toList = pre ++ suf ++ rest) (hpre : pre.length = i * 4) (hsuf : suf.length = (n - i) * 4) (hsz : cur.size = c * 4)
    (hv : w.heap[vb]? = some (.cells x4.toArray 31 (0, 0))) (hx : x4.length = 4) (hvg : vb ≠ g) (h1 : ∀ u ∈ suf, u.oneCell' = true) (h1x : ∀ u ∈ x4, u.oneCell' = true) :
    Calls Try.prog 19 #[.slice (some ⟨g, 0, none⟩) n c, .int .i64 i, .slice (some ⟨vb, 0, none⟩) 1 1] w fun e w' => e = .returned (.slice (some ⟨g, 0, none⟩) (n + 1) c) ∧ ∃ k, w' = (w.drewN k).setRow g (pre ++ x4 ++ suf ++ rest.drop 4).toArray := by
  have hi0 : (i : Int) ≤ (n : Int) := by omega
  have hin : ¬ ((i : Int) = (n : Int)) := by omega
  have hin2 : ((i : Int) == (n : Int)) = false := by simp; omega
  have hcn : ¬ ((c : Int) < (n : Int) + 1) := by omega
  have hcI : (n : Int) + 1 ≤ (c : Int) := by omega
  have hw1 : IntKind.i64.wrap ((n : Int) + 1) = (n : Int) + 1 := by rw [IntKind.wrap_i64]; omega
  have hw2 : IntKind.i64.wrap ((i : Int) + 1) = (i : Int) + 1 := by rw [IntKind.wrap_i64]; omega
  have hci : ¬ (c = i) := by omega
  have hci1 : ¬ (c = i + 1) := by omega
  have hcz : cur.size ≠ 0 := by omega
  have hb1 : (0 : Int) ≤ (i : Int) + 1 := by omega
  have hb3 : (i : Int) ≤ (n : Int) + 1 := by omega
  have mixed : Try.prog.follows Departure.mixedOrders = true := by kernel_rfl
  have hov : ∀ lb cb, (callFunc 27 #[.slice (some ⟨vb, 0, none⟩) 1 1, .slice (some ⟨g, (i + 1) * 4, none⟩) lb cb]).run Try.prog w = .ok (.value (.bool false)) w := fun lb cb => by
    rw [run_callFunc_extern Try.func27 (by kernel_rfl) (by kernel_rfl) (by kernel_rfl) (e := Extern.SlicesOverlaps.overlaps #[34, 34] #[4]) (by kernel_rfl),
      Lib.run_overlaps_apart w 34 4 31 Try.underlying34 4 Try.sizeOf31 ⟨vb, 0, none⟩ ⟨g, (i + 1) * 4, none⟩ 1 1 lb cb hvg 31 31 x4.toArray.size cur.size (by simp [World.shape?, hv]) (by simp [World.shape?, hg]) hcz (frozenB hv 0) (frozenB hv _)]
    rfl
  have HG := Lib.hid hg
  have HV := Lib.hid hv
  have HC := Lib.hid hcur
  have H1 := Lib.hid h1; have H2 := Lib.hid h1x
  have HL := Lib.hid (And.intro hpre (And.intro hsuf (And.intro hsz hx)))
  clear hg hv hcur h1 h1x hpre hsuf hsz hx hcz
  go_enter Try.func19, Try.ntmps19
  go_wp2_with (simp only [hov])
  have hcp1 : ∀ ty dc sc, (Builtin.copy_ #[34, 34] ty #[.slice (some ⟨g, (i + 1) * 4, none⟩) (n - i) dc, .slice (some ⟨g, i * 4, none⟩) (n + 1 - i) sc]).run Try.prog w.drew = .ok (goInt (Nat.min (n + 1 - i) (n - i))) (w.drew.setRow g (cur.toList.take ((i + 1) * 4) ++ suf ++ cur.toList.drop ((i + 1) * 4 + suf.length)).toArray) := fun ty dc sc => by
    obtain ⟨hpre, hsuf, hsz, hx⟩ := HL.out
    refine run_copy_rowK w.drew _ _ ty 31 4 g ((i + 1) * 4) (n - i) dc ⟨g, i * 4, none⟩ (n + 1 - i) sc cur 31 suf Try.underlying34 i34 HG.out ?_ ?_ ?_ H1.out
    · rw [hsuf]; congr 1; show n - i = min (n + 1 - i) (n - i); omega
    · intro j v hj
      rw [add_lit]
      show w.cell? _ = _
      rw [cellB HG.out, ← Array.getElem?_toList, HC.out, List.append_assoc, List.getElem?_append_right (by omega), hpre, Nat.add_sub_cancel_left, List.getElem?_append_left (List.getElem?_eq_some_iff.1 hj).1]
      exact hj
    · rw [hsuf, hsz]; omega
  obtain ⟨A, hA⟩ : ∃ A, Hid (A = cur.toList.take ((i + 1) * 4) ++ suf ++ cur.toList.drop ((i + 1) * 4 + suf.length)) := ⟨_, rfl⟩
  rw [← hA.out] at hcp1
  have hA4 : A.take (i * 4) = pre ∧ A.drop (i * 4 + 4) = suf ++ rest.drop 4 ∧ i * 4 + 4 ≤ A.length := by
    obtain ⟨hpre, hsuf, hsz, hx⟩ := HL.out
    have e1 : cur.toList.take ((i + 1) * 4) = pre ++ suf.take 4 := by
      rw [HC.out, List.append_assoc, List.take_append, List.take_of_length_le (by omega), hpre, show (i + 1) * 4 - i * 4 = 4 from by omega, List.take_append_of_le_length (by omega)]
    have e2 : cur.toList.drop ((i + 1) * 4 + suf.length) = rest.drop 4 := by
      rw [HC.out, List.drop_append, List.drop_of_length_le (by rw [List.length_append]; omega), List.nil_append]
      congr 1
      rw [List.length_append]; omega
    have e3 : (suf.take 4).length = 4 := by rw [List.length_take]; omega
    rw [hA.out, e1, e2]
    refine ⟨?_, ?_, ?_⟩
    · rw [List.append_assoc, List.append_assoc, List.take_left' hpre]
    · rw [List.append_assoc, List.drop_left' (by rw [List.length_append]; omega)]
    · simp only [List.length_append]; omega
  have HA4 := Lib.hid hA4; clear hA4
  have HG1 : Hid ((w.drew.setRow g A.toArray).heap[g]? = some (.cells A.toArray 31 (0, 0))) := setRow_heap w.drew g cur A.toArray _ _ HG.out
  have HV1 : Hid ((w.drew.setRow g A.toArray).heap[vb]? = some (.cells x4.toArray 31 (0, 0))) := (setRow_other w.drew g vb A.toArray hvg).trans HV.out
  have hcp2 : ∀ ty dc, (Builtin.copy_ #[34, 34] ty #[.slice (some ⟨g, i * 4, none⟩) (n + 1 - i) dc, .slice (some ⟨vb, 0, none⟩) 1 1]).run Try.prog (w.drew.setRow g A.toArray) = .ok (goInt (Nat.min 1 (n + 1 - i))) ((w.drew.setRow g A.toArray).setRow g (A.toArray.toList.take (i * 4) ++ x4 ++ A.toArray.toList.drop (i * 4 + x4.length)).toArray) := fun ty dc => by
    obtain ⟨hpre, hsuf, hsz, hx⟩ := HL.out
    refine run_copy_rowK _ _ _ ty 31 4 g (i * 4) (n + 1 - i) dc ⟨vb, 0, none⟩ 1 1 A.toArray 31 x4 Try.underlying34 i34 HG1.out ?_ ?_ ?_ H2.out
    · rw [hx]; show 4 = min 1 (n + 1 - i) * 4; rw [Nat.min_eq_left (by omega)]
    · intro j v hj
      rw [add_lit, cellB HV1.out]
      simpa using hj
    · rw [hx]; simpa using HA4.out.2.2
  have hfin : (A.toArray.toList.take (i * 4) ++ x4 ++ A.toArray.toList.drop (i * 4 + x4.length)) = pre ++ x4 ++ suf ++ rest.drop 4 := by
    rw [HL.out.2.2.2, List.toList_toArray, HA4.out.1, HA4.out.2.1]; simp
  rw [hfin] at hcp2
  clear hfin
  go_region_law_o (refine step_copy_run rfl _ _ 34 34 rfl _ _ (by simp [Act.eval, Act.put]) (by simp [Act.eval, Act.put]) (hcp1 _ _ _) ?_)
  go_wp2_with (at_builtin; refine wpList_copy_run _ rfl _ _ 34 34 rfl _ _ rfl rfl (hcp2 _ _) ?_)
  go_ret
  refine ⟨rfl, 1, ?_⟩
  rw [setRow_setRow]
  simp only [List.append_assoc]
  rfl

theorem info_One : (Try.prog.info? 31).map (fun i => (i.zero, i.size, i.bytes)) = some (some (.agg #[.int .u64 0, .int .u64 0, .int .u64 0, .bool false]), 4, 32) := by kernel_rfl

set_option maxRecDepth 100000 in
set_option maxHeartbeats 4000000 in
theorem Insert_end (w : World) (base n : Nat) (v : Value) (xs x4 : List Value) (vb : Nat) (ho : w.ownsRow base 31 4 v n xs) (hn : n < 1000) (hb : base ≤ w.heap.size)
    (hv : w.heap[vb]? = some (.cells x4.toArray 31 (0, 0))) (hx : x4.length = 4) (h1x : ∀ u ∈ x4, u.oneCell' = true) :
    Calls Try.prog 19 #[v, .int .i64 n, .slice (some ⟨vb, 0, none⟩) 1 1] w fun e w' => ∃ v', e = .returned v' ∧ w'.ownsRow base 31 4 v' (n + 1) (xs ++ x4) ∧ w.grownBy w' v.ownBlock ∧ (v'.ownBlock = v.ownBlock ∨ v'.ownBlock = some w.heap.size) := by
  obtain ⟨i0, hi, hz0, hz1, hz2⟩ := info_parts info_One
  have HO := Lib.hid ho
  have HV := Lib.hid hv
  have H2 := Lib.hid h1x
  rcases ho.2 with ⟨rfl, rfl⟩ | ⟨g, cap, cur, rfl, _, _, hnc, hcm, _⟩
  · clear ho hv h1x
    go_enter Try.func19, Try.ntmps19
    go_wp2_with (at_builtin; refine wpList_append_own_at _ rfl _ _ 34 rfl base 31 i0 _ 4 32 Try.underlying34 hi hz0 hz1 hz2 rfl (by decide) _ 0 xs rfl HO.out ⟨vb, 0, none⟩ 1 1 x4 rfl (by rw [hx]) ?c1 ?c2 ?c3 ?c4 ?c5 ?_)
    case c1 => intro j u hj; rw [add_lit, cellB HV.out]; simpa using hj
    case c2 => exact H2.out
    case c3 => unfold maxLen; omega
    case c4 => omega
    case c5 => exact hb
    intro v' w1 h1 h2 h3 h4
    have K1 := Lib.hid h1; have K2 := Lib.hid h2; have K4 := Lib.hid h4
    clear h1 h2 h3 h4 hi hz0 hz1 hz2
    go_wp2_with fail
    go_ret
    exact ⟨v', rfl, K1.out, K2.out, K4.out⟩
  · have hnc' : (n : Int) ≤ (cap : Int) := by omega
    clear ho hv h1x
    by_cases hcn : cap = n
    all_goals
      go_enter Try.func19, Try.ntmps19
      go_wp2_with (at_builtin; refine wpList_append_own_at _ rfl _ _ 34 rfl base 31 i0 _ 4 32 Try.underlying34 hi hz0 hz1 hz2 rfl (by decide) _ n xs rfl HO.out ⟨vb, 0, none⟩ 1 1 x4 rfl (by rw [hx]) ?c1 ?c2 ?c3 ?c4 ?c5 ?_)
      case c1 => intro j u hj; rw [add_lit, cellB HV.out]; simpa using hj
      case c2 => exact H2.out
      case c3 => unfold maxLen; omega
      case c4 => omega
      case c5 => exact hb
      intro v' w1 h1 h2 h3 h4
      have K1 := Lib.hid h1; have K2 := Lib.hid h2; have K4 := Lib.hid h4
      clear h1 h2 h3 h4 hi hz0 hz1 hz2
      go_wp2_with fail
      go_ret
      exact ⟨v', rfl, K1.out, K2.out, K4.out⟩
end Go.Proofs.Ytbedoahkpdpmeaa.Ex
