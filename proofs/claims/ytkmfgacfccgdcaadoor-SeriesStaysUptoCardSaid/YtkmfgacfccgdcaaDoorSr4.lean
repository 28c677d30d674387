/- series' table: Of. -/
import Derived.Test.YtkmfgacfccgdcaaDoorSr3
import Derived.Deep.QuietTactic
import Derived.BigQuiet
import Derived.OwnWalk
set_option linter.unusedVariables false
set_option linter.unusedSimpArgs false
namespace Go.Proofs.YtkmfgacfccgdcaaDoor.Sr
open Go.RowKit Go.Proofs.YtkmfgacfccgdcaaDoor.B0 Go.Proofs.YtkmfgacfccgdcaaDoor.Ps Go.Proofs.YtkmfgacfccgdcaaDoorW.PrintWords Go.Proofs.YtkmfgacfccgdcaaDoorW.PrintLast Go.Proofs.YtkmfgacfccgdcaaDoor.Bld

theorem Below_drewN {B : Nat} {a b : World} (h : Below B a b) (n : Nat) : Below B a (b.drewN n) := ⟨h.os, h.tape, h.output, h.size, h.block⟩
theorem step_app {P : Program} {ops : Array Oper} {o : Oper} {a : Act} {w : World} {K : Act → World → Prop} {Q : Exit → Act → World → Prop} {E : Prop} (hw : Region.wanted o (yielded ops a.tmps) = true) (s x : Operand) (t u : TypeId)
    (hop : o.op = .call { callee := .builtin .append, args := #[s, x], argTypes := #[t, u] }) (v y : Value) (hs : a.eval s = v) (hx : a.eval x = y) {v' : Value} {w' : World}
    (hr : (Builtin.append_ #[t, u] o.type #[v, y]).run P w = .ok v' w') (hK : K (a.put o.dst v') w') : if Region.wanted o (yielded ops a.tmps) = true then Oper.wp P o a w K Q else E := by
  rw [if_pos hw]
  unfold Oper.wp
  simp [execOp, hop, resolve, invoke, builtin, hs, hx, hr, Result.andThen]
  exact hK
theorem zero3 (w : World) : (zeroValue 3).run Tryd.prog w = .ok (.int .i64 0) w := by kernel_rfl
theorem keysAt_snoc (L : List (List ByteArray)) (xs : List ByteArray) (h : xs ∉ L) : putM (keysAt 0 L) (keyB xs) (.int .i64 ((L.length : Int) + 1)) = keysAt 0 (L ++ [xs]) := by
  unfold putM
  rw [if_neg (fun hh => h ((keysAt_mem L 0 xs).1 hh))]
  unfold keysAt
  rw [List.zipIdx_append]
  simp
/-- one more row behind a row of the table's own. -/
theorem app_one (W : World) (ty : TypeId) (lv : Value) (n : Nat) (vals : List Value) (v : Value) (g : Nat) (HO : W.ownsRow 0 29 1 lv n vals) (hg : W.heap[g]? = some (.cells #[v] 29 (0, 0))) (hv : v.oneCell' = true) (hn : n ≤ 100000) :
    ∃ v' w', (Builtin.append_ #[22, 22] ty #[lv, .slice (some ⟨g, 0, none⟩) 1 1]).run Tryd.prog W = .ok v' w' ∧ w'.ownsRow 0 29 1 v' (n + 1) (vals ++ [v]) ∧ W.grownBy w' lv.ownBlock ∧ (v'.ownBlock = lv.ownBlock ∨ v'.ownBlock = some W.heap.size) := by
  obtain ⟨i0, hi, hz0, hz1, hz2⟩ := info_parts info29
  obtain ⟨v1, w1, hr, h2, h3, _, h5⟩ := run_append_own_at (P := Tryd.prog) W 0 22 ty 29 i0 (.slice none 0 0) 1 24 Tryd.underlying22 hi hz0 hz1 hz2 rfl (by omega) lv n vals HO ⟨g, 0, none⟩ 1 1 [v] (by simp)
    (by
      intro j u hu
      match j, hu with
      | 0, hu =>
        simp at hu; subst hu
        have := cellB hg 0
        simpa [Addr.add] using this)
    (by intro u hu; simp at hu; subst hu; exact hv) (by simp only [maxLen]; omega) (by omega) (Nat.zero_le _)
  exact ⟨v1, w1, hr, h2, h3, h5⟩
theorem row_block {w : World} {base : Nat} {v : Value} {n : Nat} {xs : List Value} {e : TypeId} (h : w.ownsRow base e 1 v n xs) : ∃ A c, v = .slice A n c ∧ n ≤ c ∧ (∀ ad, A = some ad → ∃ g, ad = ⟨g, 0, none⟩ ∧ v.ownBlock = some g ∧ base ≤ g ∧ g < w.heap.size) := by
  rcases h.2 with ⟨rfl, rfl⟩ | ⟨g, cap, cur, rfl, hb, hg, hc, _⟩
  · exact ⟨_, _, rfl, Nat.le_refl _, fun ad e => by cases e⟩
  · exact ⟨_, _, rfl, hc, fun ad e => by cases e; exact ⟨g, rfl, rfl, hb, lt_of_get hg⟩⟩

theorem own_one {w : World} {base : Nat} {v : Value} {n : Nat} {xs : List Value} {e : TypeId} (h : w.ownsRow base e 1 v n xs) : v.oneCell' = true := by
  rcases h.2 with ⟨rfl, rfl⟩ | ⟨g, cap, cur, rfl, _⟩ <;> rfl
theorem mk1 {K : Act → World → Prop} {a : Act} {W : World} {v : Value} (h : ∀ w6, w6.heap[W.heap.size]? = some (.cells #[v] 29 (0, 0)) → Below W.heap.size W w6 → K a w6) : K a (W.alloc (.cells #[v] 29)) :=
  h _ (allocN W _) ((Below.refl _ _).alloc (Nat.le_refl _) _)
theorem TB_app {w2 w5 w10 : World} {t : Nat} {most : Int} {L : List (List ByteArray)} {lv v8 : Value} {mb : Nat} {vals : List Value} {rs : List Nat} {xs : List ByteArray} {A5 : Option Addr} {c5 : Nat}
    (h : TB w2 t most L lv mb vals rs) (hx : xs ∉ L) (hF : Fr (t :: mb :: lv.ownBlock.toList) w2 w10) (hs : w2.heap.size ≤ w5.heap.size) (hF5 : Fr (t :: mb :: lv.ownBlock.toList) w5 w10)
    (D10 : w10.heap[t]? = some (.cells #[.int .i64 most, v8, .map (some mb)] 45 (0, 0))) (O10 : w10.ownsRow 0 29 1 v8 (L.length + 1) (vals ++ [.slice A5 xs.length c5]))
    (hG : ∀ g, v8.ownBlock = some g → lv.ownBlock = some g ∨ w5.heap.size ≤ g) (hM : MapR ekS w10 mb (keysAt 0 (L ++ [xs]))) (hO5 : w5.ownsRow w2.heap.size 9 1 (.slice A5 xs.length c5) xs.length (encs Value.string xs)) :
    ∃ rs', TB w10 t most (L ++ [xs]) v8 mb (vals ++ [.slice A5 xs.length c5]) rs' ∧ (∀ k, k ∈ fpT t mb v8 rs' → k ∈ fpT t mb lv rs ∨ w2.heap.size ≤ k) := by
  obtain ⟨A, c, e5, hc5, hk5⟩ := row_block hO5
  obtain ⟨rfl, -, rfl⟩ : A5 = A ∧ True ∧ c5 = c := by simpa using e5
  have hlt := TA.lt ⟨lv, mb, vals, rs, h, rfl⟩
  have ht2 : t < w2.heap.size := hlt t (by simp [fpT])
  have hm2 : mb < w2.heap.size := hlt mb (by simp [fpT])
  have hg2 : ∀ g, lv.ownBlock = some g → g < w2.heap.size := fun g e => hlt g (by simp [fpT, e])
  have hvl : vals.length = L.length := by have := h.own.1; simpa using this
  obtain ⟨b5, hb5⟩ : ∃ b5, b5 = (Value.slice A5 xs.length c5).ownBlock.toList := ⟨_, rfl⟩
  have hb5m : ∀ k, k ∈ b5 → w2.heap.size ≤ k ∧ k < w5.heap.size := by
    intro k hk
    rw [hb5, Option.mem_toList] at hk
    cases A5 with
    | none => simp [Value.ownBlock] at hk
    | some ad =>
      obtain ⟨g, rfl, h2, h3, h4⟩ := hk5 ad rfl
      simp [Value.ownBlock] at hk
      omega
  refine ⟨rs ++ b5, ?_, ?_⟩
  · exact {
      blk := D10
      own := by rw [List.length_append]; exact O10
      map := hM
      rows := by
        intro i hi
        rw [List.length_append, List.length_singleton] at hi
        by_cases hil : i < L.length
        · obtain ⟨v, h1, h2⟩ := h.rows i hil
          refine ⟨v, by rw [List.getElem?_append_left (by omega)]; exact h1, ?_⟩
          rw [List.getElem_append_left hil]
          refine (h2.fr hF (fun k hk hh => ?_)).mono (fun k hk => List.mem_append_left _ hk)
          simp only [List.mem_cons, Option.mem_toList] at hh
          rcases hh with rfl | rfl | e
          · exact h.tr hk
          · exact h.mr hk
          · exact (h.gr k e).1 hk
        · obtain rfl : i = L.length := by omega
          refine ⟨_, by rw [← hvl]; simp; rfl, ?_⟩
          rw [List.getElem_append_right (Nat.le_refl _)]
          simp only [Nat.sub_self, List.getElem_cons_zero]
          refine ⟨A5, c5, rfl, hc5, ?_, ?_⟩
          · refine RS.fr (own_reads_of' hO5) hF5 (fun ad e h0 hh => ?_)
            obtain ⟨g, rfl, h2, h3, h4⟩ := hk5 ad e
            simp only [List.mem_cons, Option.mem_toList] at hh
            rcases hh with e | e | e
            · omega
            · omega
            · have := hg2 g e; omega
          · intro ad e _
            obtain ⟨g, rfl, h2, h3, h4⟩ := hk5 ad e
            rw [hb5, h2]; simp
      tr := by
        intro hh
        rcases List.mem_append.1 hh with e | e
        · exact h.tr e
        · have := hb5m t e; omega
      mr := by
        intro hh
        rcases List.mem_append.1 hh with e | e
        · exact h.mr e
        · have := hb5m mb e; omega
      tm := h.tm
      gr := by
        intro g e
        rcases hG g e with e2 | e2
        · obtain ⟨g1, g2, g3⟩ := h.gr g e2
          have := hg2 g e2
          refine ⟨fun hh => ?_, g2, g3⟩
          rcases List.mem_append.1 hh with e | e
          · exact g1 e
          · have := hb5m g e; omega
        · refine ⟨fun hh => ?_, by omega, by omega⟩
          rcases List.mem_append.1 hh with e | e
          · have := h.rl g e; omega
          · have := hb5m g e; omega
      rl := by
        intro k hk
        rcases List.mem_append.1 hk with e | e
        · have := h.rl k e; have := hF.size; omega
        · have := hb5m k e; have := hF5.size; omega
      nd := by
        refine List.nodup_append.2 ⟨h.nd, by simp, ?_⟩
        intro a ha b hb
        simp at hb
        subst hb
        rintro rfl
        exact hx ha }
  · intro k hk
    simp only [fpT, List.mem_cons, List.mem_append, Option.mem_toList] at hk ⊢
    rcases hk with rfl | rfl | hk | hk | hk
    · exact .inl (.inl rfl)
    · exact .inl (.inr (.inl rfl))
    · rcases hG k hk with e | e
      · exact .inl (.inr (.inr (.inl e)))
      · exact .inr (by omega)
    · exact .inl (.inr (.inr (.inr hk)))
    · exact .inr (hb5m k hk).1

def T8_11 : Bool × List (List Nat × List Nat) := (true, [([], []), ([], []), ([1], [1]), ([2], [2]), ([3], [3]), ([], []), ([5], [5]), ([6], [6]), ([4, 7, 6], [4, 7]), ([0, 0, 1, 2, 3, 4, 5, 6, 7, 8], [0]), ([9, 0, 1, 2, 3, 4, 5, 6, 7, 8], [9]), ([10, 8, 8, 0, 1, 2, 3, 4, 5, 6, 7, 8], [8, 10])])
def B8_11 : List Nat := [0, 0, 2, 6, 14, 0, 32, 96, 254, 511, 1023, 2047]
theorem tab8_11 : rtab .any (opsOf Tryd.f8 11) = T8_11 := by kernel_rfl
theorem bits8_11 : waitsOk T8_11.2 B8_11 = true := by kernel_rfl
def T8_12 : Bool × List (List Nat × List Nat) := (true, [([], []), ([0], [0]), ([1], [1]), ([2], [2]), ([], []), ([], []), ([5], [5]), ([6], [6]), ([7], [7]), ([8], [8]), ([3, 4, 9, 0, 1, 2, 3, 4, 5, 6, 7, 8, 9], [3, 4, 9])])
def B8_12 : List Nat := [0, 1, 3, 7, 0, 0, 32, 96, 224, 480, 1023]
theorem tab8_12 : rtab .any (opsOf Tryd.f8 12) = T8_12 := by kernel_rfl
theorem bits8_12 : waitsOk T8_12.2 B8_12 = true := by kernel_rfl
set_option maxRecDepth 100000 in
set_option maxHeartbeats 4000000 in
theorem Of_q {w : World} {t : Nat} {most : Int} {L : List (List ByteArray)} {fp : List Nat} (h : TA w t most L fp) (A : Option Addr) (c : Nat) (xs : List ByteArray) (hr : RS w A xs.length xs) (hx : xs.length ≤ 16) (hb : tot xs ≤ 1048576) (ht : tabP w) (hL : L.length ≤ 1000) :
    Calls Tryd.prog 8 #[.pointer (some ⟨t, 0, none⟩), .slice A xs.length c] w fun e w' => e = .returned (.tuple #[.int .i64 (ofN most L xs), .int .i64 0]) ∧ ∃ fp', TA w' t most (ofL most L xs) fp' ∧ Fr fp w w' ∧ (∀ k, k ∈ fp' → k ∈ fp ∨ w.heap.size ≤ k) := by
  obtain ⟨lv, mb, vals, rs, h1, rfl⟩ := h
  have R := Lib.hid hr; clear hr
  have HT := Lib.hid ht; clear ht
  have H0 := Lib.hid h1; clear h1
  have hxi : (xs.length : Int) ≤ 16 := by omega
  go_enter Tryd.func8, Tryd.ntmps8
  go_wp2_with fail
  refine (key_c _ A c xs R.out (by omega) hb HT.out).mono ?_
  rintro e w1 ⟨rfl, hB⟩
  have F1 : Hid (Fr [] w w1) := Fr.of_below hB [] (Nat.le_refl _)
  have R1 : Hid (RS w1 A xs.length xs) := R.out.below hB
  have H1 : Hid (TB w1 t most L lv mb vals rs) := H0.out.fr F1.out (by simp)
  obtain ⟨Al, cl, hlv, hlc⟩ := own_form H0.out.own
  have HLV := Lib.hid hlv; clear hlv
  have hlk0 := H1.out.map.lookup_ok KBs Tryd.underlying43 (zero3 w1) (keyB xs)
  have hlk1 : (Instr.lookup 43 (.map (some mb)) (ekS (keyB xs)) true).run Tryd.prog w1 = .ok (.tuple #[(lookB (keysAt 0 L) (keyB xs)).getD (.int .i64 0), .bool (lookB (keysAt 0 L) (keyB xs)).isSome]) w1 := hlk0
  rw [keysAt_lookup] at hlk1
  clear hlk0 hB R
  have c0 : w1.cell? ⟨t, 0, none⟩ = some (.int .i64 most) := cellB H1.out.blk 0
  have c1 : w1.cell? ⟨t, 1, none⟩ = some (.slice Al L.length cl) := by rw [← HLV.out]; exact cellB H1.out.blk 1
  have c2 : w1.cell? ⟨t, 2, none⟩ = some (.map (some mb)) := cellB H1.out.blk 2
  cases hp : posL L xs with
  | some i =>
    rw [hp] at hlk1
    have hlk : (Instr.lookup 43 (.map (some mb)) (.string ⟨(keyL xs).toArray⟩) true).run Tryd.prog w1 = .ok (.tuple #[.int .i64 (((0 + i : Nat) : Int) + 1), .bool true]) w1 := hlk1
    have eN : Hid (ofN most L xs = (i : Int) + 1) := by show _ = _; unfold ofN; rw [hp]
    have eL : Hid (ofL most L xs = L) := by show _ = _; unfold ofL; rw [hp]
    clear hlk1 hp
    go_wp2_with fail
    go_ret2
    refine ⟨by rw [eN.out]; simp, fpT t mb lv rs, by rw [eL.out]; exact ⟨lv, mb, vals, rs, H1.out, rfl⟩, F1.out.mono (by simp), fun k hk => .inl hk⟩
  | none =>
    rw [hp] at hlk1
    have hlk : (Instr.lookup 43 (.map (some mb)) (.string ⟨(keyL xs).toArray⟩) true).run Tryd.prog w1 = .ok (.tuple #[.int .i64 0, .bool false]) w1 := hlk1
    clear hlk1
    have HP := Lib.hid hp; clear hp
    by_cases hf : most ≤ L.length
    · have eN : Hid (ofN most L xs = 0) := by show _ = _; unfold ofN; rw [HP.out]; exact if_pos hf
      have eL : Hid (ofL most L xs = L) := by show _ = _; unfold ofL; rw [HP.out]; exact if_pos hf
      have hd : decide (most ≤ (L.length : Int)) = true := by simpa using hf
      go_wp2_with fail
      go_quiet (fail)
      go_wp2_with fail
      go_ret2
      refine ⟨by rw [eN.out]; rfl, fpT t mb lv rs, by rw [eL.out]; exact ⟨lv, mb, vals, rs, H1.out.fr ((Fr.refl [] w1).drewN _) (by simp), rfl⟩, (F1.out.mono (by simp)).drewN _, fun k hk => .inl hk⟩
    · have eN : Hid (ofN most L xs = (L.length : Int) + 1) := by show _ = _; unfold ofN; rw [HP.out]; exact if_neg hf
      have eL : Hid (ofL most L xs = L ++ [xs]) := by show _ = _; unfold ofL; rw [HP.out]; exact if_neg hf
      have hd : decide (most ≤ (L.length : Int)) = false := by simpa using hf
      go_wp2_with fail
      go_quiet (fail)
      go_wp2_with fail
      clear c0 c1 c2 hlk hd hf
      generalize hgw : World.drewN w1 _ = w2
      have F2 : Hid (Fr [] w w2) := by rw [← hgw]; exact F1.out.drewN _
      have H2 : Hid (TB w2 t most L lv mb vals rs) := H0.out.fr F2.out (by simp)
      have R2 : Hid (RS w2 A xs.length xs) := by rw [← hgw]; exact R1.out.drewN _
      clear hgw
      have EC : Hid (∀ w', Below w2.heap.size w2 w' → w'.cell? ⟨t, 1, none⟩ = some (.slice Al L.length cl)) := fun w' h => pw_cell_below h (by rw [← HLV.out]; exact cellB H2.out.blk 1)
      refine start_ (n := 12) (S := (fun w' => Below w2.heap.size w2 w')) (ds := [8, 11]) #[false, false, false, false, false, false, false, false, false, false, false, false] (by kernel_rfl) (by rfl) (by rfl) (Below_drewN (Below.refl _ _) 1) (fun hHeld => ?_); refine with_tabW tab8_11 bits8_11 (fun HT_ HW_ => ?_)
      refine pure_ (i := 0) (N := some 39) (v := ?_) (a' := ?_) #[true, false, false, false, false, false, false, false, false, false, false, false] rfl rfl (any_of HT_.out (by kernel_rfl)) (fun _ _ _ h => h) (Or.inl ⟨by rfl, ?_⟩) ?_ ?_
      rotate_left
      · intro w'
        go_simp
        with_reducible rfl
      rotate_left
      · simp only [Act.put, List.setIfInBounds_toArray, List.set_cons_zero, List.set_cons_succ]
        rfl
      refine pure_ (i := 1) (N := some 40) (v := ?_) (a' := ?_) #[true, true, false, false, false, false, false, false, false, false, false, false] rfl rfl (any_of HT_.out (by kernel_rfl)) (fun _ _ _ h => h) (Or.inl ⟨by rfl, ?_⟩) ?_ ?_
      rotate_left
      · intro w'
        go_simp
        with_reducible rfl
      rotate_left
      · simp only [Act.put, List.setIfInBounds_toArray, List.set_cons_zero, List.set_cons_succ]
        rfl
      refine pure_ (i := 2) (N := some 41) (v := ?_) (a' := ?_) #[true, true, true, false, false, false, false, false, false, false, false, false] rfl rfl (any_of HT_.out (by kernel_rfl)) (fun _ _ _ h => h) (Or.inl ⟨by rfl, ?_⟩) ?_ ?_
      rotate_left
      · intro w'
        go_simp
        with_reducible rfl
      rotate_left
      · simp only [Act.put, List.setIfInBounds_toArray, List.set_cons_zero, List.set_cons_succ]
        rfl
      refine pure_ (i := 3) (N := some 42) (v := ?_) (a' := ?_) #[true, true, true, true, false, false, false, false, false, false, false, false] rfl rfl (any_of HT_.out (by kernel_rfl)) (fun _ _ _ h => h) (Or.inl ⟨by rfl, ?_⟩) ?_ ?_
      rotate_left
      · intro w'
        go_simp
        with_reducible rfl
      rotate_left
      · simp only [Act.put, List.setIfInBounds_toArray, List.set_cons_zero, List.set_cons_succ]
        rfl
      refine take_ (i := 4) (N := some 43) (v := ?_) (a' := ?_) #[true, true, true, true, true, false, false, false, false, false, false, false] rfl rfl (take_ofW HT_.out HW_.out (by kernel_rfl)) (fun _ _ _ h => h) (Or.inl ⟨by rfl, ?_⟩) hHeld ?_ ?_
      rotate_left
      · rintro w' hS; have s1 := EC.out w' hS
        go_simp
        with_reducible rfl
      rotate_left
      · simp only [Act.put, List.setIfInBounds_toArray, List.set_cons_zero, List.set_cons_succ]
        rfl
      refine pure_ (i := 5) (N := some 44) (v := ?_) (a' := ?_) #[true, true, true, true, true, true, false, false, false, false, false, false] rfl rfl (any_of HT_.out (by kernel_rfl)) (fun _ _ _ h => h) (Or.inl ⟨by rfl, ?_⟩) ?_ ?_
      rotate_left
      · intro w'
        go_simp
        with_reducible rfl
      rotate_left
      · simp only [Act.put, List.setIfInBounds_toArray, List.set_cons_zero, List.set_cons_succ]
        rfl
      refine one_ (i := 6) (N := some 45) #[true, true, true, true, true, true, true, false, false, false, false, false] rfl rfl (one_of HT_.out (by kernel_rfl)) (by decide) (fun K hK => ?_)
      rw [if_pos (by rfl)]
      go_simp
      go_at_call 17; refine (Clone_s _ A c xs (R2.out.below hHeld) (by omega)).mono ?_; rintro e w5 ⟨v5, rfl, hO5, hb⟩; obtain ⟨A5, c5, rfl, hc5, hbk5⟩ := row_block hO5; have HK5 := Lib.hid hbk5; have HC5 := Lib.hid hc5; clear hbk5 hc5; have HB5 := Lib.hid hHeld; have HO5 := Lib.hid hO5; have HBB := Lib.hid hb
      refine hK.out _ _ (hHeld.trans (hb.mono hHeld.size)) (fun hHeld => ?_)
      clear hK K
      refine one_ (i := 7) (N := some 46) #[true, true, true, true, true, true, true, true, false, false, false, false] rfl rfl (one_of HT_.out (by kernel_rfl)) (by decide) (fun K hK => ?_)
      rw [if_pos (by rfl)]
      go_simp
      refine mk1 ?_; intro w6 h6 hb6; have hb6' := hb6
      refine hK.out _ _ (hHeld.trans (hb6.mono hHeld.size)) (fun hHeld => ?_)
      clear hK K
      refine last_ (i := 8) (N := some 47) #[true, true, true, true, true, true, true, true, true, false, false, false] rfl rfl (one_of HT_.out (by kernel_rfl)) (by decide) (fun K hK => ?_)
      obtain ⟨v8, w8, h8, hO8, hG8, hB8⟩ := app_one w6 22 lv L.length vals (.slice A5 xs.length c5) w5.heap.size (own_fr H2.out.own (Fr.of_below hHeld [] (Nat.le_refl _)) (by simp)) h6 (own_one HO5.out) (by omega); obtain ⟨A8, c8, hv8, hc8⟩ := own_form hO8; have HS := Lib.hid hHeld; have HB6 := Lib.hid hb6; have HV8 := Lib.hid hv8; have HO8 := Lib.hid hO8; have HG8 := Lib.hid hG8; have HBK8 := Lib.hid hB8; clear hv8 hO8 hG8 hB8 hb6; have F8 : Hid (Fr lv.ownBlock.toList w2 w8) := Fr.grown (Fr.of_below HS.out _ (Nat.le_refl _)) HG8.out (fun k hk => .inl (by rw [hk]; simp)); have D8 : Hid (w8.heap[t]? = some (.cells #[.int .i64 most, lv, .map (some mb)] 45 (0, 0))) := F8.out.get H2.out.blk (by (intro hh; simp only [Option.mem_toList] at hh; exact (H2.out.gr t hh).2.1 rfl)); have d1 := cellB D8.out 1; have f1 := frozenB D8.out 1; refine step_app (by rfl) _ _ _ _ rfl _ _ (by rw [← HLV.out]; rfl) rfl h8 ?_; rw [HV8.out]
      refine hK.out _ _ ?_
      clear hK K
      refine pure_ (i := 9) (N := some 48) (v := ?_) (a' := ?_) #[true, true, true, true, true, true, true, true, true, true, false, false] rfl rfl (any_of HT_.out (by kernel_rfl)) (fun _ _ _ h => h) (Or.inl ⟨by rfl, ?_⟩) ?_ ?_
      rotate_left
      · intro w'
        go_simp
        with_reducible rfl
      rotate_left
      · simp only [Act.put, List.setIfInBounds_toArray, List.set_cons_zero, List.set_cons_succ]
        rfl
      refine pure_ (i := 10) (N := some 49) (v := ?_) (a' := ?_) #[true, true, true, true, true, true, true, true, true, true, true, false] rfl rfl (any_of HT_.out (by kernel_rfl)) (fun _ _ _ h => h) (Or.inl ⟨by rfl, ?_⟩) ?_ ?_
      rotate_left
      · intro w'
        go_simp
        with_reducible rfl
      rotate_left
      · simp only [Act.put, List.setIfInBounds_toArray, List.set_cons_zero, List.set_cons_succ]
        rfl
      refine last_ (i := 11) (N := none) #[true, true, true, true, true, true, true, true, true, true, true, true] rfl rfl (one_of HT_.out (by kernel_rfl)) (by decide) (fun K hK => ?_)
      rw [if_pos (by rfl)]
      go_simp
      refine hK.out _ _ ?_
      clear hK K
      refine done_ (done_of HT_.out (by kernel_rfl)) ?_
      clear HT_ HW_ hHeld
      generalize hgw : World.setCell w8 _ _ = w9
      have F9 : Hid (Fr (t :: lv.ownBlock.toList) w2 w9) := by rw [← hgw]; exact (F8.out.mono (fun k hk => by simp at hk ⊢; exact .inr hk)).setCell (p := ⟨t, 1, none⟩) (.inl (by simp)) _
      have D9 : Hid (w9.heap[t]? = some (.cells #[.int .i64 most, .slice A8 (L.length + 1) c8, .map (some mb)] 45 (0, 0))) := by rw [← hgw]; exact setB D8.out 1 (.slice A8 (L.length + 1) c8)
      have F89 : Hid (Fr [t] w8 w9) := by rw [← hgw]; exact (Fr.refl [t] w8).setCell (p := ⟨t, 1, none⟩) (.inl (by simp)) _
      clear hgw d1 f1
      have M9 : Hid (MapR ekS w9 mb (keysAt 0 L)) := H2.out.map.fr F9.out (by
        intro hh
        rcases List.mem_cons.1 hh with e | e
        · exact H2.out.tm e.symm
        · simp only [Option.mem_toList] at e; exact (H2.out.gr mb e).2.2 rfl)
      have hlt2 : Hid (∀ k, k ∈ fpT t mb lv rs → k < w2.heap.size) := Lib.hid (TA.lt ⟨lv, mb, vals, rs, H2.out, rfl⟩)
      have hs6 : Hid (w2.heap.size ≤ w5.heap.size ∧ w5.heap.size < w6.heap.size) := ⟨Nat.le_trans HB5.out.size HBB.out.size, lt_of_get h6⟩
      have hs8 : Hid (w6.heap.size ≤ w8.heap.size) := HG8.out.size
      have G8 : Hid (∀ g, (Value.slice A8 (L.length + 1) c8).ownBlock = some g → lv.ownBlock = some g ∨ w6.heap.size = g) := fun g e => by
        rw [← HV8.out] at e
        rcases HBK8.out with h | h
        · exact .inl (by rw [← h]; exact e)
        · rw [h] at e; exact .inr (by simpa using e)
      have O9 : Hid (w9.ownsRow 0 29 1 (.slice A8 (L.length + 1) c8) (L.length + 1) (vals ++ [.slice A5 xs.length c5])) := by
        have := HO8.out; rw [HV8.out] at this
        refine own_fr this F89.out (fun g e hh => ?_)
        have hgt : g = t := by simpa using hh
        rcases G8.out g e with e2 | e2
        · exact (H2.out.gr g e2).2.1 hgt
        · have := hlt2.out t (by simp [fpT]); have := hs6.out; omega
      go_wp2_with fail
      have E9 : Hid (∀ w', Below w9.heap.size w9 w' → w'.cell? ⟨t, 1, none⟩ = some (.slice A8 (L.length + 1) c8) ∧ w'.cell? ⟨t, 2, none⟩ = some (.map (some mb))) := fun w' h => ⟨pw_cell_below h (cellB D9.out 1), pw_cell_below h (cellB D9.out 2)⟩
      refine start_ (n := 11) (S := (fun w' => Below w9.heap.size w9 w')) (ds := [10]) #[false, false, false, false, false, false, false, false, false, false, false] (by kernel_rfl) (by rfl) (by rfl) (Below_drewN (Below.refl _ _) 1) (fun hHeld => ?_); refine with_tabW tab8_12 bits8_12 (fun HT_ HW_ => ?_)
      refine pure_ (i := 0) (N := some 50) (v := ?_) (a' := ?_) #[true, false, false, false, false, false, false, false, false, false, false] rfl rfl (any_of HT_.out (by kernel_rfl)) (fun _ _ _ h => h) (Or.inl ⟨by rfl, ?_⟩) ?_ ?_
      rotate_left
      · intro w'
        go_simp
        with_reducible rfl
      rotate_left
      · simp only [Act.put, List.setIfInBounds_toArray, List.set_cons_zero, List.set_cons_succ]
        rfl
      refine pure_ (i := 1) (N := some 51) (v := ?_) (a' := ?_) #[true, true, false, false, false, false, false, false, false, false, false] rfl rfl (any_of HT_.out (by kernel_rfl)) (fun _ _ _ h => h) (Or.inl ⟨by rfl, ?_⟩) ?_ ?_
      rotate_left
      · intro w'
        go_simp
        with_reducible rfl
      rotate_left
      · simp only [Act.put, List.setIfInBounds_toArray, List.set_cons_zero, List.set_cons_succ]
        rfl
      refine pure_ (i := 2) (N := some 52) (v := ?_) (a' := ?_) #[true, true, true, false, false, false, false, false, false, false, false] rfl rfl (any_of HT_.out (by kernel_rfl)) (fun _ _ _ h => h) (Or.inl ⟨by rfl, ?_⟩) ?_ ?_
      rotate_left
      · intro w'
        go_simp
        with_reducible rfl
      rotate_left
      · simp only [Act.put, List.setIfInBounds_toArray, List.set_cons_zero, List.set_cons_succ]
        rfl
      refine take_ (i := 3) (N := some 53) (v := ?_) (a' := ?_) #[true, true, true, true, false, false, false, false, false, false, false] rfl rfl (take_ofW HT_.out HW_.out (by kernel_rfl)) (fun _ _ _ h => h) (Or.inl ⟨by rfl, ?_⟩) hHeld ?_ ?_
      rotate_left
      · rintro w' hS; obtain ⟨s1, s2⟩ := E9.out w' hS
        go_simp
        with_reducible rfl
      rotate_left
      · simp only [Act.put, List.setIfInBounds_toArray, List.set_cons_zero, List.set_cons_succ]
        rfl
      refine pure_ (i := 4) (N := some 54) (v := ?_) (a' := ?_) #[true, true, true, true, true, false, false, false, false, false, false] rfl rfl (any_of HT_.out (by kernel_rfl)) (fun _ _ _ h => h) (Or.inl ⟨by rfl, ?_⟩) ?_ ?_
      rotate_left
      · intro w'
        go_simp
        with_reducible rfl
      rotate_left
      · simp only [Act.put, List.setIfInBounds_toArray, List.set_cons_zero, List.set_cons_succ]
        rfl
      refine pure_ (i := 5) (N := some 55) (v := ?_) (a' := ?_) #[true, true, true, true, true, true, false, false, false, false, false] rfl rfl (any_of HT_.out (by kernel_rfl)) (fun _ _ _ h => h) (Or.inl ⟨by rfl, ?_⟩) ?_ ?_
      rotate_left
      · intro w'
        go_simp
        with_reducible rfl
      rotate_left
      · simp only [Act.put, List.setIfInBounds_toArray, List.set_cons_zero, List.set_cons_succ]
        rfl
      refine pure_ (i := 6) (N := some 56) (v := ?_) (a' := ?_) #[true, true, true, true, true, true, true, false, false, false, false] rfl rfl (any_of HT_.out (by kernel_rfl)) (fun _ _ _ h => h) (Or.inl ⟨by rfl, ?_⟩) ?_ ?_
      rotate_left
      · intro w'
        go_simp
        with_reducible rfl
      rotate_left
      · simp only [Act.put, List.setIfInBounds_toArray, List.set_cons_zero, List.set_cons_succ]
        rfl
      refine pure_ (i := 7) (N := some 57) (v := ?_) (a' := ?_) #[true, true, true, true, true, true, true, true, false, false, false] rfl rfl (any_of HT_.out (by kernel_rfl)) (fun _ _ _ h => h) (Or.inl ⟨by rfl, ?_⟩) ?_ ?_
      rotate_left
      · intro w'
        go_simp
        with_reducible rfl
      rotate_left
      · simp only [Act.put, List.setIfInBounds_toArray, List.set_cons_zero, List.set_cons_succ]
        rfl
      refine take_ (i := 8) (N := some 58) (v := ?_) (a' := ?_) #[true, true, true, true, true, true, true, true, true, false, false] rfl rfl (take_ofW HT_.out HW_.out (by kernel_rfl)) (fun _ _ _ h => h) (Or.inl ⟨by rfl, ?_⟩) hHeld ?_ ?_
      rotate_left
      · rintro w' hS; obtain ⟨s1, s2⟩ := E9.out w' hS
        go_simp
        with_reducible rfl
      rotate_left
      · simp only [Act.put, List.setIfInBounds_toArray, List.set_cons_zero, List.set_cons_succ]
        rfl
      refine pure_ (i := 9) (N := some 59) (v := ?_) (a' := ?_) #[true, true, true, true, true, true, true, true, true, true, false] rfl rfl (any_of HT_.out (by kernel_rfl)) (fun _ _ _ h => h) (Or.inl ⟨by rfl, ?_⟩) ?_ ?_
      rotate_left
      · intro w'
        go_simp
        with_reducible rfl
      rotate_left
      · simp only [Act.put, List.setIfInBounds_toArray, List.set_cons_zero, List.set_cons_succ]
        rfl
      refine last_ (i := 10) (N := none) #[true, true, true, true, true, true, true, true, true, true, true] rfl rfl (one_of HT_.out (by kernel_rfl)) (by decide) (fun K hK => ?_)
      obtain ⟨w10, h10, hM10, hF10⟩ := MapR.update KBs (M9.out.fr (Fr.of_below hHeld [] (Nat.le_refl _)) (by simp)) Tryd.underlying43 (keyB xs) (.int .i64 ((L.length : Int) + 1)); have h10' : (Instr.mapUpdate 43 (.map (some mb)) (.string ⟨(keyL xs).toArray⟩) (.int .i64 ((L.length : Int) + 1))).run Tryd.prog w9.drew = .ok () w10 := h10; have HM10 := Lib.hid hM10; have HF10 := Lib.hid hF10; clear h10 hM10 hF10; rw [if_pos (by rfl)]; go_simp
      refine hK.out _ _ ?_
      clear hK K
      refine done_ (done_of HT_.out (by kernel_rfl)) ?_
      clear HT_ HW_ hHeld
      have F10 : Hid (Fr [mb] w9 w10) := (((Fr.refl [] w9).drew).mono (by simp)).trans HF10.out
      have D10 : Hid (w10.heap[t]? = some (.cells #[.int .i64 most, .slice A8 (L.length + 1) c8, .map (some mb)] 45 (0, 0))) := F10.out.get D9.out (by simp; exact H2.out.tm)
      have d1 := cellB D10.out 1
      clear h10'
      go_wp2_with fail
      go_ret2
      have FF : Hid (Fr (t :: mb :: lv.ownBlock.toList) w9 w10) := F10.out.mono (by simp)
      have F5 : Hid (Fr (t :: mb :: lv.ownBlock.toList) w5 w9) := by
        refine Fr.trans (b := w8) ?_ (F89.out.mono (by simp))
        exact Fr.grown (Fr.of_below hb6' _ (Nat.le_refl _)) HG8.out (fun k hk => .inl (by rw [hk]; simp))
      obtain ⟨rs', hTB, hsub⟩ := TB_app (xs := xs) (w5 := w5) (w10 := w10) H2.out (posL_none.1 HP.out) ((F9.out.mono (by (intro k hk; simp at hk ⊢; rcases hk with h | h; exact .inl h; exact .inr (.inr h)))).trans FF.out) hs6.out.1 (F5.out.trans FF.out) D10.out
        (own_fr O9.out F10.out (fun g e hh => by
          have hgm : g = mb := by simpa using hh
          rcases G8.out g e with e2 | e2
          · exact (H2.out.gr g e2).2.2 hgm
          · have := hlt2.out mb (by simp [fpT]); have := hs6.out; omega))
        (fun g e => by
          rcases G8.out g e with e2 | e2
          · exact .inl e2
          · exact .inr (by have := hs6.out; omega)) (by rw [← keysAt_snoc L xs (posL_none.1 HP.out)]; exact HM10.out) HO5.out
      refine ⟨by rw [eN.out]; rfl, fpT t mb (.slice A8 (L.length + 1) c8) rs', by rw [eL.out]; exact ⟨_, mb, _, rs', hTB, rfl⟩, ?_, fun k hk => ?_⟩
      · refine (F2.out.mono (by simp)).trans ((F9.out.mono ?_).trans (FF.out.mono ?_))
        · intro k hk; simp [fpT] at hk ⊢; rcases hk with h | h; exact .inl h; exact .inr (.inr (.inl h))
        · intro k hk; simp [fpT] at hk ⊢; rcases hk with h | h | h; exact .inl h; exact .inr (.inl h); exact .inr (.inr (.inl h))
      · rcases hsub k hk with h | h
        · exact .inl h
        · exact .inr (Nat.le_trans F2.out.size h)
end Go.Proofs.YtkmfgacfccgdcaaDoor.Sr
