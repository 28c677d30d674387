/- appends of bytes onto a new, empty row; onto bytes of the call's own, an empty source too. ValueBytes: the law's walk. -/
import Derived.Test.YtcglhpagimkajaaDoorMgValueBytes11
import Derived.Deep.Upon
import Derived.Test.YtcglhpagimkajaaDoorMgValueBytes8
import Derived.Lib.SliceRun
import Derived.Deep.Cut
import Derived.Deep.DeepCutAuto
set_option linter.unusedVariables false
set_option linter.unusedSimpArgs false
namespace Go.Proofs.YtcglhpagimkajaaDoor.Vl
open Go.RowKit Go.Proofs.YtcglhpagimkajaaDoor.B0 Go.Proofs.YtcglhpagimkajaaDoor.Pv Go.Proofs.YtcglhpagimkajaaDoorW.PrintWords

theorem app_none (W : World) (ty : TypeId) (base : Nat) (v : Value) (xs : List Int) (A : Option Addr) (c : Nat) (HO : OB W base v xs) :
    (Builtin.append_ #[40, 40] ty #[v, .slice A 0 c]).run Tryd.prog W = .ok v W := by
  obtain ⟨i0, hi, hz0, hz1, hz2⟩ := info_parts Vl.info5
  obtain ⟨A1, c1, rfl, hc, _⟩ := HO.cap
  refine run_append_nothing W 40 40 ty 5 i0 Tryd.underlying40 hi A1 xs.length c1 hc _ ?_
  cases A with
  | none => exact Src.ofNil W Tryd.underlying40 c
  | some a => exact Src.ofSlice W Tryd.underlying40 a 0 c [] (by simp) (by intro j u h; simp at h) (by intro u h; cases h)

theorem app_row0 (W : World) (ty : TypeId) (base : Nat) (v : Value) (xs ys : List Int) (A : Option Addr) (m c : Nat) (HO : OB W base v xs) (HR : ReadsInt W .u8 A m ys) (hb : base ≤ W.heap.size) (hl : xs.length + m ≤ 1000000) :
    ∃ v' w', (Builtin.append_ #[40, 40] ty #[v, .slice A m c]).run Tryd.prog W = .ok v' w' ∧ OB w' base v' (xs ++ ys) ∧ W.grownBy w' v.ownBlock := by
  rcases Nat.eq_zero_or_pos m with rfl | h0
  · obtain rfl : ys = [] := List.eq_nil_of_length_eq_zero HR.1
    refine ⟨v, W, app_none W ty base v xs A c HO, by rw [List.append_nil]; exact HO, ⟨rfl, rfl, rfl, Nat.le_refl _, fun _ _ _ => rfl⟩⟩
  · exact app_row W ty base v xs ys A m c HO HR h0 hb hl

theorem app_fresh (W : World) (ty : TypeId) (base g : Nat) (ys : List Int) (A : Option Addr) (m c : Nat) (HO : OB W base (.slice (some ⟨g, 0, none⟩) 0 0) []) (HR : ReadsInt W .u8 A m ys) (hb : base ≤ W.heap.size) (hl : m ≤ 1000000) :
    ∃ v' w', (Builtin.append_ #[40, 40] ty #[.slice (some ⟨g, 0, none⟩) 0 0, .slice A m c]).run Tryd.prog W = .ok v' w' ∧ OB w' base v' ys ∧ Below W.heap.size W w' := by
  rcases Nat.eq_zero_or_pos m with rfl | h0
  · obtain rfl : ys = [] := List.eq_nil_of_length_eq_zero HR.1
    exact ⟨_, W, app_none W ty base _ [] A c HO, HO, Below.refl _ _⟩
  · obtain ⟨v1, w1, h1, h2, _⟩ := app_row W ty base (.slice (some ⟨g, 0, none⟩) 0 0) [] ys A m c HO HR h0 hb (by simp; omega)
    obtain ⟨i0, hi, hz0, hz1, hz2⟩ := info_parts Vl.info5
    have hm : ys.length = m := HR.1
    obtain ⟨ad, rfl, _⟩ := HR.2.2 h0
    have hcells : ∀ j u, (nums .u8 ys)[j]? = some u → W.cell? (ad.add j) = some u := by
      intro j u hu
      have hj : j < ys.length := by
        rcases Nat.lt_or_ge j ys.length with h | h
        · exact h
        · simp [nums, List.getElem?_eq_none h] at hu
      obtain ⟨ad', h', hc⟩ := HR.2.2 (by omega)
      injection h' with h'
      subst h'
      have := hc j (by omega)
      simp [nums, List.getElem?_eq_getElem hj] at hu
      subst hu
      rw [this]
      simp [List.getD_eq_getElem?_getD, List.getElem?_eq_getElem hj]
    have hg := run_append_grow (P := Tryd.prog) W 40 ty 5 i0 (.int .u8 0) Tryd.underlying40 hi hz0 ⟨g, 0, none⟩ 0 0 [] (by simp) (by intro j v hj; simp at hj) ad m c (nums .u8 ys) (by rw [hz1]; simp [nums, hm]) hcells (by omega) (by omega) (growslice_fits (by omega) (by rw [hz2]; omega))
    rw [hg] at h1
    injection h1 with e1 e2
    subst e1 e2
    refine ⟨_, _, hg, h2, (Below.refl _ W).drew.alloc (Nat.le_refl _) _⟩

/-- a new, empty row. -/
theorem mk0 {K : Act → World → Prop} {a : Act} {W : World} (base : Nat) (hb : base ≤ W.heap.size) (h : ∀ w9, OB w9 base (.slice (some ⟨W.heap.size, 0, none⟩) 0 0) [] → Below W.heap.size W w9 → K a w9) : K a (W.alloc (.cells #[] 5)) :=
  h _ (World.ownsRow_made W #[] 0 hb (Nat.zero_le _) (by simp)) ((Below.refl _ _).alloc (Nat.le_refl _) _)
theorem bytesOf_strOf {l : List Int} : True := trivial
end Go.Proofs.YtcglhpagimkajaaDoor.Vl
set_option linter.unusedVariables false
set_option linter.unusedSimpArgs false
namespace Go.Proofs.YtcglhpagimkajaaDoor.valueBytes
open Go.RowKit Go.Proofs.YtcglhpagimkajaaDoor.B0 Go.Proofs.YtcglhpagimkajaaDoor.Pv Go.Proofs.YtcglhpagimkajaaDoorW.PrintWords Go.Proofs.YtcglhpagimkajaaDoorW.PrintLast Go.Proofs.YtcglhpagimkajaaDoor.Vl Go.Proofs.YtcglhpagimkajaaDoor.Kn
attribute [local go_sem high] eqA23

def va (y : S23) : Va := ⟨y.f0, y.f1, y.f2⟩
theorem i64_wf {a : Int} (h : (Lit.int .i64 a).wf = true) : -9223372036854775808 ≤ a ∧ a ≤ 9223372036854775807 := by
  have h : IntKind.i64.min ≤ a ∧ a ≤ IntKind.i64.max := by simpa [Lit.wf] using h
  rw [show IntKind.i64.min = -9223372036854775808 from by decide, show IntKind.i64.max = 9223372036854775807 from by decide] at h
  exact h
theorem u8_wf {a : Int} (h : (Lit.int .u8 a).wf = true) : 0 ≤ a ∧ a ≤ 255 := by
  have h : IntKind.u8.min ≤ a ∧ a ≤ IntKind.u8.max := by simpa [Lit.wf] using h
  rw [show IntKind.u8.min = 0 from by decide, show IntKind.u8.max = 255 from by decide] at h
  exact h
theorem box1 {w wa : World} {o0 : Obj} (h : Below (w.alloc o0).heap.size (w.alloc o0) wa) : wa.heap[w.heap.size]? = some o0 := by
  rw [h.block _ (by rw [size_alloc]; omega), allocN]

theorem bytes_same (l : List Int) : tallyroomref01_Bytes.f l l = some true := by unfold tallyroomref01_Bytes.f; simp

def T6_5 : Bool × List (List Nat × List Nat) := (true, [([], []), ([0], [0]), ([], []), ([2, 1], [2]), ([1, 3], [1, 3])])
def B6_5 : List Nat := [0, 1, 0, 7, 15]
theorem tab6_5 : rtab .any (opsOf Tryd.f6 5) = T6_5 := by kernel_rfl
theorem bits6_5 : waitsOk T6_5.2 B6_5 = true := by kernel_rfl
def T6_8 : Bool × List (List Nat × List Nat) := (true, [([], []), ([], []), ([], []), ([1, 2], [1, 2]), ([], []), ([4, 3], [4]), ([3, 5, 5], [3, 5]), ([0, 6, 6], [0, 6]), ([7], [7])])
def B6_8 : List Nat := [0, 0, 0, 6, 0, 30, 62, 127, 255]
theorem tab6_8 : rtab .any (opsOf Tryd.f6 8) = T6_8 := by kernel_rfl
theorem bits6_8 : waitsOk T6_8.2 B6_8 = true := by kernel_rfl
set_option maxRecDepth 100000 in
set_option maxHeartbeats 4000000 in
theorem valueBytes_walk (w : World) (ht : tabP w) (a : S23) (csa : Array Value) (Ka : k23.K w a csa.toList) (Wa : W23 a) (A1 : Option Addr) (c1 : Nat) (l1 : List Int) (C1 : Kd.C (Kd.int .u8) w A1 l1.length l1) (hc1 : l1.length ≤ c1) (m1 : l1.length ≤ maxLen) (W1 : ∀ x ∈ l1, (Lit.int .u8 x).wf = true) (A2 : Option Addr) (c2 : Nat) (l2 : List Int) (C2 : Kd.C (Kd.int .u8) w A2 l2.length l2) (hc2 : l2.length ≤ c2) (m2 : l2.length ≤ maxLen) (W2 : ∀ x ∈ l2, (Lit.int .u8 x).wf = true) :
    Calls Tryd.prog 6 #[.agg csa, .slice A1 l1.length c1, .slice A2 l2.length c2] w fun e w' => e = .returned (.bool true) ∧ Below w.heap.size w w' := by
  have ea := k23_open Ka
  obtain rfl : csa = #[.int .i64 a.f0, .int .i64 a.f1, .string a.f2] := by cases csa; simpa using ea
  have hok : Hid (okV (va a)) := i64_wf Wa.2.1
  have HR1 : Hid (ReadsInt w .u8 A1 l1.length l1) := Kd.reads_of_C (enc := Value.int .u8) (d := (0 : Int)) (h1 := fun _ => rfl) C1
  have HR2 : Hid (ReadsInt w .u8 A2 l2.length l2) := Kd.reads_of_C (enc := Value.int .u8) (d := (0 : Int)) (h1 := fun _ => rfl) C2
  have HB2 : Hid (isBytes l2) := fun x hx => (by have := u8_wf (W2 x hx); omega)
  clear Ka Wa ea C1 W1 m1 C2 W2 m2
  have HC1 := Lib.hid hc1; clear hc1
  have HC2 := Lib.hid hc2; clear hc2
  have HT := Lib.hid ht; clear ht
  go_enter Tryd.func6, Tryd.ntmps6
  go_wp2_with fail
  refine (alive04 _ (HT.out.below ((Below.refl _ w).alloc (Nat.le_refl _) _) (Nat.le_refl _))).mono ?_
  rintro e wa ⟨rfl, hBa⟩
  have HB0 := Lib.hid (box1 hBa)
  have HBa : Hid (Below w.heap.size w wa) := ((Below.refl _ w).alloc (Nat.le_refl _) _) |>.trans (hBa.mono (by simp))
  clear hBa
  have EC : Hid (∀ w', Below wa.heap.size wa w' → w'.cell? ⟨w.heap.size, 0, none⟩ = some (.int .i64 a.f0) ∧ w'.cell? ⟨w.heap.size, 1, none⟩ = some (.int .i64 a.f1) ∧ w'.cell? ⟨w.heap.size, 2, none⟩ = some (.string a.f2)) := fun w' h => ⟨pw_cell_below h (cellB HB0.out 0), pw_cell_below h (cellB HB0.out 1), pw_cell_below h (cellB HB0.out 2)⟩
  obtain ⟨a0, a1, a2⟩ := EC.out wa (Below.refl _ _)
  by_cases h3 : (5000 : Int) < a.f2.size
  · go_wp2_with fail
    go_ret
    exact ⟨rfl, HBa.out⟩
  by_cases h1 : (100 : Int) < l1.length
  · go_wp2_with fail
    go_ret
    exact ⟨rfl, HBa.out⟩
  by_cases h2 : (5000 : Int) < l2.length
  · go_wp2_with fail
    go_ret
    exact ⟨rfl, HBa.out⟩
  have hd3 : decide ((5000 : Int) < a.f2.size) = false := by simpa using h3
  have hd1 : decide ((100 : Int) < l1.length) = false := by simpa using h1
  have hd2 : decide ((5000 : Int) < l2.length) = false := by simpa using h2
  go_upto_region 5 with fail
  clear a0 a1 a2
  go_cut [34] (fun s wx => s = .bool false ∧ Hid (Below wa.heap.size wa wx))
  case first =>
    refine start_ (n := 5) (S := (fun w' => Below wa.heap.size wa w')) (ds := []) #[false, false, false, false, false] (by kernel_rfl) (by rfl) (by rfl) (Below_drewN (Below.refl _ _) 1) (fun hHeld => ?_); refine with_tabW tab6_5 bits6_5 (fun HT_ HW_ => ?_)
    refine take_ (i := 0) (N := some 30) (v := ?_) (a' := ?_) #[true, false, false, false, false] rfl rfl (take_ofW HT_.out HW_.out (by kernel_rfl)) (fun _ _ _ h => h) (Or.inl ⟨by rfl, ?_⟩) hHeld ?_ ?_
    rotate_left
    · rintro w' hS; obtain ⟨s0, s1, s2⟩ := EC.out w' hS
      go_simp
      with_reducible rfl
    rotate_left
    · simp only [Act.put, List.setIfInBounds_toArray, List.set_cons_zero, List.set_cons_succ]
      rfl
    refine take_ (i := 2) (N := some 32) (v := ?_) (a' := ?_) #[true, false, true, false, false] rfl rfl (take_ofW HT_.out HW_.out (by kernel_rfl)) (fun _ _ _ h => h) (Or.inl ⟨by rfl, ?_⟩) hHeld ?_ ?_
    rotate_left
    · rintro w' hS; obtain ⟨s0, s1, s2⟩ := EC.out w' hS
      go_simp
      with_reducible rfl
    rotate_left
    · simp only [Act.put, List.setIfInBounds_toArray, List.set_cons_zero, List.set_cons_succ]
      rfl
    refine one_ (i := 1) (N := some 31) #[true, true, true, false, false] rfl rfl (one_of HT_.out (by kernel_rfl)) (by decide) (fun K hK => ?_)
    rw [if_pos (by rfl)]
    go_simp
    go_at_call 17; refine (Right_c (va a) _).mono ?_; rintro e w5 ⟨rfl, hb⟩
    refine hK.out _ _ (hHeld.trans (hb.mono hHeld.size)) (fun hHeld => ?_)
    clear hK K
    refine one_ (i := 3) (N := some 33) #[true, true, true, true, false] rfl rfl (one_of HT_.out (by kernel_rfl)) (by decide) (fun K hK => ?_)
    rw [if_pos (by rfl)]
    go_simp
    go_at_call 10; refine (RRight_c (va a) _).mono ?_; rintro e w6 ⟨rfl, hb⟩
    refine hK.out _ _ (hHeld.trans (hb.mono hHeld.size)) (fun hHeld => ?_)
    clear hK K
    refine pure_ (i := 4) (N := some 34) (v := ?_) (a' := ?_) #[true, true, true, true, true] rfl rfl (any_of HT_.out (by kernel_rfl)) (fun _ _ _ h => h) (Or.inl ⟨by rfl, ?_⟩) ?_ ?_
    rotate_left
    · intro w'
      go_simp
      with_reducible rfl
    rotate_left
    · simp only [Act.put, List.setIfInBounds_toArray, List.set_cons_zero, List.set_cons_succ]
      rfl
    refine done_ (done_of HT_.out (by kernel_rfl)) ?_
    clear HT_ HW_
    go_wp2_with fail; go_meet; exact ⟨by first | rfl | (simp; done), hHeld⟩
  case rest =>
    obtain ⟨rfl, hW⟩ := hcut
    obtain ⟨a0, a1, a2⟩ := EC.out wc hW.out
    have HR1' : Hid (ReadsInt wc .u8 A1 l1.length l1) := HR1.out.below (HBa.out.trans (hW.out.mono HBa.out.size))
    go_wp2_with fail
    refine (Put_c (va a) hok.out (by show a.f2.size ≤ 10000; omega) _ A1 c1 l1 HR1'.out (by omega)).mono ?_
    rintro e w2 ⟨v2, rfl, hO, hb⟩
    have G2 : Hid (Below wa.heap.size wa w2) := hW.out.trans (hb.mono hW.out.size)
    obtain ⟨bs, hbs⟩ : ∃ bs, Hid (bs = bytesV (va a)) := ⟨_, Lib.hid rfl⟩
    have hbl : bs.length ≤ 6000 := by have := bytesV_len (va a) hok.out (by show a.f2.size ≤ 10000; omega); have h2 : (va a).s.size = a.f2.size := rfl; rw [hbs.out]; omega
    rw [← hbs.out] at hO
    obtain ⟨ys, hys⟩ : ∃ ys, Hid (ys = l1 ++ bs) := ⟨_, Lib.hid rfl⟩
    rw [← hys.out] at hO
    have hyl : ys.length ≤ 7000 := by rw [hys.out]; simp; omega
    obtain ⟨A3, c3, rfl, hcap, hrd⟩ := hO.cap
    have R2 := Lib.hid hrd
    have HR12 : Hid (ReadsInt w2 .u8 A1 l1.length l1) := HR1'.out.below hb
    clear hb hO hrd a0 a1 a2 HR1'
    have hcap' := Lib.hid hcap; clear hcap
    go_upto_region 8 with fail
    go_cut [46] (fun s wx => s = .bool false ∧ Hid (Below wa.heap.size wa wx))
    case first =>
      refine start_ (n := 9) (S := (fun w' => Below w2.heap.size w2 w')) (ds := []) #[false, false, false, false, false, false, false, false, false] (by kernel_rfl) (by rfl) (by rfl) (Below_drewN (Below.refl _ _) 1) (fun hHeld => ?_); refine with_tabW tab6_8 bits6_8 (fun HT_ HW_ => ?_)
      refine pure_ (i := 0) (N := some 38) (v := ?_) (a' := ?_) #[true, false, false, false, false, false, false, false, false] rfl rfl (any_of HT_.out (by kernel_rfl)) (fun _ _ _ h => h) (Or.inl ⟨by rfl, ?_⟩) ?_ ?_
      rotate_left
      · intro w'
        go_simp
        with_reducible rfl
      rotate_left
      · simp only [Act.put, List.setIfInBounds_toArray, List.set_cons_zero, List.set_cons_succ]
        rfl
      refine pure_ (i := 2) (N := some 40) (v := ?_) (a' := ?_) #[true, false, true, false, false, false, false, false, false] rfl rfl (any_of HT_.out (by kernel_rfl)) (fun _ _ _ h => h) (Or.inl ⟨by rfl, ?_⟩) ?_ ?_
      rotate_left
      · intro w'
        go_simp
        with_reducible rfl
      rotate_left
      · simp only [Act.put, List.setIfInBounds_toArray, List.set_cons_zero, List.set_cons_succ]
        rfl
      refine take_ (i := 4) (N := some 42) (v := ?_) (a' := ?_) #[true, false, true, false, true, false, false, false, false] rfl rfl (take_ofW HT_.out HW_.out (by kernel_rfl)) (fun _ _ _ h => h) (Or.inl ⟨by rfl, ?_⟩) hHeld ?_ ?_
      rotate_left
      · rintro w' hS; obtain ⟨s0, s1, s2⟩ := EC.out w' (G2.out.trans (hS.mono G2.out.size))
        go_simp
        with_reducible rfl
      rotate_left
      · simp only [Act.put, List.setIfInBounds_toArray, List.set_cons_zero, List.set_cons_succ]
        rfl
      refine one_ (i := 1) (N := some 39) #[true, true, true, false, true, false, false, false, false] rfl rfl (one_of HT_.out (by kernel_rfl)) (by decide) (fun K hK => ?_)
      rw [if_pos (by rfl)]
      go_simp
      refine mk0 w2.heap.size hHeld.size ?_; intro w9 hO9 hb9
      refine hK.out _ _ (hHeld.trans (hb9.mono hHeld.size)) (fun hHeld => ?_)
      clear hK K
      refine one_ (i := 3) (N := some 41) #[true, true, true, true, true, false, false, false, false] rfl rfl (one_of HT_.out (by kernel_rfl)) (by decide) (fun K hK => ?_)
      obtain ⟨v4, w4, h4, hO4, hB4⟩ := app_fresh w9 40 w2.heap.size _ l1 A1 l1.length c1 hO9 (HR12.out.below hHeld) hHeld.size (by omega); refine step_app (by rfl) _ _ _ _ rfl _ _ rfl rfl h4 ?_
      refine hK.out _ _ (hHeld.trans (hB4.mono hHeld.size)) (fun hHeld => ?_)
      clear hK K
      refine one_ (i := 5) (N := some 43) #[true, true, true, true, true, true, false, false, false] rfl rfl (one_of HT_.out (by kernel_rfl)) (by decide) (fun K hK => ?_)
      rw [if_pos (by rfl)]
      go_simp
      go_at_call 20; refine (RBytes_c (va a) hok.out (by show a.f2.size ≤ 10000; omega) _).mono ?_; rintro e w5 ⟨v5, rfl, hO5, hb5⟩; rw [← hbs.out] at hO5; obtain ⟨A5, c5, rfl, hc5, hR5⟩ := hO5.cap; have hO4' := hO4.below hb5
      refine hK.out _ _ (hHeld.trans (hb5.mono hHeld.size)) (fun hHeld => ?_)
      clear hK K
      refine one_ (i := 6) (N := some 44) #[true, true, true, true, true, true, true, false, false] rfl rfl (one_of HT_.out (by kernel_rfl)) (by decide) (fun K hK => ?_)
      obtain ⟨v6, w6, h6, hO6, hG6⟩ := app_row0 w5 40 w2.heap.size v4 l1 bs A5 bs.length c5 hO4' hR5 hHeld.size (by omega); rw [← hys.out] at hO6; obtain ⟨A6, c6, rfl, hc6, hR6⟩ := hO6.cap; refine step_app (by rfl) _ _ _ _ rfl _ _ rfl rfl h6 ?_
      refine hK.out _ _ (hHeld.grown hG6 hHeld.size hO4'.own) (fun hHeld => ?_)
      clear hK K
      refine one_ (i := 7) (N := some 45) #[true, true, true, true, true, true, true, true, false] rfl rfl (one_of HT_.out (by kernel_rfl)) (by decide) (fun K hK => ?_)
      rw [if_pos (by rfl)]
      go_simp
      go_at_call 19; refine (tallyroomref01_Bytes.calls A3 c3 ys A6 c6 ys true _ (Kd.C_of_reads (R2.out.below hHeld)) hcap'.out (Kd.C_of_reads hR6) hc6 (bytes_same ys)).mono ?_; rintro e w7 ⟨rfl, hd⟩
      refine hK.out _ _ (hHeld.trans (hd.below.mono hHeld.size)) (fun hHeld => ?_)
      clear hK K
      refine pure_ (i := 8) (N := some 46) (v := ?_) (a' := ?_) #[true, true, true, true, true, true, true, true, true] rfl rfl (any_of HT_.out (by kernel_rfl)) (fun _ _ _ h => h) (Or.inl ⟨by rfl, ?_⟩) ?_ ?_
      rotate_left
      · intro w'
        go_simp
        with_reducible rfl
      rotate_left
      · simp only [Act.put, List.setIfInBounds_toArray, List.set_cons_zero, List.set_cons_succ]
        rfl
      refine done_ (done_of HT_.out (by kernel_rfl)) ?_
      clear HT_ HW_
      go_wp2_with fail; go_meet; exact ⟨by first | rfl | (simp; done), G2.out.trans (hHeld.mono G2.out.size)⟩
    case rest =>
      obtain ⟨rfl, hW2⟩ := hcut
      have HR2' : Hid (ReadsInt wc .u8 A2 l2.length l2) := HR2.out.below (HBa.out.trans (hW2.out.mono HBa.out.size))
      go_wp2_with fail
      refine (VGetV_c wc A2 c2 l2 HR2'.out HC2.out HB2.out (by omega)).mono ?_
      rintro e w8 ⟨rfl, hb⟩
      have G8 : Hid (Below wa.heap.size wa w8) := hW2.out.trans (hb.mono hW2.out.size)
      have HR8 : Hid (ReadsInt w8 .u8 A2 l2.length l2) := HR2'.out.below hb
      clear hb HR2'
      rcases hv : valG l2 with ⟨⟨k, n, s⟩, m, f⟩
      have HV := Lib.hid hv; clear hv
      unfold Va.c
      go_wp2_with fail
      refine (RGetV_c _ A2 c2 l2 (HR8.out.allocS _) HC2.out HB2.out (by omega)).mono ?_
      rintro e w9 ⟨rfl, hb⟩
      rw [HV.out]
      unfold Va.c
      have hx : Hid (w9.heap[w8.heap.size]? = some (.cells #[.int .i64 k, .int .i64 n, .string s] 26 (0, 0))) := (hb.block _ (by rw [size_alloc]; omega)).trans (allocN w8 _)
      have x0 := cellB hx.out 0
      have x1 := cellB hx.out 1
      have x2 := cellB hx.out 2
      have G9 : Hid (Below wa.heap.size wa w9) := (G8.out.alloc G8.out.size _).trans (hb.mono (by rw [size_alloc]; have := G8.out.size; omega))
      have hlt : w8.heap.size < w9.heap.size := by have := hb.size; rw [size_alloc] at this; omega
      clear hb
      go_wp2_with fail
      go_ret
      exact ⟨by first | rfl | (simp; done), HBa.out.trans ((G9.out.alloc G9.out.size _).mono HBa.out.size)⟩
end Go.Proofs.YtcglhpagimkajaaDoor.valueBytes
