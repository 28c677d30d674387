/- SeriesStays: the law's walk (arguments of at most 1048576 letters together). -/
import Derived.Test.YtkmfgacfccgdcaaDoorSr6
set_option linter.unusedVariables false
set_option linter.unusedSimpArgs false
namespace Go.Proofs.YtkmfgacfccgdcaaDoor.seriesStays
open Go.RowKit Go.Proofs.YtkmfgacfccgdcaaDoor.B0 Go.Proofs.YtkmfgacfccgdcaaDoor.Ps Go.Proofs.YtkmfgacfccgdcaaDoorW.PrintWords Go.Proofs.YtkmfgacfccgdcaaDoorW.PrintLast Go.Proofs.YtkmfgacfccgdcaaDoor.Bld Go.Proofs.YtkmfgacfccgdcaaDoor.Sr

theorem u8_wf {a : Int} (h : (Lit.int .u8 a).wf = true) : 0 ≤ a ∧ a ≤ 255 := by
  have h : IntKind.u8.min ≤ a ∧ a ≤ IntKind.u8.max := by simpa [Lit.wf] using h
  rw [show IntKind.u8.min = 0 from by decide, show IntKind.u8.max = 255 from by decide] at h
  exact h
theorem info3 : (Tryd.prog.info? 3).map (fun i => (i.zero, i.size, i.bytes)) = some (some (.int .i64 0), 1, 8) := by kernel_rfl
/-- an argument of lists of texts, row by row. -/
def RowsAt (w : World) (A : Option Addr) (l : List (List ByteArray)) : Prop := ∀ i (h : i < l.length), ∃ ad, A = some ad ∧ ∃ Ai ci, w.cell? (ad.add i) = some (.slice Ai l[i].length ci) ∧ l[i].length ≤ ci ∧ RS w Ai l[i].length l[i]
theorem rows_of_C {w : World} {A : Option Addr} {n : Nat} {l : List (List ByteArray)} (h : Kd.C (Kd.slice 9 Kd.string) w A n l) : RowsAt w A l := by
  intro i hi
  obtain ⟨h1, h2, h3⟩ := h
  obtain ⟨ad, e, hc⟩ := h3 (by omega)
  obtain ⟨c, hl, ⟨Ai, ci, rfl, hk, hC⟩, hcell⟩ := hc i _ (List.getElem?_eq_getElem hi)
  refine ⟨ad, e, Ai, ci, ?_, hk, Kd.reads_of_C (enc := Value.string) (d := ByteArray.empty) (h1 := fun _ => rfl) hC⟩
  have := hcell 0 _ rfl
  simpa [Kd.slice] using this
theorem RowsAt.fr {w w' : World} {A : Option Addr} {l : List (List ByteArray)} (h : RowsAt w A l) (hf : Fr [] w w') : RowsAt w' A l := by
  intro i hi
  obtain ⟨ad, e, Ai, ci, h1, h2, h3⟩ := h i hi
  have hlt : (ad.add i).block < w.heap.size := World.block_lt_of_cell? w _ h1
  exact ⟨ad, e, Ai, ci, by rw [World.cell?_of_block (hf.block _ hlt (by simp))]; exact h1, h2, h3.fr hf (by simp)⟩
theorem tot_le {l : List (List ByteArray)} (i : Nat) (h : i < l.length) : tot l[i] ≤ (l.map tot).sum := by
  induction l generalizing i with
  | nil => simp at h
  | cons x l ih =>
    cases i with
    | zero => simp
    | succ i => have := ih i (by simpa using h); simp at this ⊢; omega

/-- the table and the numbers' row, w the world at first. -/
def St (w wr : World) (t : Nat) (most : Int) (L : List (List ByteArray)) (av : Value) (ns : List Int) : Prop :=
  ∃ fp, TA wr t most L fp ∧ Fr [] w wr ∧ (∀ k, k ∈ fp → w.heap.size ≤ k) ∧ wr.ownsRow w.heap.size 3 1 av ns.length (nums .i64 ns) ∧ ∀ g, av.ownBlock = some g → g ∉ fp
theorem St.step {w w1 w2 : World} {t : Nat} {most : Int} {L L' : List (List ByteArray)} {av : Value} {ns : List Int} {fp : List Nat} (h1 : TA w1 t most L fp) (h2 : Fr [] w w1) (h3 : ∀ k, k ∈ fp → w.heap.size ≤ k) (h4 : w1.ownsRow w.heap.size 3 1 av ns.length (nums .i64 ns)) (h5 : ∀ g, av.ownBlock = some g → g ∉ fp)
    (hx : ∃ fp', TA w2 t most L' fp' ∧ Fr fp w1 w2 ∧ (∀ k, k ∈ fp' → k ∈ fp ∨ w1.heap.size ≤ k)) : St w w2 t most L' av ns := by
  obtain ⟨fp', k1, k2, k3⟩ := hx
  refine ⟨fp', k1, h2.trans' k2 (fun k hk => .inr (h3 k hk)), fun k hk => ?_, own_fr h4 k2 h5, fun g e hg => ?_⟩
  · rcases k3 k hk with h | h
    · exact h3 k h
    · have := h2.size; omega
  · rcases k3 g hg with h | h
    · exact h5 g e h
    · have := (World.ownsRow.lt h4 g e).2; omega
theorem St.ns_cell {w wr : World} {t : Nat} {most : Int} {L : List (List ByteArray)} {av : Value} {ns : List Int} (h : St w wr t most L av ns) : ∃ A c, av = .slice A ns.length c ∧ ns.length ≤ c ∧ ∀ i, i < ns.length → ∃ ad, A = some ad ∧ wr.cell? (ad.add i) = some (.int .i64 (ns.getD i 0)) := by
  obtain ⟨fp, _, _, _, h4, _⟩ := h
  obtain ⟨A, c, rfl, hc, hr⟩ := own_reads_of_le (enc := Value.int .i64) (d := (0 : Int)) (xs := ns) h4
  refine ⟨A, c, rfl, hc, fun i hi => ?_⟩
  obtain ⟨ad, e, h⟩ := hr.2.2 (by omega)
  exact ⟨ad, e, h i hi⟩

theorem St.ns_at {w wr : World} {t : Nat} {most : Int} {L : List (List ByteArray)} {A : Option Addr} {n c : Nat} {ns : List Int} (h : St w wr t most L (.slice A n c) ns) (i : Nat) (hi : i < ns.length) : ∃ ad, A = some ad ∧ wr.cell? (ad.add i) = some (.int .i64 (ns.getD i 0)) := by
  obtain ⟨A', c', e, hc, h2⟩ := h.ns_cell
  simp only [Value.slice.injEq] at e
  obtain ⟨rfl, rfl, rfl⟩ := e
  exact h2 i hi
theorem Same_r (w : World) (A0 : Option Addr) (c0 : Nat) (xs : List ByteArray) (A1 : Option Addr) (c1 : Nat) (ys : List ByteArray) (h0 : RS w A0 xs.length xs) (k0 : xs.length ≤ c0) (h1 : RS w A1 ys.length ys) (k1 : ys.length ≤ c1) (hl : xs.length ≤ 1000000) (b : Bool) (hb : decide (xs = ys) = b) :
    Calls Tryd.prog 9 #[.slice A0 xs.length c0, .slice A1 ys.length c1] w fun e w' => e = .returned (.bool b) ∧ ∃ m, w' = w.drewN m :=
  (tallyroomref20_Same.calls _ A0 c0 xs A1 c1 ys b w (Kd.C_of_reads h0) k0 (Kd.C_of_reads h1) k1 (by rw [same_f xs ys hl, hb])).mono fun e w' ⟨he, hd⟩ => ⟨he, hd.out⟩
theorem St.fr0 {w w1 w2 : World} {t : Nat} {most : Int} {L : List (List ByteArray)} {av : Value} {ns : List Int} (h : St w w1 t most L av ns) (hf : Fr [] w1 w2) : St w w2 t most L av ns := by
  obtain ⟨fp, t1, t2, t3, t4, t5⟩ := h
  exact ⟨fp, t1.fr hf (by simp), t2.trans hf, t3, own_fr t4 hf (by simp), t5⟩
theorem St.f {w w1 : World} {t : Nat} {most : Int} {L : List (List ByteArray)} {av : Value} {ns : List Int} (h : St w w1 t most L av ns) : Fr [] w w1 := h.choose_spec.2.1

set_option maxRecDepth 100000 in
set_option maxHeartbeats 8000000 in
theorem seriesStays_walk (w : World) (ht : tabP w) (a0 : Int) (w0 : (Lit.int .u8 a0).wf = true) (A1 : Option Addr) (c1 : Nat) (l1 : List (List ByteArray)) (C1 : Kd.C (Kd.slice 9 Kd.string) w A1 l1.length l1) (hc1 : l1.length ≤ c1) (m1 : l1.length ≤ maxLen) (W1 : ∀ x ∈ l1, x.length ≤ maxLen ∧ ∀ s ∈ x, s.size ≤ maxLen) (hb : (l1.map tot).sum ≤ 1048576) :
    Calls Tryd.prog 3 #[.int .u8 a0, .slice A1 l1.length c1] w fun e w' => e = .returned (.bool true) ∧ Below w.heap.size w w' := by
  have HR := Lib.hid (rows_of_C C1)
  obtain ⟨h0, h255⟩ := u8_wf w0
  have HB := Lib.hid hb
  have HT := Lib.hid ht
  clear C1 hc1 m1 W1 w0 hb ht
  go_enter Tryd.func3, Tryd.ntmps3
  go_wp2_with fail
  refine (alive20 w HT.out).mono ?_
  rintro e w1 ⟨rfl, hB1⟩
  have F1 : Hid (Fr [] w w1) := Fr.of_below hB1 [] (Nat.le_refl _)
  clear hB1
  by_cases h60 : (60 : Int) < l1.length
  · go_wp2_with fail
    go_ret
    exact ⟨rfl, F1.out.below⟩
  have hd60 : decide ((60 : Int) < l1.length) = false := by simpa using h60
  have hl60 : l1.length ≤ 60 := by omega
  clear h60
  go_wp2_with fail
  refine (New_c (1 + a0) w1 (by omega) (by omega)).mono ?_
  rintro e w2 ⟨t, fp, rfl, hT, hF, hn⟩
  have S0 : Hid (St w w2 t (1 + a0) (stL (1 + a0) [] (l1.take 0)) (.slice none 0 0) (atN (1 + a0) [] (l1.take 0))) := ⟨fp, hT, F1.out.trans hF, fun k hk => Nat.le_trans F1.out.size (hn k hk), World.ownsRow_nil _ _ _ _, fun g e => by simp [Value.ownBlock] at e⟩
  clear hT hF hn
  go_wp2_with fail
  go_loopw [8, 7] (fun iv av wr => ∃ (k : Nat) (v : Value), iv = .int .i64 k ∧ v = av ∧ k ≤ l1.length ∧ Hid (St w wr t (1 + a0) (stL (1 + a0) [] (l1.take k)) v (atN (1 + a0) [] (l1.take k))) ∧ Hid (∀ i (h : i < l1.length), i < k → l1[i].length ≤ 16)) (fun iv _ _ => l1.length - (intOf iv).toNat)
  case atStart => exact ⟨0, _, rfl, rfl, Nat.zero_le _, S0, Lib.hid (fun i _ h => absurd h (Nat.not_lt_zero i))⟩
  case round =>
    obtain ⟨k, av, rfl, rfl, hk, HS, H16⟩ := hrel
    by_cases hlt : k < l1.length
    · have hki : (k : Int) < l1.length := by omega
      obtain ⟨fp, t1, t2, t3, t4, t5⟩ := HS.out
      obtain ⟨ad, rfl, Ai, ci, hcell, hci, hR⟩ := HR.out.fr t2 k hlt
      obtain ⟨xs, hxs⟩ : ∃ xs, Hid (xs = l1[k]) := ⟨_, Lib.hid rfl⟩
      have htx : tot xs ≤ 1048576 := by rw [hxs.out]; exact Nat.le_trans (tot_le k hlt) HB.out
      have hts : Hid (l1.take (k + 1) = l1.take k ++ [xs]) := by rw [hxs.out]; exact List.take_succ_eq_append_getElem hlt
      have hls : Hid ((stL (1 + a0) [] (l1.take k)).length ≤ 1000) := by
        have := stL_len (1 + a0) (l1.take k) [] (by simp; omega)
        exact Lib.hid (by omega)
      rw [← hxs.out] at hcell hci hR
      have HRR := Lib.hid hR
      have T1 := Lib.hid t1; have T2 := Lib.hid t2; have T3 := Lib.hid t3; have T4 := Lib.hid t4; have T5 := Lib.hid t5
      clear hR t1 t2 t3 t4 t5 HS
      by_cases h16 : (16 : Int) < xs.length
      · go_wp2_with fail
        go_ret
        exact ⟨rfl, T2.out.below⟩
      · have hd16 : decide ((16 : Int) < xs.length) = false := by simpa using h16
        have hx16 : xs.length ≤ 16 := by omega
        go_wp2_with fail
        refine (Of_q T1.out Ai ci xs HRR.out hx16 htx (HT.out.below T2.out.below (Nat.le_refl _)) hls.out).mono ?_
        rintro e w3 ⟨rfl, hx⟩
        have S3 : Hid (St w w3 t (1 + a0) (stL (1 + a0) [] (l1.take (k + 1))) av (atN (1 + a0) [] (l1.take k))) := by
          rw [hts.out, stL_snoc]
          exact St.step T1.out T2.out T3.out T4.out T5.out hx
        obtain ⟨n, hn⟩ : ∃ n, Hid (n = ofN (1 + a0) (stL (1 + a0) [] (l1.take k)) xs) := ⟨_, Lib.hid rfl⟩
        have hat : Hid (atN (1 + a0) [] (l1.take (k + 1)) = atN (1 + a0) [] (l1.take k) ++ [n]) := Lib.hid (by rw [hts.out, atN_snoc, hn.out])
        obtain ⟨ns, hns⟩ : ∃ ns, Hid (ns = atN (1 + a0) [] (l1.take k)) := ⟨_, Lib.hid rfl⟩
        have hnl : ns.length = k := by rw [hns.out, atN_len, List.length_take]; omega
        rw [← hn.out]
        rw [← hns.out] at S3 hat
        clear hx T1 T3 T4 T5 hcell
        obtain ⟨fp3, t1, t2, t3, t4, t5⟩ := S3.out
        have T1 := Lib.hid t1; have T2 := Lib.hid t2; have T3 := Lib.hid t3; have T4 := Lib.hid t4; have T5 := Lib.hid t5
        clear t1 t2 t3 t4 t5 S3
        go_wp2_with (at_builtin; go_loud (refine print_append_num (w0 := w) w.heap.size rfl _ _ 28 3 .i64 8 rfl Tryd.underlying28 info3 (by decide) av ns n rfl rfl T4.out T2.out.below T2.out.size (by omega) ?_))
        intro v4 w4 k1 k2 k3 k4
        have S4 : Hid (St w w4 t (1 + a0) (stL (1 + a0) [] (l1.take (k + 1))) v4 (atN (1 + a0) [] (l1.take (k + 1)))) := by
          have kk : w4.ownsRow w.heap.size 3 1 v4 (ns ++ [n]).length (nums .i64 (ns ++ [n])) := by rw [List.length_append, hnl]; exact k1
          refine ⟨fp3, T1.out.fr (Fr.grown (F := av.ownBlock.toList) (Fr.refl _ _) k3 (fun g e => .inl (by rw [e]; simp))) ?_, Fr.of_below k2 [] (Nat.le_refl _), T3.out, by rw [hat.out]; exact kk, ?_⟩
          · intro b hb' hh
            simp only [Option.mem_toList] at hh
            exact T5.out b hh hb'
          · intro g e hg
            rcases k4 with h | ⟨b, h, hb'⟩
            · rw [h] at e; exact T5.out g e hg
            · rw [h] at e
              have := TA.lt T1.out g hg
              have : b = g := by simpa using e
              omega
        clear k1 k2 k3 k4
        go_wp2_with fail
        go_roundw
        case rel => 
          refine ⟨k + 1, v4, by go_num, rfl, by omega, S4, Lib.hid (fun i hi h => ?_)⟩
          by_cases hik : i < k
          · exact H16.out i hi hik
          · obtain rfl : i = k := by omega
            rw [← hxs.out]; exact hx16
        case measure => simp [intOf]; omega
    · obtain rfl : k = l1.length := by omega
      rw [List.take_length] at HS
      obtain ⟨LF, hLF⟩ : ∃ LF, Hid (LF = stL (1 + a0) [] l1) := ⟨_, Lib.hid rfl⟩
      obtain ⟨ns, hns⟩ : ∃ ns, Hid (ns = atN (1 + a0) [] l1) := ⟨_, Lib.hid rfl⟩
      have hnl1 : ns.length ≤ l1.length := by rw [hns.out, atN_len]; omega
      have hnl2 : l1.length ≤ ns.length := by rw [hns.out, atN_len]; omega
      have hst : Hid (∀ i (h : i < l1.length), ofN (1 + a0) LF l1[i] = ns.getD i 0 ∧ ofL (1 + a0) LF l1[i] = LF) := fun i h => by rw [hLF.out, hns.out]; exact stays (1 + a0) l1 [] i h
      have hLl : (LF.length : Int) ≤ 1 + a0 := by rw [hLF.out]; exact stL_len (1 + a0) l1 [] (by simp; omega)
      have hLs : Hid (∀ y, y ∈ LF → y ∈ l1) := fun y hy => by rw [hLF.out] at hy; rcases stL_sub (1 + a0) l1 [] y hy with h | h; simp at h; exact h
      rw [← hLF.out, ← hns.out] at HS
      clear hLF hns
      obtain ⟨Aa, ca, rfl, hca, -⟩ := HS.out.ns_cell
      have HCA := Lib.hid hca; clear hca
      have hLl3 : LF.length ≤ 1000 := by omega
      clear S0
      go_wp2_with fail
      go_loopw [11] (fun iv wr => ∃ k : Nat, iv = .int .i64 k ∧ k ≤ l1.length ∧ Hid (St w wr t (1 + a0) LF (.slice Aa ns.length ca) ns)) (fun iv _ => l1.length - (intOf iv).toNat)
      case atStart => exact ⟨0, rfl, Nat.zero_le _, HS⟩
      case round =>
        clear HS hk
        obtain ⟨k, rfl, hk, HS⟩ := hrel
        by_cases hlt : k < l1.length
        · have hki : (k : Int) < l1.length := by omega
          have hkn : (k : Int) < ns.length := by omega
          obtain ⟨fp, t1, t2, t3, t4, t5⟩ := HS.out
          obtain ⟨ad, rfl, Ai, ci, hcell, hci, hR⟩ := HR.out.fr t2 k hlt
          obtain ⟨xs, hxs⟩ : ∃ xs, Hid (xs = l1[k]) := ⟨_, Lib.hid rfl⟩
          have htx : tot xs ≤ 1048576 := by rw [hxs.out]; exact Nat.le_trans (tot_le k hlt) HB.out
          rw [← hxs.out] at hcell hci hR
          have HRR := Lib.hid hR
          have HCI := Lib.hid hci
          have T1 := Lib.hid t1; have T2 := Lib.hid t2; have T3 := Lib.hid t3; have T4 := Lib.hid t4; have T5 := Lib.hid t5
          obtain ⟨hs1, hs2⟩ := hst.out k hlt
          rw [← hxs.out] at hs1 hs2
          obtain ⟨n, hn⟩ : ∃ n, Hid (n = ns.getD k 0) := ⟨_, Lib.hid rfl⟩
          rw [← hn.out] at hs1
          have hrow : Hid (n = 0 ∨ ∃ i : Nat, n = (i : Int) + 1 ∧ LF[i]? = some xs) := by rw [← hs1]; exact num_row hs2
          have hrange := num_range hs2
          rw [hs1] at hrange
          have hn0 : 0 ≤ n := hrange.1
          have hn1 : n ≤ 1 + a0 := by omega
          have HS1 : Hid (ofN (1 + a0) LF xs = n ∧ ofL (1 + a0) LF xs = LF) := ⟨hs1, hs2⟩
          clear hR t1 t2 t3 t4 t5 HS hci hs1 hs2 hrange
          have hx16 : xs.length ≤ 16 := by rw [hxs.out]; exact H16.out k hlt hlt
          go_wp2_with fail
          refine (Of_q T1.out Ai ci xs HRR.out hx16 htx (HT.out.below T2.out.below (Nat.le_refl _)) hLl3).mono ?_
          rintro e w3 ⟨rfl, hx⟩
          rw [HS1.out.1]
          rw [HS1.out.2] at hx
          have S3 : Hid (St w w3 t (1 + a0) LF (.slice Aa ns.length ca) ns) := St.step T1.out T2.out T3.out T4.out T5.out hx
          clear hx T1 T3 T4 T5 hcell T2 HRR
          obtain ⟨ada, rfl, hcn⟩ := S3.out.ns_at k (by omega)
          rw [← hn.out] at hcn
          have hdn : decide (n < 0) = false := by simpa using hn0
          have hdn1 : decide (1 + a0 < n) = false := by simpa using hn1
          go_wp2_with fail
          clear hcn hdn hdn1
          go_loopw [14] (fun jv wr => ∃ j : Nat, jv = .int .i64 j ∧ j ≤ k ∧ Hid (St w wr t (1 + a0) LF (.slice (some ada) ns.length ca) ns)) (fun jv _ => k - (intOf jv).toNat)
          case atStart => exact ⟨0, rfl, Nat.zero_le _, S3⟩
          case round =>
            clear S3
            obtain ⟨j, rfl, hj, S3⟩ := hrel
            by_cases hjk : j < k
            · have hjki : (j : Int) < k := by omega
              have hjl : (j : Int) < l1.length := by omega
              have hjn : (j : Int) < ns.length := by omega
              obtain ⟨e1, e1h, hcn⟩ := S3.out.ns_at k (by omega)
              injection e1h with e1h; subst e1h
              obtain ⟨e1, e1h, hcm⟩ := S3.out.ns_at j (by omega)
              injection e1h with e1h; subst e1h
              rw [← hn.out] at hcn
              obtain ⟨m, hm⟩ : ∃ m, Hid (m = ns.getD j 0) := ⟨_, Lib.hid rfl⟩
              rw [← hm.out] at hcm
              by_cases hnp : 0 < n
              · by_cases hmp : 0 < m
                · obtain ⟨e1, e1h, Ax, cx, hcx, hkx, hRx⟩ := HR.out.fr S3.out.f k hlt
                  injection e1h with e1h; subst e1h
                  obtain ⟨e1, e1h, Ay, cy, hcy, hky, hRy⟩ := HR.out.fr S3.out.f j (by omega)
                  injection e1h with e1h; subst e1h
                  obtain ⟨ys, hys⟩ : ∃ ys, Hid (ys = l1[j]) := ⟨_, Lib.hid rfl⟩
                  rw [← hxs.out] at hcx hkx hRx
                  rw [← hys.out] at hcy hky hRy
                  obtain ⟨hs1, hs2⟩ := hst.out j (by omega)
                  rw [← hys.out, ← hm.out] at hs1
                  rw [← hys.out] at hs2
                  have hiff : Hid (n = m ↔ xs = ys) := Lib.hid (by rw [← HS1.out.1, ← hs1]; exact num_same HS1.out.2 hs2 (by rw [HS1.out.1]; exact hnp) (by rw [hs1]; exact hmp))
                  have HX := Lib.hid hRx; have HY := Lib.hid hRy; have HKX := Lib.hid hkx; have HKY := Lib.hid hky
                  have dn : decide (0 < n) = true := by simpa using hnp
                  have dm : decide (0 < m) = true := by simpa using hmp
                  clear hRx hRy hkx hky hs1 hs2
                  cases hb : decide (xs = ys) with
                  | true =>
                    have hnm : (n == m) = true := by rw [beq_iff_eq]; exact hiff.out.2 (by simpa using hb)
                    have HBB := Lib.hid hb; clear hb
                    go_wp2_with fail
                    go_quiet ((go_at_call 9; exact Calls.quiet_of (Same_r _ Ax cx xs Ay cy ys (HX.out.drewN _) HKX.out (HY.out.drewN _) HKY.out (by omega) true HBB.out)))
                    go_wp2_with fail
                    go_roundw
                    case rel => exact ⟨j + 1, by go_num, by omega, Lib.hid (S3.out.fr0 ((Fr.refl [] _).drewN _))⟩
                    case measure => simp [intOf]; omega
                  | false =>
                    have hnm : (n == m) = false := by rw [beq_eq_false_iff_ne]; exact fun h => by have := hiff.out.1 h; simp [this] at hb
                    have HBB := Lib.hid hb; clear hb
                    go_wp2_with fail
                    go_quiet ((go_at_call 9; exact Calls.quiet_of (Same_r _ Ax cx xs Ay cy ys (HX.out.drewN _) HKX.out (HY.out.drewN _) HKY.out (by omega) false HBB.out)))
                    go_wp2_with fail
                    go_roundw
                    case rel => exact ⟨j + 1, by go_num, by omega, Lib.hid (S3.out.fr0 ((Fr.refl [] _).drewN _))⟩
                    case measure => simp [intOf]; omega
                · have dn : decide (0 < n) = true := by simpa using hnp
                  have dm : decide (0 < m) = false := by simpa using hmp
                  go_wp2_with fail
                  go_quiet (fail)
                  go_wp2_with fail
                  go_roundw
                  case rel => exact ⟨j + 1, by go_num, by omega, Lib.hid (S3.out.fr0 ((Fr.refl [] _).drewN _))⟩
                  case measure => simp [intOf]; omega
              · have dn : decide (0 < n) = false := by simpa using hnp
                go_wp2_with fail
                go_quiet (fail)
                go_wp2_with fail
                go_roundw
                case rel => exact ⟨j + 1, by go_num, by omega, Lib.hid (S3.out.fr0 ((Fr.refl [] _).drewN _))⟩
                case measure => simp [intOf]; omega
            · obtain rfl : j = k := by omega
              obtain ⟨fp3, t1, t2, t3, t4, t5⟩ := S3.out
              have T1 := Lib.hid t1; have T2 := Lib.hid t2
              clear t1 t2 t3 t4 t5
              rcases hrow.out with h0 | ⟨i, hi, hLi⟩
              · subst h0
                go_wp2_with fail
                refine (Labels_0 T1.out).mono ?_
                rintro e w5 ⟨rfl, rfl⟩
                go_wp2_with fail
                go_roundw
                case rel => exact ⟨j + 1, by go_num, by omega, S3⟩
                case measure => simp [intOf]; omega
              · subst hi
                obtain ⟨hil, hLx⟩ := List.getElem?_eq_some_iff.1 hLi
                have hq := Labels_q T1.out i hil hLl3 (by rw [hLx]; omega)
                rw [hLx] at hq
                have HQ := Lib.hid hq
                clear hq hLi hLx
                have hd1 : decide (0 < (i : Int) + 1) = true := by (simp <;> omega)
                go_wp2_with fail
                refine HQ.out.mono ?_
                rintro e w5 ⟨A5, c5, rfl, hc5, hR5, hB5⟩
                have F5 : Hid (Fr [] w w5) := T2.out.trans (Fr.of_below hB5 [] (Nat.le_refl _))
                have S5 : Hid (St w w5 t (1 + a0) LF (.slice (some ada) ns.length ca) ns) := S3.out.fr0 (Fr.of_below hB5 [] (Nat.le_refl _))
                obtain ⟨e1, e1h, Ax, cx, hcx, hkx, hRx⟩ := HR.out.fr F5.out j hlt
                injection e1h with e1h; subst e1h
                rw [← hxs.out] at hcx hkx hRx
                have HX := Lib.hid hRx; have HKX := Lib.hid hkx; have H5 := Lib.hid hR5; have HC5 := Lib.hid hc5
                clear hRx hkx hR5 hc5 hB5
                go_wp2_with fail
                refine (Same_r w5 A5 c5 xs Ax cx xs H5.out HC5.out HX.out HKX.out (by omega) true (by simp)).mono ?_
                rintro e w6 ⟨rfl, mm, rfl⟩
                go_wp2_with fail
                go_roundw
                case rel => exact ⟨j + 1, by go_num, by omega, Lib.hid (S5.out.fr0 ((Fr.refl [] _).drewN _))⟩
                case measure => simp [intOf]; omega
        · obtain rfl : k = l1.length := by omega
          obtain ⟨fp, t1, t2, t3, t4, t5⟩ := HS.out
          have T1 := Lib.hid t1; have T2 := Lib.hid t2
          clear t1 t2 t3 t4 t5 HS
          go_wp2_with fail
          refine (Len_q T1.out).mono ?_
          rintro e w9 ⟨rfl, rfl⟩
          go_wp2_with fail
          go_ret
          exact ⟨by first | rfl | (simp; done) | (simp; omega), T2.out.below⟩
end Go.Proofs.YtkmfgacfccgdcaaDoor.seriesStays
