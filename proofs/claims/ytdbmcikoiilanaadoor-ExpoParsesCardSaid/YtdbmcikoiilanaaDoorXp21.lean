/- expo: the chapter's example holds. -/
import Derived.Test.YtdbmcikoiilanaaDoorXp20
import Derived.Test.YtdbmcikoiilanaaDoorExpoParsesV
set_option linter.unusedVariables false
set_option linter.unusedSimpArgs false
namespace Go.Proofs.YtdbmcikoiilanaaDoor.Xp
open Go.RowKit Go.Proofs.YtdbmcikoiilanaaDoor.B0 Go.Proofs.YtdbmcikoiilanaaDoorW.PrintWords Go.Proofs.YtdbmcikoiilanaaDoor.Bld Go.Proofs.YtdbmcikoiilanaaDoor.Pp Go.Proofs.YtdbmcikoiilanaaDoor.Kn

theorem kRow_mk (w : World) (x : SRow) (A0 A1 A2 : Option Addr) (c0 c1 c2 : Nat) (h0 : x.f0.length ≤ c0) (C0 : Kd.C Kd.string w A0 x.f0.length x.f0) (h1 : x.f5.length ≤ c1) (C1 : Kd.C k61 w A1 x.f5.length x.f5) (h2 : x.f6.length ≤ c2) (C2 : Kd.C k98 w A2 x.f6.length x.f6) :
    k70.K w x [.slice A0 x.f0.length c0, .bool x.f1, .int .u64 x.f2.f0, .bool x.f2.f1, .int .u64 x.f3.f0, .bool x.f3.f1, .int .u64 x.f4.f0, .bool x.f4.f1, .slice A1 x.f5.length c1, .slice A2 x.f6.length c2] :=
  ⟨[.slice A0 x.f0.length c0], _, rfl, ⟨A0, c0, rfl, h0, C0⟩, [.bool x.f1], _, rfl, rfl, [.int .u64 x.f2.f0, .bool x.f2.f1], _, rfl, k61_mk _ _, [.int .u64 x.f3.f0, .bool x.f3.f1], _, rfl, k61_mk _ _, [.int .u64 x.f4.f0, .bool x.f4.f1], [.slice A1 x.f5.length c1, .slice A2 x.f6.length c2], rfl, k61_mk _ _, [.slice A1 x.f5.length c1], [.slice A2 x.f6.length c2], rfl, ⟨A1, c1, rfl, h1, C1⟩, ⟨A2, c2, rfl, h2, C2⟩⟩
/-- one element's row reads. -/
theorem C_one {α : Type} (d : Kd α) (w : World) (b : Nat) (x : α) (cs : Array Value) (T : TypeId) (hb : w.heap[b]? = some (.cells cs T (0, 0))) (hK : d.K w x cs.toList) : Kd.C d w (some ⟨b, 0, none⟩) 1 [x] := by
  refine ⟨rfl, by decide, fun _ => ⟨_, rfl, fun j p hj => ?_⟩⟩
  match j, hj with
  | 0, hj =>
    obtain rfl := Option.some.inj hj
    refine ⟨cs.toList, d.K_len hK, hK, fun i u hu => ?_⟩
    have e : (⟨b, 0, none⟩ : Addr).add (0 * d.sz + i) = ⟨b, i, none⟩ := by
      rw [Nat.zero_mul, Nat.zero_add]; unfold Addr.add
      split
      · rename_i h0; rw [h0]
      · simp
    rw [e, cellB hb]
    simpa using hu
  | j + 1, hj => simp at hj
def exRow : SRow := ⟨[⟨#[119, 101, 98]⟩], false, ⟨5, false⟩, ⟨0, false⟩, ⟨0, false⟩, [], []⟩
def exS : ByteArray := ⟨#[115, 112, 97, 110, 115, 123, 108, 48, 61, 34, 119, 101, 98, 34, 125, 32, 53, 10]⟩
def exT : ByteArray := ⟨#[115, 112, 97, 110, 115, 123, 125, 32, 53]⟩
def exL : Ln := ⟨[115, 112, 97, 110, 115], [⟨[108, 48], [119, 101, 98]⟩], 5⟩
theorem exS_parse : parseR exS.data.toList = some [exL] := by decide +kernel
theorem exT_parse : parseR exT.data.toList = none := by decide +kernel
theorem ex_print : strV (printP [exL]) = .string exS := by kernel_rfl
theorem ex_line : (linesL 0 [exRow] [] [0, 0, 0])[1]? = some ⟨⟨#[115, 112, 97, 110, 115]⟩, [⟨⟨#[108, 48]⟩, ⟨#[119, 101, 98]⟩⟩], 5⟩ := by kernel_rfl
def exY : SLin := ⟨⟨#[115, 112, 97, 110, 115]⟩, [⟨⟨#[108, 48]⟩, ⟨#[119, 101, 98]⟩⟩], 5⟩
theorem ex_mid : ((linesL 0 [exRow] [] [0, 0, 0]).take 2).drop 1 = [exY] := by kernel_rfl
theorem ex_len : (linesL 0 [exRow] [] [0, 0, 0]).length = 7 := by kernel_rfl
set_option maxHeartbeats 8000000 in
set_option maxRecDepth 100000 in
theorem alive_c : Alive := by
  intro w hP
  have HP := Lib.hid hP; clear hP
  obtain ⟨R, hR⟩ : ∃ R, Hid (w.heap.size = R) := ⟨_, Lib.hid rfl⟩
  obtain ⟨w1, hw1⟩ : ∃ w1, Hid (((w.alloc (.cells #[.string ⟨#[119, 101, 98]⟩] 9)).alloc (.cells #[.slice (some ⟨R, 0, none⟩) 1 1, .bool false, .int .u64 5, .bool false, .int .u64 0, .bool false, .int .u64 0, .bool false, .slice none 0 0, .slice none 0 0] 70)).alloc (.cells #[.int .u64 0, .slice (some ⟨R + 1, 0, none⟩) 1 1, .slice none 0 0, .int .u64 0, .bool false, .int .u64 0, .bool false, .int .u64 0, .bool false] 64) = w1) := ⟨_, Lib.hid rfl⟩
  have h1 : (w.alloc (.cells #[.string ⟨#[119, 101, 98]⟩] 9)).heap.size = R + 1 := by rw [size_alloc, hR.out]
  have h2 : ((w.alloc (.cells #[.string ⟨#[119, 101, 98]⟩] 9)).alloc (.cells #[.slice (some ⟨R, 0, none⟩) 1 1, .bool false, .int .u64 5, .bool false, .int .u64 0, .bool false, .int .u64 0, .bool false, .slice none 0 0, .slice none 0 0] 70)).heap.size = R + 2 := by rw [size_alloc, h1]
  have HB1 : Hid (Below w.heap.size w w1) := by
    rw [← hw1.out]
    exact (((Below.refl _ _).alloc (Nat.le_refl _) _).alloc (by rw [h1, hR.out]; omega) _).alloc (by rw [h2, hR.out]; omega) _
  have q0 : w1.heap[R]? = some (.cells #[.string ⟨#[119, 101, 98]⟩] 9 (0, 0)) := by
    rw [← hw1.out]
    refine (allocO _ _ (by rw [h2]; omega)).trans ((allocO _ _ (by rw [h1]; omega)).trans ?_)
    rw [← hR.out]; exact allocN _ _
  have q1 : w1.heap[R + 1]? = some (.cells #[.slice (some ⟨R, 0, none⟩) 1 1, .bool false, .int .u64 5, .bool false, .int .u64 0, .bool false, .int .u64 0, .bool false, .slice none 0 0, .slice none 0 0] 70 (0, 0)) := by
    rw [← hw1.out]
    refine (allocO _ _ (by rw [h2]; omega)).trans ?_
    rw [← h1]; exact allocN _ _
  have q2 : w1.heap[R + 2]? = some (.cells #[.int .u64 0, .slice (some ⟨R + 1, 0, none⟩) 1 1, .slice none 0 0, .int .u64 0, .bool false, .int .u64 0, .bool false, .int .u64 0, .bool false] 64 (0, 0)) := by
    rw [← hw1.out, ← h2]; exact allocN _ _
  have HC1 : Hid (Kd.C k70 w1 (some ⟨R + 1, 0, none⟩) 1 [exRow]) :=
    C_one _ w1 (R + 1) exRow _ _ q1 (kRow_mk w1 exRow (some ⟨R, 0, none⟩) none none 1 0 0 (Nat.le_refl _) (C_one Kd.string w1 R _ _ _ q0 rfl) (Nat.zero_le _) (Kd.C_nil _ _) (Nat.zero_le _) (Kd.C_nil _ _))
  have e0 : w1.cell? ⟨R + 2, 0, none⟩ = some (.int .u64 0) := by rw [cellB q2]; rfl
  have e1 : w1.cell? ⟨R + 2, 1, none⟩ = some (.slice (some ⟨R + 1, 0, none⟩) 1 1) := by rw [cellB q2]; rfl
  have e2 : w1.cell? ⟨R + 2, 2, none⟩ = some (.slice none 0 0) := by rw [cellB q2]; rfl
  have e3 : w1.cell? ⟨R + 2, 3, none⟩ = some (.int .u64 0) := by rw [cellB q2]; rfl
  have e4 : w1.cell? ⟨R + 2, 4, none⟩ = some (.bool false) := by rw [cellB q2]; rfl
  have e5 : w1.cell? ⟨R + 2, 5, none⟩ = some (.int .u64 0) := by rw [cellB q2]; rfl
  have e6 : w1.cell? ⟨R + 2, 6, none⟩ = some (.bool false) := by rw [cellB q2]; rfl
  have e7 : w1.cell? ⟨R + 2, 7, none⟩ = some (.int .u64 0) := by rw [cellB q2]; rfl
  have e8 : w1.cell? ⟨R + 2, 8, none⟩ = some (.bool false) := by rw [cellB q2]; rfl
  clear q0 q1 q2 h1 h2
  have HLN := Lib.hid (Lines_c w1 (HP.out.below HB1.out) 0 (some ⟨R + 1, 0, none⟩) 1 [exRow] none 0 [] 0 0 0 false false false HC1.out (Kd.C_nil _ _) (by simp) (by simp) (fun r hr => by rw [List.mem_singleton] at hr; subst hr; exact ⟨by decide, by decide⟩))
  go_enter Tryd.func7, Tryd.ntmps7
  go_upto_region 2 with fail
  rw [hR.out, hw1.out]
  go_wp2_with fail
  refine HLN.out.mono ?_
  rintro e w2 ⟨v2, rfl, hl2, hb2⟩
  obtain ⟨A2, c2, e9, hc2, hC2⟩ := hl2.reads
  rw [ex_len] at e9 hc2 hC2
  subst e9
  have H2 : Hid (Kd.C k43 w2 A2 7 (linesL 0 [exRow] [] [0, 0, 0]) ∧ 7 ≤ c2 ∧ Below w.heap.size w w2) := ⟨hC2, hc2, HB1.out.trans (hb2.mono HB1.out.size)⟩
  clear hl2 hb2 hc2 hC2 e0 e1 e2 e3 e4 e5 e6 e7 e8 HLN HC1
  have HPS := Lib.hid (Parse_c exS (by decide) w2 (HP.out.below H2.out.2.2))
  rw [show exS = ⟨#[115, 112, 97, 110, 115, 123, 108, 48, 61, 34, 119, 101, 98, 34, 125, 32, 53, 10]⟩ from rfl] at HPS
  go_wp2_with fail
  refine HPS.out.mono ?_
  rintro e w3 ⟨v3, er3, rfl, hp3, hb3⟩
  obtain ⟨x, hx, rfl, hS3⟩ : ∃ x : SLin, lnM x = exL ∧ er3 = 0 ∧ PSL w3 w2.heap.size v3 [x] := by
    rcases hp3 with ⟨xs, h1, h2, h3, _⟩ | ⟨h1, _⟩
    · have h4 := h1.symm.trans exS_parse
      have h5 := (Option.some.inj h4).symm
      rcases xs with _ | ⟨x, _ | ⟨z, r⟩⟩
      · cases h5
      · exact ⟨x, (List.cons.inj h5).1.symm, h2, h3⟩
      · cases (List.cons.inj h5).2
    · have := h1.symm.trans exS_parse; cases this
  obtain ⟨A3, c3, e9, _, hC3⟩ := Kd.S_reads hS3
  rw [show ([x] : List SLin).length = 1 from rfl] at e9 hC3
  subst e9
  have H3 : Hid (Kd.C k43 w3 A3 1 [x] ∧ Below w2.heap.size w2 w3 ∧ Below w.heap.size w w3) := ⟨hC3, hb3, H2.out.2.2.trans (hb3.mono H2.out.2.2.size)⟩
  clear hp3 hb3 hS3 hC3 HPS
  have HPT := Lib.hid (Parse_c exT (by decide) w3 (HP.out.below H3.out.2.2))
  rw [show exT = ⟨#[115, 112, 97, 110, 115, 123, 125, 32, 53]⟩ from rfl] at HPT
  go_wp2_with fail
  refine HPT.out.mono ?_
  rintro e w4 ⟨v4, er4, rfl, hp4, hb4⟩
  obtain ⟨rfl, rfl⟩ : er4 = 11 ∧ v4 = .slice none 0 0 := by
    rcases hp4 with ⟨xs, h1, _⟩ | ⟨_, h1, h2⟩
    · have := h1.symm.trans exT_parse; cases this
    · exact ⟨h1, h2⟩
  obtain ⟨y, hy⟩ : ∃ y, Hid (exY = y ∧ lnM y = exL ∧ y.f2 = 5) := ⟨_, rfl, rfl, rfl⟩
  obtain ⟨ad2, rfl, hcell2⟩ := H2.out.1.2.2 (by decide)
  have H4 : Hid (Kd.C k43 w4 (some ⟨ad2.block, ad2.off + 3, none⟩) 1 [y] ∧ Kd.C k43 w4 A3 1 [x] ∧ Below w.heap.size w w4) := by
    have hb24 : Below w2.heap.size w2 w4 := H3.out.2.1.trans (hb4.mono H3.out.2.1.size)
    have h := Kd.C_mid (lo := 1) (hi := 2) (c := 7) (xs := linesL 0 [exRow] [] [0, 0, 0]) (by rw [ex_len]; exact Kd.C_below H2.out.1 hb24) (by decide) (by rw [ex_len]; decide) (by rw [ex_len]; decide)
    rw [ex_mid, hy.out.1] at h
    exact ⟨h, Kd.C_below H3.out.1 hb4, H3.out.2.2.trans (hb4.mono H3.out.2.2.size)⟩
  clear hp4 hb4 hcell2 HPT
  have HPR := Lib.hid (Print_c w4 (HP.out.below H4.out.2.2) (some ⟨ad2.block, ad2.off + 3, none⟩) (c2 - 1) [y] H4.out.1 (fun z hz => by rw [List.mem_singleton] at hz; subst hz; rw [hy.out.2.2]; omega) (by rw [List.map_cons, List.map_nil, hy.out.2.1]; decide +kernel))
  rw [List.map_cons, List.map_nil, hy.out.2.1, ex_print] at HPR
  rw [show ([y] : List SLin).length = 1 from rfl, show exS = ⟨#[115, 112, 97, 110, 115, 123, 108, 48, 61, 34, 119, 101, 98, 34, 125, 32, 53, 10]⟩ from rfl] at HPR
  have hcc : ¬ c2 < 2 := by have := H2.out.2.1; omega
  obtain ⟨z, hz, hzt⟩ : ∃ z : SLab, x.f1 = [z] ∧ z.f1 = ⟨#[119, 101, 98]⟩ := by
    have h1 : x.f1.map lbM = [⟨[108, 48], [119, 101, 98]⟩] := congrArg Ln.ls hx
    rcases h2 : x.f1 with _ | ⟨z, _ | ⟨z2, r⟩⟩
    · rw [h2] at h1; cases h1
    · rw [h2] at h1
      have h3 : z.f1.data.toList = [119, 101, 98] := congrArg Lb.t (List.cons.inj h1).1
      refine ⟨z, rfl, ?_⟩
      have h4 : z.f1.data = #[119, 101, 98] := by rw [← Array.toArray_toList (xs := z.f1.data), h3]
      cases h5 : z.f1 with | mk d => rw [h5] at h4; exact congrArg ByteArray.mk h4
    · rw [h2] at h1; cases (List.cons.inj h1).2
  obtain ⟨ad3, A5, c5, rfl, _, d1, _, hc5, hC5⟩ := at_T43 H4.out.2.1 0 (by omega) (by omega)
  rw [show rd_T43 [x] 0 = x from rfl, hz] at d1 hC5 hc5
  obtain ⟨ad5, rfl, _, d2⟩ := at_T71 hC5 0 (by omega) (by simp)
  rw [show rd_T71 [z] 0 = z from rfl, hzt] at d2
  have HD : Hid (w4.cell? ⟨ad3.block, ad3.off + 1, none⟩ = some (.slice (some ad5) 1 c5) ∧ w4.cell? ⟨ad5.block, ad5.off + 1, none⟩ = some (.string ⟨#[119, 101, 98]⟩)) := ⟨d1, d2⟩
  clear d1 d2 hC5 hc5 hz hzt hx
  go_wp2_with fail
  refine HPR.out.mono ?_
  rintro e w5 ⟨rfl, hb5⟩
  have g1 := pw_cell_below hb5 HD.out.1
  have g2 := pw_cell_below hb5 HD.out.2
  have HB5 := Lib.hid (H4.out.2.2.trans (hb5.mono H4.out.2.2.size))
  clear hb5 HPR
  go_wp2_with fail
  go_ret
  exact ⟨rfl, HB5.out⟩
end Go.Proofs.YtdbmcikoiilanaaDoor.Xp
