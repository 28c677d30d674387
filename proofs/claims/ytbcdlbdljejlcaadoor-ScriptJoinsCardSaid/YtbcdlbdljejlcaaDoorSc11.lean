/- script: the example. -/
import Derived.Test.YtbcdlbdljejlcaaDoorSc10
set_option linter.unusedVariables false
set_option linter.unusedSimpArgs false
namespace Go.Proofs.YtbcdlbdljejlcaaDoor.Sc
open Go.RowKit Go.Proofs.YtbcdlbdljejlcaaDoor.B0 Go.Proofs.YtbcdlbdljejlcaaDoor.Ps Go.Proofs.YtbcdlbdljejlcaaDoorW.PrintWords Go.Proofs.YtbcdlbdljejlcaaDoor.Bld

def sEx : ByteArray := ⟨#[100, 101, 108, 105, 118, 101, 114, 32, 48, 32, 48, 97, 102, 102, 10, 101, 110, 100, 10]⟩
def lEx : List Stp := [⟨0, 0, 0, [10, 255]⟩, ⟨4, 0, 0, []⟩]
theorem ex_parse : parseL sEx.data.toList = some lEx := by decide +kernel
theorem ex_parse2 : parseL (⟨#[101, 110, 100]⟩ : ByteArray).data.toList = none := by decide +kernel
theorem ex_ends : script_Ends.f lEx = some true := by decide +kernel
theorem ex_bytes : tallyroomref01_Bytes.f [10, 255] [10, 255] = some true := by unfold tallyroomref01_Bytes.f; simp
/-- Parse at a text that parses. -/
theorem Parse_some (s : ByteArray) (xs : List Stp) (hp : parseL s.data.toList = some xs) (hs : s.size ≤ 4194304) (w : World) (h : LP w) :
    Calls Tryd.prog 7 #[.string s] w fun e w' => ∃ A c, e = .returned (.tuple #[.slice A xs.length c, .int .i64 0]) ∧ xs.length ≤ c ∧ PSL w' w.heap.size (.slice A xs.length c) xs ∧ Kd.C k32 w' A xs.length xs ∧ Below w.heap.size w w' :=
  (Parse_c s hs w h).mono fun e w' ⟨v, er, he, hc, hb⟩ => by
    rcases hc with ⟨ys, h1, rfl, h2⟩ | ⟨h1, _, _⟩
    · rw [hp] at h1
      obtain rfl := Option.some.inj h1
      obtain ⟨A, c, rfl, h3, h4⟩ := Kd.S_reads h2
      exact ⟨A, c, he, h3, h2, h4, hb⟩
    · rw [hp] at h1; cases h1
theorem Parse_none (s : ByteArray) (hp : parseL s.data.toList = none) (hs : s.size ≤ 4194304) (w : World) (h : LP w) :
    Calls Tryd.prog 7 #[.string s] w fun e w' => e = .returned (.tuple #[.slice none 0 0, .int .i64 11]) ∧ Below w.heap.size w w' :=
  (Parse_c s hs w h).mono fun e w' ⟨v, er, he, hc, hb⟩ => by
    rcases hc with ⟨ys, h1, _⟩ | ⟨_, rfl, rfl⟩
    · rw [hp] at h1; cases h1
    · exact ⟨he, hb⟩

theorem lit_C (w : World) (xs : List Int) (hl : xs.length ≤ 1000000) : Kd.C (Kd.int .u8) (w.alloc (.cells (xs.map (Value.int .u8)).toArray 5)) (some ⟨w.heap.size, 0, none⟩) xs.length xs := by
  refine Kd.C_of_reads (enc := Value.int .u8) (d := 0) (h1 := fun _ => rfl) ⟨rfl, ?_, fun _ => ⟨_, rfl, fun j hj => ?_⟩⟩
  · omega
  · rw [show (⟨w.heap.size, 0, none⟩ : Addr).add j = ⟨w.heap.size, j, none⟩ from (by simp [Addr.add]; omega), World.cell?_alloc_at _ _ _ _ rfl, List.getElem?_toArray, List.getElem?_map, List.getElem?_eq_getElem hj, List.getD_eq_getElem?_getD, List.getElem?_eq_getElem hj]; rfl

set_option maxHeartbeats 4000000 in
set_option maxRecDepth 100000 in
theorem alive29 (w : World) (h : LP w) : Calls Tryd.prog 6 #[] w fun e w' => e = .returned (.bool true) ∧ Below w.heap.size w w' := by
  have HL := Lib.hid h; clear h
  have HP1 := Lib.hid (Parse_some sEx lEx ex_parse (by decide) w HL.out)
  go_enter Tryd.func6, Tryd.ntmps6
  go_wp2_with fail
  refine HP1.out.mono ?_
  rintro e w1 ⟨A, c, rfl, hc, _, hC, hb⟩
  have HC := Lib.hid hC; have HB := Lib.hid hb; have HCc := Lib.hid hc
  clear hC hb hc HP1
  have HL1 : Hid (LP w1) := HL.out.below HB.out
  go_wp2_with fail
  refine (Parse_none _ ex_parse2 (by decide) w1 HL1.out).mono ?_
  rintro e w2 ⟨rfl, hb2⟩
  have HB2 : Hid (Below w.heap.size w w2) := HB.out.trans (hb2.mono HB.out.size)
  have HC2 := Lib.hid (Kd.C_below HC.out hb2)
  clear hb2 HC HB
  obtain ⟨ad, A3, c3, rfl, d0, d1, d2, d3, hl3, hi3⟩ := at_T32 HC2.out 0 (by decide) (by decide)
  have d3' : w2.cell? ⟨ad.block, ad.off + 3, none⟩ = some (.slice A3 2 c3) := by simpa [rd_T32, lEx, Addr.add] using d3
  clear d0 d1 d2 d3
  have hi3' : Kd.C (Kd.int .u8) w2 A3 2 [10, 255] := hi3
  have HI := Lib.hid hi3'; have HL3 : Hid (2 ≤ c3) := hl3
  clear hi3 hi3' hl3
  go_wp2_with fail
  obtain ⟨w3, hw3⟩ : ∃ w3, Hid (w2.alloc (.cells #[.int .u8 10, .int .u8 255] 5) = w3) := ⟨_, Lib.hid rfl⟩
  have hb3 : Below w2.heap.size w2 w3 := by rw [← hw3.out]; exact (Below.refl _ _).alloc (Nat.le_refl _) _
  have C2 : Hid (Kd.C (Kd.int .u8) w3 (some ⟨w2.heap.size, 0, none⟩) 2 [10, 255]) := by
    rw [← hw3.out]; exact lit_C w2 [10, 255] (by decide)
  have H3 : Hid (Below w.heap.size w w3 ∧ Kd.C (Kd.int .u8) w3 A3 2 [10, 255] ∧ Kd.C k32 w3 (some ad) lEx.length lEx) := ⟨HB2.out.trans (hb3.mono HB2.out.size), Kd.C_below HI.out hb3, Kd.C_below HC2.out hb3⟩
  clear hb3
  rw [hw3.out]
  refine (tallyroomref01_Bytes.calls A3 c3 [10, 255] (some ⟨w2.heap.size, 0, none⟩) 2 [10, 255] true w3 H3.out.2.1 HL3.out C2.out (by decide) ex_bytes).mono ?_
  rintro e w4 ⟨rfl, hd4⟩
  have H4 : Hid (Below w.heap.size w w4 ∧ Kd.C k32 w4 (some ad) lEx.length lEx) := ⟨H3.out.1.trans (hd4.below.mono H3.out.1.size), Kd.C_below H3.out.2.2 hd4.below⟩
  clear hd4
  go_wp2_with fail
  refine (script_Ends.calls (some ad) c lEx true w4 H4.out.2 HCc.out ex_ends).mono ?_
  rintro e w5 ⟨rfl, hd5⟩
  have H5 : Hid (Below w.heap.size w w5) := H4.out.1.trans (hd5.below.mono H4.out.1.size)
  clear hd5
  go_wp2_with fail
  go_ret
  exact ⟨rfl, H5.out⟩
end Go.Proofs.YtbcdlbdljejlcaaDoor.Sc
