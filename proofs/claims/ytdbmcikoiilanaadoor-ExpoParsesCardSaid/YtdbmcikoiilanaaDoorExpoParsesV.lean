/- ExpoParses: the law's walk, the example taken as a premise. -/
import Derived.Test.YtdbmcikoiilanaaDoorXp12
set_option linter.unusedVariables false
set_option linter.unusedSimpArgs false
namespace Go.Proofs.YtdbmcikoiilanaaDoor.Xp
open Go.RowKit Go.Proofs.YtdbmcikoiilanaaDoor.B0 Go.Proofs.YtdbmcikoiilanaaDoorW.PrintWords Go.Proofs.YtdbmcikoiilanaaDoor.Bld Go.Proofs.YtdbmcikoiilanaaDoor.Pp

def Alive : Prop := ∀ w : World, LP w → Calls Tryd.prog 7 #[] w fun e w' => e = .returned (.bool true) ∧ Below w.heap.size w w'
set_option maxHeartbeats 8000000 in
set_option maxRecDepth 100000 in
theorem parses_v (AL : Alive) (w : World) (hP : LP w) (s : ByteArray) (hs : s.size ≤ maxLen) :
    Calls Tryd.prog 4 #[.string s] w fun e w' => e = .returned (.bool true) ∧ Below w.heap.size w w' := by
  have HL := Lib.hid hP; clear hP
  have hal := Lib.hid (AL w HL.out); clear AL
  go_enter Tryd.func4, Tryd.ntmps4
  go_wp2_with fail
  refine hal.out.mono ?_
  rintro e w1 ⟨rfl, hb1⟩
  have HB1 := Lib.hid hb1; clear hb1 hal
  by_cases h3 : s.size > 3000
  · have hq : decide ((3000 : Int) < (s.size : Int)) = true := decide_eq_true (by omega)
    have hq2 : decide (3000 < s.size) = true := decide_eq_true (by omega)
    go_wp2_with fail
    go_ret
    exact ⟨rfl, HB1.out⟩
  have hq : decide ((3000 : Int) < (s.size : Int)) = false := decide_eq_false (by omega)
  have hq2 : decide (3000 < s.size) = false := decide_eq_false (by omega)
  have HPC := Lib.hid (Parse_c s (by omega) w1 (HL.out.below HB1.out))
  go_wp2_with fail
  refine HPC.out.mono ?_
  rintro e w2 ⟨v, er, rfl, hpe, hb2⟩
  have HB2 := Lib.hid (HB1.out.trans (hb2.mono HB1.out.size)); clear hb2
  rcases hpe with ⟨xs, hp, rfl, hS, hv, hbd⟩ | ⟨hp, rfl, rfl⟩
  · obtain ⟨A, c, rfl, hc, hC⟩ := Kd.S_reads hS
    have HT := Lib.hid (parseR_text _ _ hp)
    have HPR := Lib.hid (Print_c w2 (HL.out.below HB2.out) A c xs hC hv hbd)
    obtain ⟨n, hn⟩ : ∃ n, Hid (xs.length = n) := ⟨_, Lib.hid rfl⟩
    rw [HT.out, hn.out] at HPR
    rw [hn.out]
    have hst : strV s.data.toList = .string s := rfl
    rw [hst] at HPR
    clear hp hS hC hc hv hbd hst
    have hee : (s.toList == s.toList) = true := by simp
    go_wp2_with fail
    refine HPR.out.mono ?_
    rintro e w3 ⟨rfl, hb3⟩
    have HB3 := Lib.hid (HB2.out.trans (hb3.mono HB2.out.size)); clear hb3
    go_wp2_with fail
    go_ret
    exact ⟨rfl, HB3.out⟩
  · clear hp
    go_wp2_with fail
    go_ret
    exact ⟨rfl, HB2.out⟩
end Go.Proofs.YtdbmcikoiilanaaDoor.Xp
