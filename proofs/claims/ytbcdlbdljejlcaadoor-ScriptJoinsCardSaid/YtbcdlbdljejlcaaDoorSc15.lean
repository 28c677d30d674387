/- script: a byte of a step's own bytes is written. -/
import Derived.Test.YtbcdlbdljejlcaaDoorSc14
set_option linter.unusedVariables false
set_option linter.unusedSimpArgs false
namespace Go.Proofs.YtbcdlbdljejlcaaDoor.Sc
open Go.RowKit Go.Proofs.YtbcdlbdljejlcaaDoor.B0 Go.Proofs.YtbcdlbdljejlcaaDoor.Ps Go.Proofs.YtbcdlbdljejlcaaDoorW.PrintWords Go.Proofs.YtbcdlbdljejlcaaDoor.Bld

theorem B_elem {w : World} {base n cap : Nat} {A : Option Addr} {xs : List Stp} (h : PSL w base (.slice A n cap) xs) (i : Nat) (hi : i < n) :
    xs.length = n ∧ ∃ ad A3 c3, A = some ad ∧ w.cell? ⟨(ad.add (i * 4)).block, (ad.add (i * 4)).off + 3, none⟩ = some (.slice A3 (xs.getD i z32).f3.length c3) ∧ (xs.getD i z32).f3.length ≤ c3 ∧ (xs.getD i z32).f3.length ≤ 9223372036854775807 ∧
      ∀ k, k < (xs.getD i z32).f3.length → ∃ g u, A3 = some ⟨g, 0, none⟩ ∧ w.cell? ⟨g, k, none⟩ = some u ∧ w.frozen? ⟨g, k, none⟩ = false ∧ base ≤ g ∧ g < w.heap.size ∧
        PSL (w.setCell ⟨g, k, none⟩ (.int .u8 7)) base (.slice A n cap) (xs.set i ⟨(xs.getD i z32).f0, (xs.getD i z32).f1, (xs.getD i z32).f2, (xs.getD i z32).f3.set k 7⟩) := by
  obtain ⟨A1, c1, he, hlc, hC⟩ := Kd.S_reads h
  injection he with e1 e2 e3
  subst e1 e2 e3
  refine ⟨rfl, ?_⟩
  obtain ⟨ad, _, rfl, _⟩ := Kd.C_get hC z32 (i : Int) (by omega) (by omega)
  have hii : ((i : Int)).toNat = i := by omega
  obtain ⟨oki, c, hcl, hM, hcc, hoki, hback⟩ := Kd.S_borrow h z32 (i : Int) (by omega) (by omega)
  rw [hii] at hM hcc hback
  obtain ⟨v3, rfl, hR⟩ := k32_openM hM
  obtain ⟨A3, c3, rfl, hl3, hC3⟩ := Kd.R_reads hR
  refine ⟨ad, A3, c3, rfl, ?_, hl3, hC3.2.1, fun k hk => ?_⟩
  · have h3 : w.cell? (ad.add (i * 4 + 3)) = _ := hcc 3 _ rfl
    rw [add_field _ _ 3 (by omega)] at h3; exact h3
  · obtain ⟨g, cap', hv, hbg, hgs, _⟩ := Kd.R_form hR (by omega)
    simp only [Value.slice.injEq] at hv
    obtain ⟨rfl, _, rfl⟩ := hv
    have hkk : ((k : Int)).toNat = k := by omega
    obtain ⟨hc1, hf1⟩ := Kd.R_cell 0 hR (k : Int) (by omega) (by omega)
    obtain ⟨hp1, hg1⟩ := Kd.R_putg hR (k : Int) (7 : Int)
    rw [hkk] at hc1 hf1 hp1 hg1
    refine ⟨g, _, rfl, hc1, hf1, hbg, hgs, hback (x' := ⟨(xs.getD i z32).f0, (xs.getD i z32).f1, (xs.getD i z32).f2, (xs.getD i z32).f3.set k 7⟩) hg1 (fun k' hk' => ?_) ?_⟩
    · obtain rfl := Option.some.inj hk'
      exact hR.1 _ (by simp [Value.ownBlock])
    · have h2 := k32_mkM (w.setCell ⟨g, k, none⟩ (.int .u8 7)) base oki ⟨(xs.getD i z32).f0, (xs.getD i z32).f1, (xs.getD i z32).f2, (xs.getD i z32).f3.set k 7⟩ hp1
      exact h2
end Go.Proofs.YtbcdlbdljejlcaaDoor.Sc
