/- Struct types as kinds, and how arguments of these types lie in memory: printed by the session's kindgen.py. -/
import Derived.Test.YtbedoahkpdpmeaaOp
import Derived.Test.YtbedoahkpdpmeaaProg
import Derived.Test.YtbedoahkpdpmeaaPeOp
set_option linter.unusedVariables false
set_option linter.unusedSimpArgs false
namespace Go.Proofs.Ytbedoahkpdpmeaa.Pe
open Go.RowKit Go.Proofs.Ytbedoahkpdpmeaa.B0 Go.Proofs.YtbedoahkpdpmeaaW.PrintWords
structure S42 where
  f0 : Int
  f1 : Int
  f2 : Int
  f3 : ByteArray
  f4 : ByteArray
  f5 : Int
  f6 : Int
  f7 : Int
  f8 : Int
  f9 : List S61
def z42 : S42 := ⟨(0 : Int), (0 : Int), (0 : Int), ByteArray.empty, ByteArray.empty, (0 : Int), (0 : Int), (0 : Int), (0 : Int), []⟩
def k42 : Kd S42 := Kd.iso (Kd.pair (Kd.int .u64) (Kd.pair (Kd.int .u64) (Kd.pair (Kd.int .u64) (Kd.pair Kd.string (Kd.pair Kd.string (Kd.pair (Kd.int .i64) (Kd.pair (Kd.int .i64) (Kd.pair (Kd.int .u64) (Kd.pair (Kd.int .u64) ((Kd.slice 61 k61))))))))))) (fun x : S42 => (x.f0, (x.f1, (x.f2, (x.f3, (x.f4, (x.f5, (x.f6, (x.f7, (x.f8, x.f9))))))))))
theorem k42_open {w : World} {x : S42} {cs : List Value} (h : k42.K w x cs) : ∃ A0 c0, cs = [.int .u64 x.f0, .int .u64 x.f1, .int .u64 x.f2, .string x.f3, .string x.f4, .int .i64 x.f5, .int .i64 x.f6, .int .u64 x.f7, .int .u64 x.f8, .slice A0 x.f9.length c0] ∧ (x.f9.length ≤ c0 ∧ Kd.C k61 w A0 x.f9.length x.f9) := by
  obtain ⟨_, _, rfl, h0, ⟨_, _, rfl, h1, ⟨_, _, rfl, h2, ⟨_, _, rfl, h3, ⟨_, _, rfl, h4, ⟨_, _, rfl, h5, ⟨_, _, rfl, h6, ⟨_, _, rfl, h7, ⟨_, _, rfl, h8, h9⟩⟩⟩⟩⟩⟩⟩⟩⟩ := h
  obtain rfl := id h0
  obtain rfl := id h1
  obtain rfl := id h2
  obtain rfl := id h3
  obtain rfl := id h4
  obtain rfl := id h5
  obtain rfl := id h6
  obtain rfl := id h7
  obtain rfl := id h8
  obtain ⟨A0, c0, rfl, g0⟩ := h9
  exact ⟨A0, c0, rfl, g0⟩
def rd_T42 (xs : List S42) (i : Int) : S42 := xs.getD i.toNat z42
theorem at_T42 {w : World} {A : Option Addr} {n : Nat} {xs : List S42} (h : Kd.C k42 w A n xs) (i : Int) (h0 : 0 ≤ i) (h1 : i < n) : ∃ ad, A = some ad ∧ ∃ A0 c0, w.cell? (ad.add (i.toNat * 10)) = some (.int .u64 (rd_T42 xs i).f0) ∧ w.cell? ⟨(ad.add (i.toNat * 10)).block, (ad.add (i.toNat * 10)).off + 1, none⟩ = some (.int .u64 (rd_T42 xs i).f1) ∧ w.cell? ⟨(ad.add (i.toNat * 10)).block, (ad.add (i.toNat * 10)).off + 2, none⟩ = some (.int .u64 (rd_T42 xs i).f2) ∧ w.cell? ⟨(ad.add (i.toNat * 10)).block, (ad.add (i.toNat * 10)).off + 3, none⟩ = some (.string (rd_T42 xs i).f3) ∧ w.cell? ⟨(ad.add (i.toNat * 10)).block, (ad.add (i.toNat * 10)).off + 4, none⟩ = some (.string (rd_T42 xs i).f4) ∧ w.cell? ⟨(ad.add (i.toNat * 10)).block, (ad.add (i.toNat * 10)).off + 5, none⟩ = some (.int .i64 (rd_T42 xs i).f5) ∧ w.cell? ⟨(ad.add (i.toNat * 10)).block, (ad.add (i.toNat * 10)).off + 6, none⟩ = some (.int .i64 (rd_T42 xs i).f6) ∧ w.cell? ⟨(ad.add (i.toNat * 10)).block, (ad.add (i.toNat * 10)).off + 7, none⟩ = some (.int .u64 (rd_T42 xs i).f7) ∧ w.cell? ⟨(ad.add (i.toNat * 10)).block, (ad.add (i.toNat * 10)).off + 8, none⟩ = some (.int .u64 (rd_T42 xs i).f8) ∧ w.cell? ⟨(ad.add (i.toNat * 10)).block, (ad.add (i.toNat * 10)).off + 9, none⟩ = some (.slice A0 (rd_T42 xs i).f9.length c0) ∧ ((rd_T42 xs i).f9.length ≤ c0 ∧ Kd.C k61 w A0 (rd_T42 xs i).f9.length (rd_T42 xs i).f9) := by
  obtain ⟨ad, c, e, _, hK, hc0⟩ := Kd.C_get h z42 i h0 h1
  have hc : ∀ j u, c[j]? = some u → w.cell? (ad.add (i.toNat * 10 + j)) = some u := hc0
  obtain ⟨A0, c0, rfl, g0⟩ := k42_open hK
  exact ⟨ad, e, A0, c0, hc 0 _ rfl, (by rw [← add_field _ _ 1 (by omega)]; exact hc 1 _ rfl), (by rw [← add_field _ _ 2 (by omega)]; exact hc 2 _ rfl), (by rw [← add_field _ _ 3 (by omega)]; exact hc 3 _ rfl), (by rw [← add_field _ _ 4 (by omega)]; exact hc 4 _ rfl), (by rw [← add_field _ _ 5 (by omega)]; exact hc 5 _ rfl), (by rw [← add_field _ _ 6 (by omega)]; exact hc 6 _ rfl), (by rw [← add_field _ _ 7 (by omega)]; exact hc 7 _ rfl), (by rw [← add_field _ _ 8 (by omega)]; exact hc 8 _ rfl), (by rw [← add_field _ _ 9 (by omega)]; exact hc 9 _ rfl), g0⟩
def W42 (y : S42) : Prop := (Lit.int .u64 y.f0).wf = true ∧ (Lit.int .u64 y.f1).wf = true ∧ (Lit.int .u64 y.f2).wf = true ∧ y.f3.size ≤ maxLen ∧ y.f4.size ≤ maxLen ∧ (Lit.int .i64 y.f5).wf = true ∧ (Lit.int .i64 y.f6).wf = true ∧ (Lit.int .u64 y.f7).wf = true ∧ (Lit.int .u64 y.f8).wf = true ∧ (y.f9.length ≤ maxLen ∧ ∀ z ∈ y.f9, W61 z)
theorem op42 : OpK Try.prog 42 k42 W42 := by
  intro H enc w base spare held fuel cs x h
  obtain ⟨xs, n, rfl, hx, hl, hxs, hf⟩ := DataW.trod_struct Try.underlying42 h
  have hl' : cs.length = 10 := hl.trans (by kernel_rfl)
  obtain ⟨y0, J0, X0⟩ := OpK.field hxs hf 0 _ rfl 29 0 1 rfl rfl (by kernel_rfl) (OpK.int Try.underlying29)
  obtain ⟨y1, J1, X1⟩ := OpK.field hxs hf 1 _ rfl 29 1 1 rfl rfl (by kernel_rfl) (OpK.int Try.underlying29)
  obtain ⟨y2, J2, X2⟩ := OpK.field hxs hf 2 _ rfl 29 2 1 rfl rfl (by kernel_rfl) (OpK.int Try.underlying29)
  obtain ⟨y3, J3, X3⟩ := OpK.field hxs hf 3 _ rfl 9 3 1 rfl rfl (by kernel_rfl) (OpK.string Try.underlying9)
  obtain ⟨y4, J4, X4⟩ := OpK.field hxs hf 4 _ rfl 9 4 1 rfl rfl (by kernel_rfl) (OpK.string Try.underlying9)
  obtain ⟨y5, J5, X5⟩ := OpK.field hxs hf 5 _ rfl 3 5 1 rfl rfl (by kernel_rfl) (OpK.int Try.underlying3)
  obtain ⟨y6, J6, X6⟩ := OpK.field hxs hf 6 _ rfl 3 6 1 rfl rfl (by kernel_rfl) (OpK.int Try.underlying3)
  obtain ⟨y7, J7, X7⟩ := OpK.field hxs hf 7 _ rfl 29 7 1 rfl rfl (by kernel_rfl) (OpK.int Try.underlying29)
  obtain ⟨y8, J8, X8⟩ := OpK.field hxs hf 8 _ rfl 29 8 1 rfl rfl (by kernel_rfl) (OpK.int Try.underlying29)
  obtain ⟨y9, J9, X9⟩ := OpK.field hxs hf 9 _ rfl 40 9 1 rfl rfl (by kernel_rfl) (OpK.slice Try.underlying40 (by kernel_rfl) op61)
  rw [List.take_of_length_le (by rw [List.length_drop]; omega)] at J9
  exact ⟨⟨y0, y1, y2, y3, y4, y5, y6, y7, y8, y9⟩, ⟨_, _, split_at 0 1 cs, J0, ⟨_, _, split_at 1 1 cs, J1, ⟨_, _, split_at 2 1 cs, J2, ⟨_, _, split_at 3 1 cs, J3, ⟨_, _, split_at 4 1 cs, J4, ⟨_, _, split_at 5 1 cs, J5, ⟨_, _, split_at 6 1 cs, J6, ⟨_, _, split_at 7 1 cs, J7, ⟨_, _, split_at 8 1 cs, J8, J9⟩⟩⟩⟩⟩⟩⟩⟩⟩, ⟨X0, X1, X2, X3, X4, X5, X6, X7, X8, X9⟩⟩
end Go.Proofs.Ytbedoahkpdpmeaa.Pe
