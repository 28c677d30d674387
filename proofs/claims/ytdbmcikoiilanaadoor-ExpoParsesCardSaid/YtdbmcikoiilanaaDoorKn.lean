/- Struct types as kinds, and how arguments of these types lie in memory: printed by the session's kindgen.py. -/
import Derived.Test.YtdbmcikoiilanaaDoorOp
import Derived.Test.YtdbmcikoiilanaaDoorProg
set_option linter.unusedVariables false
set_option linter.unusedSimpArgs false
namespace Go.Proofs.YtdbmcikoiilanaaDoor.Kn
open Go.RowKit Go.Proofs.YtdbmcikoiilanaaDoor.B0 Go.Proofs.YtdbmcikoiilanaaDoorW.PrintWords
structure S61 where
  f0 : Int
  f1 : Bool
def z61 : S61 := ⟨(0 : Int), false⟩
def k61 : Kd S61 := Kd.iso (Kd.pair (Kd.int .u64) (Kd.bool)) (fun x : S61 => (x.f0, x.f1))
theorem k61_open {w : World} {x : S61} {cs : List Value} (h : k61.K w x cs) : cs = [.int .u64 x.f0, .bool x.f1] := by
  obtain ⟨_, _, rfl, h0, h1⟩ := h
  obtain rfl := id h0
  obtain rfl := id h1
  rfl
theorem k61_mk (w : World) (x : S61) : k61.K w x [.int .u64 x.f0, .bool x.f1] := ⟨[.int .u64 x.f0], [.bool x.f1], rfl, rfl, rfl⟩
def rd_T61 (xs : List S61) (i : Int) : S61 := xs.getD i.toNat z61
theorem at_T61 {w : World} {A : Option Addr} {n : Nat} {xs : List S61} (h : Kd.C k61 w A n xs) (i : Int) (h0 : 0 ≤ i) (h1 : i < n) : ∃ ad, A = some ad ∧ w.cell? (ad.add (i.toNat * 2)) = some (.int .u64 (rd_T61 xs i).f0) ∧ w.cell? ⟨(ad.add (i.toNat * 2)).block, (ad.add (i.toNat * 2)).off + 1, none⟩ = some (.bool (rd_T61 xs i).f1) := by
  obtain ⟨ad, c, e, _, hK, hc0⟩ := Kd.C_get h z61 i h0 h1
  have hc : ∀ j u, c[j]? = some u → w.cell? (ad.add (i.toNat * 2 + j)) = some u := hc0
  obtain rfl := k61_open hK
  exact ⟨ad, e, hc 0 _ rfl, (by rw [← add_field _ _ 1 (by omega)]; exact hc 1 _ rfl)⟩
def W61 (y : S61) : Prop := (Lit.int .u64 y.f0).wf = true ∧ True
theorem op61 : OpK Tryd.prog 61 k61 W61 := by
  intro H enc w base spare held fuel cs x h
  obtain ⟨xs, n, rfl, hx, hl, hxs, hf⟩ := DataW.trod_struct Tryd.underlying61 h
  have hl' : cs.length = 2 := hl.trans (by kernel_rfl)
  obtain ⟨y0, J0, X0⟩ := OpK.field hxs hf 0 _ rfl 25 0 1 rfl rfl (by kernel_rfl) (OpK.int Tryd.underlying25)
  obtain ⟨y1, J1, X1⟩ := OpK.field hxs hf 1 _ rfl 4 1 1 rfl rfl (by kernel_rfl) (OpK.bool Tryd.underlying4)
  rw [List.take_of_length_le (by rw [List.length_drop]; omega)] at J1
  exact ⟨⟨y0, y1⟩, ⟨_, _, split_at 0 1 cs, J0, J1⟩, ⟨X0, X1⟩⟩
structure S98 where
  f0 : Int
  f1 : Int
  f2 : Int
  f3 : Bool
def z98 : S98 := ⟨(0 : Int), (0 : Int), (0 : Int), false⟩
def k98 : Kd S98 := Kd.iso (Kd.pair (Kd.int .u64) (Kd.pair (Kd.int .u64) (Kd.pair (Kd.int .u64) (Kd.bool)))) (fun x : S98 => (x.f0, (x.f1, (x.f2, x.f3))))
theorem k98_open {w : World} {x : S98} {cs : List Value} (h : k98.K w x cs) : cs = [.int .u64 x.f0, .int .u64 x.f1, .int .u64 x.f2, .bool x.f3] := by
  obtain ⟨_, _, rfl, h0, ⟨_, _, rfl, h1, ⟨_, _, rfl, h2, h3⟩⟩⟩ := h
  obtain rfl := id h0
  obtain rfl := id h1
  obtain rfl := id h2
  obtain rfl := id h3
  rfl
theorem k98_mk (w : World) (x : S98) : k98.K w x [.int .u64 x.f0, .int .u64 x.f1, .int .u64 x.f2, .bool x.f3] := ⟨[.int .u64 x.f0], [.int .u64 x.f1, .int .u64 x.f2, .bool x.f3], rfl, rfl, ⟨[.int .u64 x.f1], [.int .u64 x.f2, .bool x.f3], rfl, rfl, ⟨[.int .u64 x.f2], [.bool x.f3], rfl, rfl, rfl⟩⟩⟩
def rd_T98 (xs : List S98) (i : Int) : S98 := xs.getD i.toNat z98
theorem at_T98 {w : World} {A : Option Addr} {n : Nat} {xs : List S98} (h : Kd.C k98 w A n xs) (i : Int) (h0 : 0 ≤ i) (h1 : i < n) : ∃ ad, A = some ad ∧ w.cell? (ad.add (i.toNat * 4)) = some (.int .u64 (rd_T98 xs i).f0) ∧ w.cell? ⟨(ad.add (i.toNat * 4)).block, (ad.add (i.toNat * 4)).off + 1, none⟩ = some (.int .u64 (rd_T98 xs i).f1) ∧ w.cell? ⟨(ad.add (i.toNat * 4)).block, (ad.add (i.toNat * 4)).off + 2, none⟩ = some (.int .u64 (rd_T98 xs i).f2) ∧ w.cell? ⟨(ad.add (i.toNat * 4)).block, (ad.add (i.toNat * 4)).off + 3, none⟩ = some (.bool (rd_T98 xs i).f3) := by
  obtain ⟨ad, c, e, _, hK, hc0⟩ := Kd.C_get h z98 i h0 h1
  have hc : ∀ j u, c[j]? = some u → w.cell? (ad.add (i.toNat * 4 + j)) = some u := hc0
  obtain rfl := k98_open hK
  exact ⟨ad, e, hc 0 _ rfl, (by rw [← add_field _ _ 1 (by omega)]; exact hc 1 _ rfl), (by rw [← add_field _ _ 2 (by omega)]; exact hc 2 _ rfl), (by rw [← add_field _ _ 3 (by omega)]; exact hc 3 _ rfl)⟩
def W98 (y : S98) : Prop := (Lit.int .u64 y.f0).wf = true ∧ (Lit.int .u64 y.f1).wf = true ∧ (Lit.int .u64 y.f2).wf = true ∧ True
theorem op98 : OpK Tryd.prog 98 k98 W98 := by
  intro H enc w base spare held fuel cs x h
  obtain ⟨xs, n, rfl, hx, hl, hxs, hf⟩ := DataW.trod_struct Tryd.underlying98 h
  have hl' : cs.length = 4 := hl.trans (by kernel_rfl)
  obtain ⟨y0, J0, X0⟩ := OpK.field hxs hf 0 _ rfl 25 0 1 rfl rfl (by kernel_rfl) (OpK.int Tryd.underlying25)
  obtain ⟨y1, J1, X1⟩ := OpK.field hxs hf 1 _ rfl 25 1 1 rfl rfl (by kernel_rfl) (OpK.int Tryd.underlying25)
  obtain ⟨y2, J2, X2⟩ := OpK.field hxs hf 2 _ rfl 25 2 1 rfl rfl (by kernel_rfl) (OpK.int Tryd.underlying25)
  obtain ⟨y3, J3, X3⟩ := OpK.field hxs hf 3 _ rfl 4 3 1 rfl rfl (by kernel_rfl) (OpK.bool Tryd.underlying4)
  rw [List.take_of_length_le (by rw [List.length_drop]; omega)] at J3
  exact ⟨⟨y0, y1, y2, y3⟩, ⟨_, _, split_at 0 1 cs, J0, ⟨_, _, split_at 1 1 cs, J1, ⟨_, _, split_at 2 1 cs, J2, J3⟩⟩⟩, ⟨X0, X1, X2, X3⟩⟩
structure S70 where
  f0 : List ByteArray
  f1 : Bool
  f2 : S61
  f3 : S61
  f4 : S61
  f5 : List S61
  f6 : List S98
def z70 : S70 := ⟨[], false, z61, z61, z61, [], []⟩
def k70 : Kd S70 := Kd.iso (Kd.pair (Kd.slice 9 Kd.string) (Kd.pair Kd.bool (Kd.pair k61 (Kd.pair k61 (Kd.pair k61 (Kd.pair (Kd.slice 61 k61) ((Kd.slice 98 k98)))))))) (fun x : S70 => (x.f0, (x.f1, (x.f2, (x.f3, (x.f4, (x.f5, x.f6)))))))
theorem k70_open {w : World} {x : S70} {cs : List Value} (h : k70.K w x cs) : ∃ A0 c0 A1 c1 A2 c2, cs = [.slice A0 x.f0.length c0, .bool x.f1, .int .u64 x.f2.f0, .bool x.f2.f1, .int .u64 x.f3.f0, .bool x.f3.f1, .int .u64 x.f4.f0, .bool x.f4.f1, .slice A1 x.f5.length c1, .slice A2 x.f6.length c2] ∧ (x.f0.length ≤ c0 ∧ Kd.C Kd.string w A0 x.f0.length x.f0) ∧ (x.f5.length ≤ c1 ∧ Kd.C k61 w A1 x.f5.length x.f5) ∧ (x.f6.length ≤ c2 ∧ Kd.C k98 w A2 x.f6.length x.f6) := by
  obtain ⟨_, _, rfl, h0, ⟨_, _, rfl, h1, ⟨_, _, rfl, h2, ⟨_, _, rfl, h3, ⟨_, _, rfl, h4, ⟨_, _, rfl, h5, h6⟩⟩⟩⟩⟩⟩ := h
  obtain ⟨A0, c0, rfl, g0⟩ := h0
  obtain rfl := id h1
  obtain rfl := k61_open h2
  obtain rfl := k61_open h3
  obtain rfl := k61_open h4
  obtain ⟨A1, c1, rfl, g1⟩ := h5
  obtain ⟨A2, c2, rfl, g2⟩ := h6
  exact ⟨A0, c0, A1, c1, A2, c2, rfl, g0, g1, g2⟩
def rd_T70 (xs : List S70) (i : Int) : S70 := xs.getD i.toNat z70
theorem at_T70 {w : World} {A : Option Addr} {n : Nat} {xs : List S70} (h : Kd.C k70 w A n xs) (i : Int) (h0 : 0 ≤ i) (h1 : i < n) : ∃ ad, A = some ad ∧ ∃ A0 c0 A1 c1 A2 c2, w.cell? (ad.add (i.toNat * 10)) = some (.slice A0 (rd_T70 xs i).f0.length c0) ∧ w.cell? ⟨(ad.add (i.toNat * 10)).block, (ad.add (i.toNat * 10)).off + 1, none⟩ = some (.bool (rd_T70 xs i).f1) ∧ w.cell? ⟨(ad.add (i.toNat * 10)).block, (ad.add (i.toNat * 10)).off + 2, none⟩ = some (.int .u64 (rd_T70 xs i).f2.f0) ∧ w.cell? ⟨(ad.add (i.toNat * 10)).block, (ad.add (i.toNat * 10)).off + 3, none⟩ = some (.bool (rd_T70 xs i).f2.f1) ∧ w.cell? ⟨(ad.add (i.toNat * 10)).block, (ad.add (i.toNat * 10)).off + 4, none⟩ = some (.int .u64 (rd_T70 xs i).f3.f0) ∧ w.cell? ⟨(ad.add (i.toNat * 10)).block, (ad.add (i.toNat * 10)).off + 5, none⟩ = some (.bool (rd_T70 xs i).f3.f1) ∧ w.cell? ⟨(ad.add (i.toNat * 10)).block, (ad.add (i.toNat * 10)).off + 6, none⟩ = some (.int .u64 (rd_T70 xs i).f4.f0) ∧ w.cell? ⟨(ad.add (i.toNat * 10)).block, (ad.add (i.toNat * 10)).off + 7, none⟩ = some (.bool (rd_T70 xs i).f4.f1) ∧ w.cell? ⟨(ad.add (i.toNat * 10)).block, (ad.add (i.toNat * 10)).off + 8, none⟩ = some (.slice A1 (rd_T70 xs i).f5.length c1) ∧ w.cell? ⟨(ad.add (i.toNat * 10)).block, (ad.add (i.toNat * 10)).off + 9, none⟩ = some (.slice A2 (rd_T70 xs i).f6.length c2) ∧ ((rd_T70 xs i).f0.length ≤ c0 ∧ Kd.C Kd.string w A0 (rd_T70 xs i).f0.length (rd_T70 xs i).f0) ∧ ((rd_T70 xs i).f5.length ≤ c1 ∧ Kd.C k61 w A1 (rd_T70 xs i).f5.length (rd_T70 xs i).f5) ∧ ((rd_T70 xs i).f6.length ≤ c2 ∧ Kd.C k98 w A2 (rd_T70 xs i).f6.length (rd_T70 xs i).f6) := by
  obtain ⟨ad, c, e, _, hK, hc0⟩ := Kd.C_get h z70 i h0 h1
  have hc : ∀ j u, c[j]? = some u → w.cell? (ad.add (i.toNat * 10 + j)) = some u := hc0
  obtain ⟨A0, c0, A1, c1, A2, c2, rfl, g0, g1, g2⟩ := k70_open hK
  exact ⟨ad, e, A0, c0, A1, c1, A2, c2, hc 0 _ rfl, (by rw [← add_field _ _ 1 (by omega)]; exact hc 1 _ rfl), (by rw [← add_field _ _ 2 (by omega)]; exact hc 2 _ rfl), (by rw [← add_field _ _ 3 (by omega)]; exact hc 3 _ rfl), (by rw [← add_field _ _ 4 (by omega)]; exact hc 4 _ rfl), (by rw [← add_field _ _ 5 (by omega)]; exact hc 5 _ rfl), (by rw [← add_field _ _ 6 (by omega)]; exact hc 6 _ rfl), (by rw [← add_field _ _ 7 (by omega)]; exact hc 7 _ rfl), (by rw [← add_field _ _ 8 (by omega)]; exact hc 8 _ rfl), (by rw [← add_field _ _ 9 (by omega)]; exact hc 9 _ rfl), g0, g1, g2⟩
def W70 (y : S70) : Prop := (y.f0.length ≤ maxLen ∧ ∀ z ∈ y.f0, z.size ≤ maxLen) ∧ True ∧ W61 y.f2 ∧ W61 y.f3 ∧ W61 y.f4 ∧ (y.f5.length ≤ maxLen ∧ ∀ z ∈ y.f5, W61 z) ∧ (y.f6.length ≤ maxLen ∧ ∀ z ∈ y.f6, W98 z)
theorem op70 : OpK Tryd.prog 70 k70 W70 := by
  intro H enc w base spare held fuel cs x h
  obtain ⟨xs, n, rfl, hx, hl, hxs, hf⟩ := DataW.trod_struct Tryd.underlying70 h
  have hl' : cs.length = 10 := hl.trans (by kernel_rfl)
  obtain ⟨y0, J0, X0⟩ := OpK.field hxs hf 0 _ rfl 53 0 1 rfl rfl (by kernel_rfl) (OpK.slice Tryd.underlying53 (by kernel_rfl) (OpK.string Tryd.underlying9))
  obtain ⟨y1, J1, X1⟩ := OpK.field hxs hf 1 _ rfl 4 1 1 rfl rfl (by kernel_rfl) (OpK.bool Tryd.underlying4)
  obtain ⟨y2, J2, X2⟩ := OpK.field hxs hf 2 _ rfl 61 2 2 rfl rfl (by kernel_rfl) op61
  obtain ⟨y3, J3, X3⟩ := OpK.field hxs hf 3 _ rfl 61 4 2 rfl rfl (by kernel_rfl) op61
  obtain ⟨y4, J4, X4⟩ := OpK.field hxs hf 4 _ rfl 61 6 2 rfl rfl (by kernel_rfl) op61
  obtain ⟨y5, J5, X5⟩ := OpK.field hxs hf 5 _ rfl 67 8 1 rfl rfl (by kernel_rfl) (OpK.slice Tryd.underlying67 (by kernel_rfl) op61)
  obtain ⟨y6, J6, X6⟩ := OpK.field hxs hf 6 _ rfl 68 9 1 rfl rfl (by kernel_rfl) (OpK.slice Tryd.underlying68 (by kernel_rfl) op98)
  rw [List.take_of_length_le (by rw [List.length_drop]; omega)] at J6
  exact ⟨⟨y0, y1, y2, y3, y4, y5, y6⟩, ⟨_, _, split_at 0 1 cs, J0, ⟨_, _, split_at 1 1 cs, J1, ⟨_, _, split_at 2 2 cs, J2, ⟨_, _, split_at 4 2 cs, J3, ⟨_, _, split_at 6 2 cs, J4, ⟨_, _, split_at 8 1 cs, J5, J6⟩⟩⟩⟩⟩⟩, ⟨X0, X1, X2, X3, X4, X5, X6⟩⟩
structure S94 where
  f0 : ByteArray
  f1 : ByteArray
  f2 : S61
  f3 : S61
  f4 : S61
def z94 : S94 := ⟨ByteArray.empty, ByteArray.empty, z61, z61, z61⟩
def k94 : Kd S94 := Kd.iso (Kd.pair Kd.string (Kd.pair Kd.string (Kd.pair k61 (Kd.pair k61 (k61))))) (fun x : S94 => (x.f0, (x.f1, (x.f2, (x.f3, x.f4)))))
theorem k94_open {w : World} {x : S94} {cs : List Value} (h : k94.K w x cs) : cs = [.string x.f0, .string x.f1, .int .u64 x.f2.f0, .bool x.f2.f1, .int .u64 x.f3.f0, .bool x.f3.f1, .int .u64 x.f4.f0, .bool x.f4.f1] := by
  obtain ⟨_, _, rfl, h0, ⟨_, _, rfl, h1, ⟨_, _, rfl, h2, ⟨_, _, rfl, h3, h4⟩⟩⟩⟩ := h
  obtain rfl := id h0
  obtain rfl := id h1
  obtain rfl := k61_open h2
  obtain rfl := k61_open h3
  obtain rfl := k61_open h4
  rfl
theorem k94_mk (w : World) (x : S94) : k94.K w x [.string x.f0, .string x.f1, .int .u64 x.f2.f0, .bool x.f2.f1, .int .u64 x.f3.f0, .bool x.f3.f1, .int .u64 x.f4.f0, .bool x.f4.f1] := ⟨[.string x.f0], [.string x.f1, .int .u64 x.f2.f0, .bool x.f2.f1, .int .u64 x.f3.f0, .bool x.f3.f1, .int .u64 x.f4.f0, .bool x.f4.f1], rfl, rfl, ⟨[.string x.f1], [.int .u64 x.f2.f0, .bool x.f2.f1, .int .u64 x.f3.f0, .bool x.f3.f1, .int .u64 x.f4.f0, .bool x.f4.f1], rfl, rfl, ⟨[.int .u64 x.f2.f0, .bool x.f2.f1], [.int .u64 x.f3.f0, .bool x.f3.f1, .int .u64 x.f4.f0, .bool x.f4.f1], rfl, k61_mk w x.f2, ⟨[.int .u64 x.f3.f0, .bool x.f3.f1], [.int .u64 x.f4.f0, .bool x.f4.f1], rfl, k61_mk w x.f3, k61_mk w x.f4⟩⟩⟩⟩
def rd_T94 (xs : List S94) (i : Int) : S94 := xs.getD i.toNat z94
theorem at_T94 {w : World} {A : Option Addr} {n : Nat} {xs : List S94} (h : Kd.C k94 w A n xs) (i : Int) (h0 : 0 ≤ i) (h1 : i < n) : ∃ ad, A = some ad ∧ w.cell? (ad.add (i.toNat * 8)) = some (.string (rd_T94 xs i).f0) ∧ w.cell? ⟨(ad.add (i.toNat * 8)).block, (ad.add (i.toNat * 8)).off + 1, none⟩ = some (.string (rd_T94 xs i).f1) ∧ w.cell? ⟨(ad.add (i.toNat * 8)).block, (ad.add (i.toNat * 8)).off + 2, none⟩ = some (.int .u64 (rd_T94 xs i).f2.f0) ∧ w.cell? ⟨(ad.add (i.toNat * 8)).block, (ad.add (i.toNat * 8)).off + 3, none⟩ = some (.bool (rd_T94 xs i).f2.f1) ∧ w.cell? ⟨(ad.add (i.toNat * 8)).block, (ad.add (i.toNat * 8)).off + 4, none⟩ = some (.int .u64 (rd_T94 xs i).f3.f0) ∧ w.cell? ⟨(ad.add (i.toNat * 8)).block, (ad.add (i.toNat * 8)).off + 5, none⟩ = some (.bool (rd_T94 xs i).f3.f1) ∧ w.cell? ⟨(ad.add (i.toNat * 8)).block, (ad.add (i.toNat * 8)).off + 6, none⟩ = some (.int .u64 (rd_T94 xs i).f4.f0) ∧ w.cell? ⟨(ad.add (i.toNat * 8)).block, (ad.add (i.toNat * 8)).off + 7, none⟩ = some (.bool (rd_T94 xs i).f4.f1) := by
  obtain ⟨ad, c, e, _, hK, hc0⟩ := Kd.C_get h z94 i h0 h1
  have hc : ∀ j u, c[j]? = some u → w.cell? (ad.add (i.toNat * 8 + j)) = some u := hc0
  obtain rfl := k94_open hK
  exact ⟨ad, e, hc 0 _ rfl, (by rw [← add_field _ _ 1 (by omega)]; exact hc 1 _ rfl), (by rw [← add_field _ _ 2 (by omega)]; exact hc 2 _ rfl), (by rw [← add_field _ _ 3 (by omega)]; exact hc 3 _ rfl), (by rw [← add_field _ _ 4 (by omega)]; exact hc 4 _ rfl), (by rw [← add_field _ _ 5 (by omega)]; exact hc 5 _ rfl), (by rw [← add_field _ _ 6 (by omega)]; exact hc 6 _ rfl), (by rw [← add_field _ _ 7 (by omega)]; exact hc 7 _ rfl)⟩
def W94 (y : S94) : Prop := y.f0.size ≤ maxLen ∧ y.f1.size ≤ maxLen ∧ W61 y.f2 ∧ W61 y.f3 ∧ W61 y.f4
theorem op94 : OpK Tryd.prog 94 k94 W94 := by
  intro H enc w base spare held fuel cs x h
  obtain ⟨xs, n, rfl, hx, hl, hxs, hf⟩ := DataW.trod_struct Tryd.underlying94 h
  have hl' : cs.length = 8 := hl.trans (by kernel_rfl)
  obtain ⟨y0, J0, X0⟩ := OpK.field hxs hf 0 _ rfl 9 0 1 rfl rfl (by kernel_rfl) (OpK.string Tryd.underlying9)
  obtain ⟨y1, J1, X1⟩ := OpK.field hxs hf 1 _ rfl 9 1 1 rfl rfl (by kernel_rfl) (OpK.string Tryd.underlying9)
  obtain ⟨y2, J2, X2⟩ := OpK.field hxs hf 2 _ rfl 61 2 2 rfl rfl (by kernel_rfl) op61
  obtain ⟨y3, J3, X3⟩ := OpK.field hxs hf 3 _ rfl 61 4 2 rfl rfl (by kernel_rfl) op61
  obtain ⟨y4, J4, X4⟩ := OpK.field hxs hf 4 _ rfl 61 6 2 rfl rfl (by kernel_rfl) op61
  rw [List.take_of_length_le (by rw [List.length_drop]; omega)] at J4
  exact ⟨⟨y0, y1, y2, y3, y4⟩, ⟨_, _, split_at 0 1 cs, J0, ⟨_, _, split_at 1 1 cs, J1, ⟨_, _, split_at 2 2 cs, J2, ⟨_, _, split_at 4 2 cs, J3, J4⟩⟩⟩⟩, ⟨X0, X1, X2, X3, X4⟩⟩
structure S48 where
  f0 : Int
  f1 : Bool
def z48 : S48 := ⟨(0 : Int), false⟩
def k48 : Kd S48 := Kd.iso (Kd.pair (Kd.int .u64) (Kd.bool)) (fun x : S48 => (x.f0, x.f1))
theorem k48_open {w : World} {x : S48} {cs : List Value} (h : k48.K w x cs) : cs = [.int .u64 x.f0, .bool x.f1] := by
  obtain ⟨_, _, rfl, h0, h1⟩ := h
  obtain rfl := id h0
  obtain rfl := id h1
  rfl
theorem k48_mk (w : World) (x : S48) : k48.K w x [.int .u64 x.f0, .bool x.f1] := ⟨[.int .u64 x.f0], [.bool x.f1], rfl, rfl, rfl⟩
def rd_T48 (xs : List S48) (i : Int) : S48 := xs.getD i.toNat z48
theorem at_T48 {w : World} {A : Option Addr} {n : Nat} {xs : List S48} (h : Kd.C k48 w A n xs) (i : Int) (h0 : 0 ≤ i) (h1 : i < n) : ∃ ad, A = some ad ∧ w.cell? (ad.add (i.toNat * 2)) = some (.int .u64 (rd_T48 xs i).f0) ∧ w.cell? ⟨(ad.add (i.toNat * 2)).block, (ad.add (i.toNat * 2)).off + 1, none⟩ = some (.bool (rd_T48 xs i).f1) := by
  obtain ⟨ad, c, e, _, hK, hc0⟩ := Kd.C_get h z48 i h0 h1
  have hc : ∀ j u, c[j]? = some u → w.cell? (ad.add (i.toNat * 2 + j)) = some u := hc0
  obtain rfl := k48_open hK
  exact ⟨ad, e, hc 0 _ rfl, (by rw [← add_field _ _ 1 (by omega)]; exact hc 1 _ rfl)⟩
def W48 (y : S48) : Prop := (Lit.int .u64 y.f0).wf = true ∧ True
theorem op48 : OpK Tryd.prog 48 k48 W48 := by
  intro H enc w base spare held fuel cs x h
  obtain ⟨xs, n, rfl, hx, hl, hxs, hf⟩ := DataW.trod_struct Tryd.underlying48 h
  have hl' : cs.length = 2 := hl.trans (by kernel_rfl)
  obtain ⟨y0, J0, X0⟩ := OpK.field hxs hf 0 _ rfl 25 0 1 rfl rfl (by kernel_rfl) (OpK.int Tryd.underlying25)
  obtain ⟨y1, J1, X1⟩ := OpK.field hxs hf 1 _ rfl 4 1 1 rfl rfl (by kernel_rfl) (OpK.bool Tryd.underlying4)
  rw [List.take_of_length_le (by rw [List.length_drop]; omega)] at J1
  exact ⟨⟨y0, y1⟩, ⟨_, _, split_at 0 1 cs, J0, J1⟩, ⟨X0, X1⟩⟩
structure S99 where
  f0 : Int
  f1 : Int
  f2 : Int
  f3 : Bool
def z99 : S99 := ⟨(0 : Int), (0 : Int), (0 : Int), false⟩
def k99 : Kd S99 := Kd.iso (Kd.pair (Kd.int .u64) (Kd.pair (Kd.int .u64) (Kd.pair (Kd.int .u64) (Kd.bool)))) (fun x : S99 => (x.f0, (x.f1, (x.f2, x.f3))))
theorem k99_open {w : World} {x : S99} {cs : List Value} (h : k99.K w x cs) : cs = [.int .u64 x.f0, .int .u64 x.f1, .int .u64 x.f2, .bool x.f3] := by
  obtain ⟨_, _, rfl, h0, ⟨_, _, rfl, h1, ⟨_, _, rfl, h2, h3⟩⟩⟩ := h
  obtain rfl := id h0
  obtain rfl := id h1
  obtain rfl := id h2
  obtain rfl := id h3
  rfl
theorem k99_mk (w : World) (x : S99) : k99.K w x [.int .u64 x.f0, .int .u64 x.f1, .int .u64 x.f2, .bool x.f3] := ⟨[.int .u64 x.f0], [.int .u64 x.f1, .int .u64 x.f2, .bool x.f3], rfl, rfl, ⟨[.int .u64 x.f1], [.int .u64 x.f2, .bool x.f3], rfl, rfl, ⟨[.int .u64 x.f2], [.bool x.f3], rfl, rfl, rfl⟩⟩⟩
def rd_T99 (xs : List S99) (i : Int) : S99 := xs.getD i.toNat z99
theorem at_T99 {w : World} {A : Option Addr} {n : Nat} {xs : List S99} (h : Kd.C k99 w A n xs) (i : Int) (h0 : 0 ≤ i) (h1 : i < n) : ∃ ad, A = some ad ∧ w.cell? (ad.add (i.toNat * 4)) = some (.int .u64 (rd_T99 xs i).f0) ∧ w.cell? ⟨(ad.add (i.toNat * 4)).block, (ad.add (i.toNat * 4)).off + 1, none⟩ = some (.int .u64 (rd_T99 xs i).f1) ∧ w.cell? ⟨(ad.add (i.toNat * 4)).block, (ad.add (i.toNat * 4)).off + 2, none⟩ = some (.int .u64 (rd_T99 xs i).f2) ∧ w.cell? ⟨(ad.add (i.toNat * 4)).block, (ad.add (i.toNat * 4)).off + 3, none⟩ = some (.bool (rd_T99 xs i).f3) := by
  obtain ⟨ad, c, e, _, hK, hc0⟩ := Kd.C_get h z99 i h0 h1
  have hc : ∀ j u, c[j]? = some u → w.cell? (ad.add (i.toNat * 4 + j)) = some u := hc0
  obtain rfl := k99_open hK
  exact ⟨ad, e, hc 0 _ rfl, (by rw [← add_field _ _ 1 (by omega)]; exact hc 1 _ rfl), (by rw [← add_field _ _ 2 (by omega)]; exact hc 2 _ rfl), (by rw [← add_field _ _ 3 (by omega)]; exact hc 3 _ rfl)⟩
def W99 (y : S99) : Prop := (Lit.int .u64 y.f0).wf = true ∧ (Lit.int .u64 y.f1).wf = true ∧ (Lit.int .u64 y.f2).wf = true ∧ True
theorem op99 : OpK Tryd.prog 99 k99 W99 := by
  intro H enc w base spare held fuel cs x h
  obtain ⟨xs, n, rfl, hx, hl, hxs, hf⟩ := DataW.trod_struct Tryd.underlying99 h
  have hl' : cs.length = 4 := hl.trans (by kernel_rfl)
  obtain ⟨y0, J0, X0⟩ := OpK.field hxs hf 0 _ rfl 25 0 1 rfl rfl (by kernel_rfl) (OpK.int Tryd.underlying25)
  obtain ⟨y1, J1, X1⟩ := OpK.field hxs hf 1 _ rfl 25 1 1 rfl rfl (by kernel_rfl) (OpK.int Tryd.underlying25)
  obtain ⟨y2, J2, X2⟩ := OpK.field hxs hf 2 _ rfl 25 2 1 rfl rfl (by kernel_rfl) (OpK.int Tryd.underlying25)
  obtain ⟨y3, J3, X3⟩ := OpK.field hxs hf 3 _ rfl 4 3 1 rfl rfl (by kernel_rfl) (OpK.bool Tryd.underlying4)
  rw [List.take_of_length_le (by rw [List.length_drop]; omega)] at J3
  exact ⟨⟨y0, y1, y2, y3⟩, ⟨_, _, split_at 0 1 cs, J0, ⟨_, _, split_at 1 1 cs, J1, ⟨_, _, split_at 2 1 cs, J2, J3⟩⟩⟩, ⟨X0, X1, X2, X3⟩⟩
structure S57 where
  f0 : List ByteArray
  f1 : Bool
  f2 : S48
  f3 : S48
  f4 : S48
  f5 : List S48
  f6 : List S99
def z57 : S57 := ⟨[], false, z48, z48, z48, [], []⟩
def k57 : Kd S57 := Kd.iso (Kd.pair (Kd.slice 9 Kd.string) (Kd.pair Kd.bool (Kd.pair k48 (Kd.pair k48 (Kd.pair k48 (Kd.pair (Kd.slice 48 k48) ((Kd.slice 99 k99)))))))) (fun x : S57 => (x.f0, (x.f1, (x.f2, (x.f3, (x.f4, (x.f5, x.f6)))))))
theorem k57_open {w : World} {x : S57} {cs : List Value} (h : k57.K w x cs) : ∃ A0 c0 A1 c1 A2 c2, cs = [.slice A0 x.f0.length c0, .bool x.f1, .int .u64 x.f2.f0, .bool x.f2.f1, .int .u64 x.f3.f0, .bool x.f3.f1, .int .u64 x.f4.f0, .bool x.f4.f1, .slice A1 x.f5.length c1, .slice A2 x.f6.length c2] ∧ (x.f0.length ≤ c0 ∧ Kd.C Kd.string w A0 x.f0.length x.f0) ∧ (x.f5.length ≤ c1 ∧ Kd.C k48 w A1 x.f5.length x.f5) ∧ (x.f6.length ≤ c2 ∧ Kd.C k99 w A2 x.f6.length x.f6) := by
  obtain ⟨_, _, rfl, h0, ⟨_, _, rfl, h1, ⟨_, _, rfl, h2, ⟨_, _, rfl, h3, ⟨_, _, rfl, h4, ⟨_, _, rfl, h5, h6⟩⟩⟩⟩⟩⟩ := h
  obtain ⟨A0, c0, rfl, g0⟩ := h0
  obtain rfl := id h1
  obtain rfl := k48_open h2
  obtain rfl := k48_open h3
  obtain rfl := k48_open h4
  obtain ⟨A1, c1, rfl, g1⟩ := h5
  obtain ⟨A2, c2, rfl, g2⟩ := h6
  exact ⟨A0, c0, A1, c1, A2, c2, rfl, g0, g1, g2⟩
def rd_T57 (xs : List S57) (i : Int) : S57 := xs.getD i.toNat z57
theorem at_T57 {w : World} {A : Option Addr} {n : Nat} {xs : List S57} (h : Kd.C k57 w A n xs) (i : Int) (h0 : 0 ≤ i) (h1 : i < n) : ∃ ad, A = some ad ∧ ∃ A0 c0 A1 c1 A2 c2, w.cell? (ad.add (i.toNat * 10)) = some (.slice A0 (rd_T57 xs i).f0.length c0) ∧ w.cell? ⟨(ad.add (i.toNat * 10)).block, (ad.add (i.toNat * 10)).off + 1, none⟩ = some (.bool (rd_T57 xs i).f1) ∧ w.cell? ⟨(ad.add (i.toNat * 10)).block, (ad.add (i.toNat * 10)).off + 2, none⟩ = some (.int .u64 (rd_T57 xs i).f2.f0) ∧ w.cell? ⟨(ad.add (i.toNat * 10)).block, (ad.add (i.toNat * 10)).off + 3, none⟩ = some (.bool (rd_T57 xs i).f2.f1) ∧ w.cell? ⟨(ad.add (i.toNat * 10)).block, (ad.add (i.toNat * 10)).off + 4, none⟩ = some (.int .u64 (rd_T57 xs i).f3.f0) ∧ w.cell? ⟨(ad.add (i.toNat * 10)).block, (ad.add (i.toNat * 10)).off + 5, none⟩ = some (.bool (rd_T57 xs i).f3.f1) ∧ w.cell? ⟨(ad.add (i.toNat * 10)).block, (ad.add (i.toNat * 10)).off + 6, none⟩ = some (.int .u64 (rd_T57 xs i).f4.f0) ∧ w.cell? ⟨(ad.add (i.toNat * 10)).block, (ad.add (i.toNat * 10)).off + 7, none⟩ = some (.bool (rd_T57 xs i).f4.f1) ∧ w.cell? ⟨(ad.add (i.toNat * 10)).block, (ad.add (i.toNat * 10)).off + 8, none⟩ = some (.slice A1 (rd_T57 xs i).f5.length c1) ∧ w.cell? ⟨(ad.add (i.toNat * 10)).block, (ad.add (i.toNat * 10)).off + 9, none⟩ = some (.slice A2 (rd_T57 xs i).f6.length c2) ∧ ((rd_T57 xs i).f0.length ≤ c0 ∧ Kd.C Kd.string w A0 (rd_T57 xs i).f0.length (rd_T57 xs i).f0) ∧ ((rd_T57 xs i).f5.length ≤ c1 ∧ Kd.C k48 w A1 (rd_T57 xs i).f5.length (rd_T57 xs i).f5) ∧ ((rd_T57 xs i).f6.length ≤ c2 ∧ Kd.C k99 w A2 (rd_T57 xs i).f6.length (rd_T57 xs i).f6) := by
  obtain ⟨ad, c, e, _, hK, hc0⟩ := Kd.C_get h z57 i h0 h1
  have hc : ∀ j u, c[j]? = some u → w.cell? (ad.add (i.toNat * 10 + j)) = some u := hc0
  obtain ⟨A0, c0, A1, c1, A2, c2, rfl, g0, g1, g2⟩ := k57_open hK
  exact ⟨ad, e, A0, c0, A1, c1, A2, c2, hc 0 _ rfl, (by rw [← add_field _ _ 1 (by omega)]; exact hc 1 _ rfl), (by rw [← add_field _ _ 2 (by omega)]; exact hc 2 _ rfl), (by rw [← add_field _ _ 3 (by omega)]; exact hc 3 _ rfl), (by rw [← add_field _ _ 4 (by omega)]; exact hc 4 _ rfl), (by rw [← add_field _ _ 5 (by omega)]; exact hc 5 _ rfl), (by rw [← add_field _ _ 6 (by omega)]; exact hc 6 _ rfl), (by rw [← add_field _ _ 7 (by omega)]; exact hc 7 _ rfl), (by rw [← add_field _ _ 8 (by omega)]; exact hc 8 _ rfl), (by rw [← add_field _ _ 9 (by omega)]; exact hc 9 _ rfl), g0, g1, g2⟩
def W57 (y : S57) : Prop := (y.f0.length ≤ maxLen ∧ ∀ z ∈ y.f0, z.size ≤ maxLen) ∧ True ∧ W48 y.f2 ∧ W48 y.f3 ∧ W48 y.f4 ∧ (y.f5.length ≤ maxLen ∧ ∀ z ∈ y.f5, W48 z) ∧ (y.f6.length ≤ maxLen ∧ ∀ z ∈ y.f6, W99 z)
theorem op57 : OpK Tryd.prog 57 k57 W57 := by
  intro H enc w base spare held fuel cs x h
  obtain ⟨xs, n, rfl, hx, hl, hxs, hf⟩ := DataW.trod_struct Tryd.underlying57 h
  have hl' : cs.length = 10 := hl.trans (by kernel_rfl)
  obtain ⟨y0, J0, X0⟩ := OpK.field hxs hf 0 _ rfl 53 0 1 rfl rfl (by kernel_rfl) (OpK.slice Tryd.underlying53 (by kernel_rfl) (OpK.string Tryd.underlying9))
  obtain ⟨y1, J1, X1⟩ := OpK.field hxs hf 1 _ rfl 4 1 1 rfl rfl (by kernel_rfl) (OpK.bool Tryd.underlying4)
  obtain ⟨y2, J2, X2⟩ := OpK.field hxs hf 2 _ rfl 48 2 2 rfl rfl (by kernel_rfl) op48
  obtain ⟨y3, J3, X3⟩ := OpK.field hxs hf 3 _ rfl 48 4 2 rfl rfl (by kernel_rfl) op48
  obtain ⟨y4, J4, X4⟩ := OpK.field hxs hf 4 _ rfl 48 6 2 rfl rfl (by kernel_rfl) op48
  obtain ⟨y5, J5, X5⟩ := OpK.field hxs hf 5 _ rfl 54 8 1 rfl rfl (by kernel_rfl) (OpK.slice Tryd.underlying54 (by kernel_rfl) op48)
  obtain ⟨y6, J6, X6⟩ := OpK.field hxs hf 6 _ rfl 55 9 1 rfl rfl (by kernel_rfl) (OpK.slice Tryd.underlying55 (by kernel_rfl) op99)
  rw [List.take_of_length_le (by rw [List.length_drop]; omega)] at J6
  exact ⟨⟨y0, y1, y2, y3, y4, y5, y6⟩, ⟨_, _, split_at 0 1 cs, J0, ⟨_, _, split_at 1 1 cs, J1, ⟨_, _, split_at 2 2 cs, J2, ⟨_, _, split_at 4 2 cs, J3, ⟨_, _, split_at 6 2 cs, J4, ⟨_, _, split_at 8 1 cs, J5, J6⟩⟩⟩⟩⟩⟩, ⟨X0, X1, X2, X3, X4, X5, X6⟩⟩
structure S91 where
  f0 : ByteArray
  f1 : ByteArray
  f2 : S48
  f3 : S48
  f4 : S48
def z91 : S91 := ⟨ByteArray.empty, ByteArray.empty, z48, z48, z48⟩
def k91 : Kd S91 := Kd.iso (Kd.pair Kd.string (Kd.pair Kd.string (Kd.pair k48 (Kd.pair k48 (k48))))) (fun x : S91 => (x.f0, (x.f1, (x.f2, (x.f3, x.f4)))))
theorem k91_open {w : World} {x : S91} {cs : List Value} (h : k91.K w x cs) : cs = [.string x.f0, .string x.f1, .int .u64 x.f2.f0, .bool x.f2.f1, .int .u64 x.f3.f0, .bool x.f3.f1, .int .u64 x.f4.f0, .bool x.f4.f1] := by
  obtain ⟨_, _, rfl, h0, ⟨_, _, rfl, h1, ⟨_, _, rfl, h2, ⟨_, _, rfl, h3, h4⟩⟩⟩⟩ := h
  obtain rfl := id h0
  obtain rfl := id h1
  obtain rfl := k48_open h2
  obtain rfl := k48_open h3
  obtain rfl := k48_open h4
  rfl
theorem k91_mk (w : World) (x : S91) : k91.K w x [.string x.f0, .string x.f1, .int .u64 x.f2.f0, .bool x.f2.f1, .int .u64 x.f3.f0, .bool x.f3.f1, .int .u64 x.f4.f0, .bool x.f4.f1] := ⟨[.string x.f0], [.string x.f1, .int .u64 x.f2.f0, .bool x.f2.f1, .int .u64 x.f3.f0, .bool x.f3.f1, .int .u64 x.f4.f0, .bool x.f4.f1], rfl, rfl, ⟨[.string x.f1], [.int .u64 x.f2.f0, .bool x.f2.f1, .int .u64 x.f3.f0, .bool x.f3.f1, .int .u64 x.f4.f0, .bool x.f4.f1], rfl, rfl, ⟨[.int .u64 x.f2.f0, .bool x.f2.f1], [.int .u64 x.f3.f0, .bool x.f3.f1, .int .u64 x.f4.f0, .bool x.f4.f1], rfl, k48_mk w x.f2, ⟨[.int .u64 x.f3.f0, .bool x.f3.f1], [.int .u64 x.f4.f0, .bool x.f4.f1], rfl, k48_mk w x.f3, k48_mk w x.f4⟩⟩⟩⟩
def rd_T91 (xs : List S91) (i : Int) : S91 := xs.getD i.toNat z91
theorem at_T91 {w : World} {A : Option Addr} {n : Nat} {xs : List S91} (h : Kd.C k91 w A n xs) (i : Int) (h0 : 0 ≤ i) (h1 : i < n) : ∃ ad, A = some ad ∧ w.cell? (ad.add (i.toNat * 8)) = some (.string (rd_T91 xs i).f0) ∧ w.cell? ⟨(ad.add (i.toNat * 8)).block, (ad.add (i.toNat * 8)).off + 1, none⟩ = some (.string (rd_T91 xs i).f1) ∧ w.cell? ⟨(ad.add (i.toNat * 8)).block, (ad.add (i.toNat * 8)).off + 2, none⟩ = some (.int .u64 (rd_T91 xs i).f2.f0) ∧ w.cell? ⟨(ad.add (i.toNat * 8)).block, (ad.add (i.toNat * 8)).off + 3, none⟩ = some (.bool (rd_T91 xs i).f2.f1) ∧ w.cell? ⟨(ad.add (i.toNat * 8)).block, (ad.add (i.toNat * 8)).off + 4, none⟩ = some (.int .u64 (rd_T91 xs i).f3.f0) ∧ w.cell? ⟨(ad.add (i.toNat * 8)).block, (ad.add (i.toNat * 8)).off + 5, none⟩ = some (.bool (rd_T91 xs i).f3.f1) ∧ w.cell? ⟨(ad.add (i.toNat * 8)).block, (ad.add (i.toNat * 8)).off + 6, none⟩ = some (.int .u64 (rd_T91 xs i).f4.f0) ∧ w.cell? ⟨(ad.add (i.toNat * 8)).block, (ad.add (i.toNat * 8)).off + 7, none⟩ = some (.bool (rd_T91 xs i).f4.f1) := by
  obtain ⟨ad, c, e, _, hK, hc0⟩ := Kd.C_get h z91 i h0 h1
  have hc : ∀ j u, c[j]? = some u → w.cell? (ad.add (i.toNat * 8 + j)) = some u := hc0
  obtain rfl := k91_open hK
  exact ⟨ad, e, hc 0 _ rfl, (by rw [← add_field _ _ 1 (by omega)]; exact hc 1 _ rfl), (by rw [← add_field _ _ 2 (by omega)]; exact hc 2 _ rfl), (by rw [← add_field _ _ 3 (by omega)]; exact hc 3 _ rfl), (by rw [← add_field _ _ 4 (by omega)]; exact hc 4 _ rfl), (by rw [← add_field _ _ 5 (by omega)]; exact hc 5 _ rfl), (by rw [← add_field _ _ 6 (by omega)]; exact hc 6 _ rfl), (by rw [← add_field _ _ 7 (by omega)]; exact hc 7 _ rfl)⟩
def W91 (y : S91) : Prop := y.f0.size ≤ maxLen ∧ y.f1.size ≤ maxLen ∧ W48 y.f2 ∧ W48 y.f3 ∧ W48 y.f4
theorem op91 : OpK Tryd.prog 91 k91 W91 := by
  intro H enc w base spare held fuel cs x h
  obtain ⟨xs, n, rfl, hx, hl, hxs, hf⟩ := DataW.trod_struct Tryd.underlying91 h
  have hl' : cs.length = 8 := hl.trans (by kernel_rfl)
  obtain ⟨y0, J0, X0⟩ := OpK.field hxs hf 0 _ rfl 9 0 1 rfl rfl (by kernel_rfl) (OpK.string Tryd.underlying9)
  obtain ⟨y1, J1, X1⟩ := OpK.field hxs hf 1 _ rfl 9 1 1 rfl rfl (by kernel_rfl) (OpK.string Tryd.underlying9)
  obtain ⟨y2, J2, X2⟩ := OpK.field hxs hf 2 _ rfl 48 2 2 rfl rfl (by kernel_rfl) op48
  obtain ⟨y3, J3, X3⟩ := OpK.field hxs hf 3 _ rfl 48 4 2 rfl rfl (by kernel_rfl) op48
  obtain ⟨y4, J4, X4⟩ := OpK.field hxs hf 4 _ rfl 48 6 2 rfl rfl (by kernel_rfl) op48
  rw [List.take_of_length_le (by rw [List.length_drop]; omega)] at J4
  exact ⟨⟨y0, y1, y2, y3, y4⟩, ⟨_, _, split_at 0 1 cs, J0, ⟨_, _, split_at 1 1 cs, J1, ⟨_, _, split_at 2 2 cs, J2, ⟨_, _, split_at 4 2 cs, J3, J4⟩⟩⟩⟩, ⟨X0, X1, X2, X3, X4⟩⟩
end Go.Proofs.YtdbmcikoiilanaaDoor.Kn
