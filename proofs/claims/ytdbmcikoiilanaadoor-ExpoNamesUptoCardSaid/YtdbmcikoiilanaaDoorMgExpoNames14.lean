/- expo: Of as a Call, rows of Of as rows of lines, sizes. Struct types as kinds, and how arguments of these types lie in memory: printed by the session's kindgen.py. How small arguments of the struct types lie in memory: printed by the session's obgen.py. expo: the law's Right of an answer (tallyroomlaw31), as a Call: if it is right, its rows are few and short. expo: the law's Of of an answer (tallyroomlaw28), as a Call. expo: the lines of a right answer may all be told; how many lines their text has; sizes. No walk. expo: the lines of an answer of the document's: how many, that all may be told, sizes. No walk. expo: the law's Of of an answer (tallyroomlaw28): the walk. expo: Out, as a Call. ExpoNames: the law's walk. -/
import Derived.Test.YtdbmcikoiilanaaDoorMgExpoNames11
import Derived.Test.YtdbmcikoiilanaaDoorMgExpoNames12
import Derived.Test.YtdbmcikoiilanaaDoorMgExpoNames13
import Derived.Test.YtdbmcikoiilanaaDoorMgExpoNames2
import Derived.Test.YtdbmcikoiilanaaDoorProg
import Derived.Test.YtdbmcikoiilanaaDoorMgExpoNames3
set_option linter.unusedVariables false
set_option linter.unusedSimpArgs false
namespace Go.Proofs.YtdbmcikoiilanaaDoor.Xp
open Go.RowKit Go.Proofs.YtdbmcikoiilanaaDoor.B0 Go.Proofs.YtdbmcikoiilanaaDoorW.PrintWords Go.Proofs.YtdbmcikoiilanaaDoor.Bld Go.Proofs.YtdbmcikoiilanaaDoor.Pp Go.Proofs.YtdbmcikoiilanaaDoor.Kn

theorem infoR : (Tryd.prog.info? 27).map (fun i => (i.zero, i.size, i.bytes)) = some (some (.agg #[(.string ⟨#[]⟩), (.slice none 0 0), (.int .u64 0)]), 3, 48) := by kernel_rfl
/-- elements as they read at an older world. -/
def atK {α : Type} (d : Kd α) (w0 : World) : Kd α where
  sz := d.sz
  E := []
  K := fun _ x cs => d.K w0 x cs
  M := fun _ _ _ x cs => d.K w0 x cs
  K_len := d.K_len
  K_one := d.K_one
  K_below := fun _ h => h
  K_of_M := fun h => h
  M_mono := fun _ h => h
  M_bound := fun h => h
  M_move := fun _ h => h
  M_lower := fun _ h => h
theorem atK_C {α : Type} {d : Kd α} {w0 w : World} {A : Option Addr} {n : Nat} {xs : List α} (h : (atK d w0).C w A n xs) (hb : Below w0.heap.size w0 w) : d.C w A n xs :=
  ReadsRow.imp_ (size := d.sz) (R := fun x cs => d.K w0 x cs) h (Below.refl _ _) (fun _ _ hp => d.K_below hb hp)
theorem atK_of {α : Type} {d : Kd α} {w0 w : World} {A : Option Addr} {n : Nat} {xs : List α} (h : d.C w0 A n xs) (hb : Below w0.heap.size w0 w) : ReadsRow (d.K w0) d.sz w A n xs := ReadsRow.imp_ h hb (fun _ _ hp => hp)

theorem LW.of_R {w : World} {base : Nat} {v : Value} {xs : List SLin} (h : Kd.R k43 43 w base (fun _ => True) v xs) : LW w base v xs := by
  obtain ⟨_, inner, hown, hr⟩ := h
  have hM : ∀ (x : SLin) (c : List Value), Kd.M k43 w base (fun k => True ∧ some k ≠ v.ownBlock) x c → LRow w x c := by
    rintro x c ⟨_, _, rfl, rfl, _, _, rfl, ⟨v1, rfl, hv⟩, rfl⟩
    obtain ⟨A, c, rfl, h1, h2, h3⟩ := LabAt.of_R (Kd.R_mono hv (fun _ _ => trivial))
    exact ⟨A, c, rfl, h1, h2, h3⟩
  have hlr : ∀ (x : SLin) (c : List Value), LRow w x c → c.length = 3 ∧ ∀ u ∈ c, u.oneCell' = true := by
    rintro x c ⟨A, c2, rfl, _⟩
    exact ⟨rfl, fun u hu => by simp only [List.mem_cons, List.not_mem_nil, or_false] at hu; rcases hu with rfl | rfl | rfl <;> rfl⟩
  have hrr := Kd.reps_raw (hr.imp_ hM) hlr
  refine ⟨Kd.chunks 3 xs.length inner, ⟨fun _ _ => trivial, inner, by rw [Kd.chunks_length]; exact hown, hrr⟩, by rw [Kd.chunks_length], fun i x hx => ?_⟩
  have hl := (List.getElem?_eq_some_iff.1 hx).1
  exact ⟨_, List.getElem?_eq_getElem (by rw [Kd.chunks_length]; exact hl), by
    have h1 := hM _ _ (hr.2 i x hx)
    have h2 := Kd.chunks_get (List.getElem?_eq_getElem (l := Kd.chunks 3 xs.length inner) (i := i) (by rw [Kd.chunks_length]; exact hl))
    rw [h2]; exact h1⟩

/-- what the laws' loops let through. -/
def goodX (x : RLin) : Prop := x.f1.length ≤ 20 ∧ x.f0.size ≤ 200 ∧ ∀ y ∈ x.f1, y.f0.size + y.f1.size ≤ 500
def u64L (l : List RLin) : Prop := ∀ x ∈ l, 0 ≤ x.f2 ∧ x.f2 ≤ 18446744073709551615
theorem u64L_of {l : List RLin} (h : ∀ x ∈ l, Ob.WB27 x) : u64L l := fun x hx => wf_u64 (h x hx).2.2
/-- strings are small. -/
def smL (l : List RLin) : Prop := ∀ x ∈ l, x.f0.size ≤ 1048576 ∧ x.f1.length ≤ 1048576 ∧ ∀ y ∈ x.f1, y.f0.size ≤ 1048576 ∧ y.f1.size ≤ 1048576
theorem smL_of {l : List RLin} (h : ∀ x ∈ l, Ob.WB27 x) : smL l := fun x hx => ⟨(h x hx).1, (h x hx).2.1.1, fun y hy => (h x hx).2.1.2 y hy⟩
theorem wl_bound : ∀ (l : List RLab) (q : Nat), (∀ y ∈ l, y.f0.size + y.f1.size ≤ q) → wl ((l.map cvB).map lbM) ≤ l.length * (q + 3)
  | [], q, _ => by simp [wl]
  | y :: l, q, h => by
    have h1 := wl_bound l q (fun z hz => h z (List.mem_cons_of_mem _ hz))
    have h2 := h y List.mem_cons_self
    have e1 : (lbM (cvB y)).k.length = y.f0.size := rfl
    have e2 : (lbM (cvB y)).t.length = y.f1.size := rfl
    simp only [List.map_cons, wl, List.length_cons, Nat.succ_mul, e1, e2]
    omega
theorem line_bound (x : RLin) (h : goodX x) (hv : 0 ≤ x.f2 ∧ x.f2 ≤ 18446744073709551615) : (lineP (lnM (cvL x))).length ≤ 31000 := by
  have h1 := lineP_len (lnM (cvL x)) (by show x.f2.toNat < _; omega)
  have h2 := wl_bound x.f1 500 h.2.2
  have e1 : (lnM (cvL x)).n.length = x.f0.size := rfl
  have e2 : (lnM (cvL x)).ls = (x.f1.map cvB).map lbM := rfl
  rw [e2, e1] at h1
  have h3 := h.1; have h4 := h.2.1
  have h5 : x.f1.length * (500 + 3) ≤ 20 * (500 + 3) := Nat.mul_le_mul_right _ h3
  omega
theorem flat_bound : ∀ (l : List Ln) (q : Nat), (∀ x ∈ l, (lineP x).length ≤ q) → (l.flatMap lineP).length ≤ l.length * q
  | [], q, _ => by simp
  | x :: l, q, h => by
    have h1 := flat_bound l q (fun z hz => h z (List.mem_cons_of_mem _ hz))
    have h2 := h x List.mem_cons_self
    rw [List.flatMap_cons, List.length_append, List.length_cons, Nat.succ_mul]; omega
theorem of_bound (l : List RLin) (hg : ∀ x ∈ l, goodX x) (hu : u64L l) : (((l.map cvL).map lnM).flatMap lineP).length ≤ l.length * 31000 := by
  have h := flat_bound ((l.map cvL).map lnM) 31000 (fun x hx => by
    obtain ⟨y, hy, rfl⟩ := List.mem_map.1 hx
    obtain ⟨z, hz, rfl⟩ := List.mem_map.1 hy
    exact line_bound z (hg z hz) (hu z hz))
  simpa using h
theorem of_okV (l : List RLin) (hu : u64L l) : okV (l.map cvL) := fun x hx => by
  obtain ⟨y, hy, rfl⟩ := List.mem_map.1 hx
  have := hu y hy
  show 0 ≤ y.f2 ∧ y.f2 < _; omega
theorem vs_of (xs : List SLin) (h : okV xs) : ∀ x ∈ xs.map lnM, x.v < 18446744073709551616 := fun x hx => by
  obtain ⟨y, hy, rfl⟩ := List.mem_map.1 hx
  have := h y hy
  show y.f2.toNat < _; omega
theorem Of_q (w : World) (A : Option Addr) (c : Nat) (l : List RLin) (hC : Kd.C k27 w A l.length l) (hc : l.length ≤ c) (hl : l.length ≤ 1000) (hg : ∀ x ∈ l, goodX x) :
    Calls Tryd.prog 10 #[.slice A l.length c] w fun e w' => ∃ v, e = .returned v ∧ LW w' w.heap.size v (l.map cvL) ∧ Below w.heap.size w w' :=
  (tallyroomlaw36_Of.calls (l.length * (20 + 2) + 1) A c l (l.map cvL) w hC hc (of_f l 20 (by omega) (by omega) (fun x hx => (hg x hx).1))).mono fun e w' ⟨v, h1, h2, h3⟩ => ⟨v, h1, LW.of_R (Kd.S_R h2), h3⟩
theorem PEnd.some {s : ByteArray} {w w' : World} {v : Value} {er : Int} {L : List Ln} (h : PEnd s w w' v er) (hp : parseR s.data.toList = some L) : ∃ ys : List SLin, ys.map lnM = L ∧ er = 0 ∧ PSL w' w.heap.size v ys ∧ okV ys ∧ ((ys.map lnM).flatMap lineP).length ≤ 200000000 := by
  rcases h with ⟨xs, h1, h2, h3, h4, h5⟩ | ⟨h1, _⟩
  · exact ⟨xs, Option.some.inj (h1.symm.trans hp), h2, h3, h4, h5⟩
  · have := h1.symm.trans hp; cases this
/-- the line without a sense. -/
def nine : SLin := ⟨⟨#[57]⟩, [], 4⟩
theorem nine_right : rightL (lnM nine) = false := by decide +kernel
theorem print_nine (xs ys : List SLin) : printP ((xs ++ [nine] ++ ys).map lnM) = printP (xs.map lnM) ++ printP (ys.map lnM) := by
  rw [List.map_append, List.map_append, print_append, print_append]
  have : printP ([nine].map lnM) = [] := by simp [printP, nine_right]
  rw [this, List.append_nil]
end Go.Proofs.YtdbmcikoiilanaaDoor.Xp
set_option linter.unusedVariables false
set_option linter.unusedSimpArgs false
namespace Go.Proofs.YtdbmcikoiilanaaDoor.Ko
open Go.RowKit Go.Proofs.YtdbmcikoiilanaaDoor.B0 Go.Proofs.YtdbmcikoiilanaaDoorW.PrintWords Go.Proofs.YtdbmcikoiilanaaDoor.Kn
structure S51 where
  f0 : Int
  f1 : List S57
  f2 : List S91
  f3 : S48
  f4 : S48
  f5 : S48
def z51 : S51 := ⟨(0 : Int), [], [], z48, z48, z48⟩
def k51 : Kd S51 := Kd.iso (Kd.pair (Kd.int .u64) (Kd.pair (Kd.slice 57 k57) (Kd.pair (Kd.slice 91 k91) (Kd.pair k48 (Kd.pair k48 (k48)))))) (fun x : S51 => (x.f0, (x.f1, (x.f2, (x.f3, (x.f4, x.f5))))))
theorem k51_open {w : World} {x : S51} {cs : List Value} (h : k51.K w x cs) : ∃ A0 c0 A1 c1, cs = [.int .u64 x.f0, .slice A0 x.f1.length c0, .slice A1 x.f2.length c1, .int .u64 x.f3.f0, .bool x.f3.f1, .int .u64 x.f4.f0, .bool x.f4.f1, .int .u64 x.f5.f0, .bool x.f5.f1] ∧ (x.f1.length ≤ c0 ∧ Kd.C k57 w A0 x.f1.length x.f1) ∧ (x.f2.length ≤ c1 ∧ Kd.C k91 w A1 x.f2.length x.f2) := by
  obtain ⟨_, _, rfl, h0, ⟨_, _, rfl, h1, ⟨_, _, rfl, h2, ⟨_, _, rfl, h3, ⟨_, _, rfl, h4, h5⟩⟩⟩⟩⟩ := h
  obtain rfl := id h0
  obtain ⟨A0, c0, rfl, g0⟩ := h1
  obtain ⟨A1, c1, rfl, g1⟩ := h2
  obtain rfl := k48_open h3
  obtain rfl := k48_open h4
  obtain rfl := k48_open h5
  exact ⟨A0, c0, A1, c1, rfl, g0, g1⟩
def rd_T51 (xs : List S51) (i : Int) : S51 := xs.getD i.toNat z51
theorem at_T51 {w : World} {A : Option Addr} {n : Nat} {xs : List S51} (h : Kd.C k51 w A n xs) (i : Int) (h0 : 0 ≤ i) (h1 : i < n) : ∃ ad, A = some ad ∧ ∃ A0 c0 A1 c1, w.cell? (ad.add (i.toNat * 9)) = some (.int .u64 (rd_T51 xs i).f0) ∧ w.cell? ⟨(ad.add (i.toNat * 9)).block, (ad.add (i.toNat * 9)).off + 1, none⟩ = some (.slice A0 (rd_T51 xs i).f1.length c0) ∧ w.cell? ⟨(ad.add (i.toNat * 9)).block, (ad.add (i.toNat * 9)).off + 2, none⟩ = some (.slice A1 (rd_T51 xs i).f2.length c1) ∧ w.cell? ⟨(ad.add (i.toNat * 9)).block, (ad.add (i.toNat * 9)).off + 3, none⟩ = some (.int .u64 (rd_T51 xs i).f3.f0) ∧ w.cell? ⟨(ad.add (i.toNat * 9)).block, (ad.add (i.toNat * 9)).off + 4, none⟩ = some (.bool (rd_T51 xs i).f3.f1) ∧ w.cell? ⟨(ad.add (i.toNat * 9)).block, (ad.add (i.toNat * 9)).off + 5, none⟩ = some (.int .u64 (rd_T51 xs i).f4.f0) ∧ w.cell? ⟨(ad.add (i.toNat * 9)).block, (ad.add (i.toNat * 9)).off + 6, none⟩ = some (.bool (rd_T51 xs i).f4.f1) ∧ w.cell? ⟨(ad.add (i.toNat * 9)).block, (ad.add (i.toNat * 9)).off + 7, none⟩ = some (.int .u64 (rd_T51 xs i).f5.f0) ∧ w.cell? ⟨(ad.add (i.toNat * 9)).block, (ad.add (i.toNat * 9)).off + 8, none⟩ = some (.bool (rd_T51 xs i).f5.f1) ∧ ((rd_T51 xs i).f1.length ≤ c0 ∧ Kd.C k57 w A0 (rd_T51 xs i).f1.length (rd_T51 xs i).f1) ∧ ((rd_T51 xs i).f2.length ≤ c1 ∧ Kd.C k91 w A1 (rd_T51 xs i).f2.length (rd_T51 xs i).f2) := by
  obtain ⟨ad, c, e, _, hK, hc0⟩ := Kd.C_get h z51 i h0 h1
  have hc : ∀ j u, c[j]? = some u → w.cell? (ad.add (i.toNat * 9 + j)) = some u := hc0
  obtain ⟨A0, c0, A1, c1, rfl, g0, g1⟩ := k51_open hK
  exact ⟨ad, e, A0, c0, A1, c1, hc 0 _ rfl, (by rw [← add_field _ _ 1 (by omega)]; exact hc 1 _ rfl), (by rw [← add_field _ _ 2 (by omega)]; exact hc 2 _ rfl), (by rw [← add_field _ _ 3 (by omega)]; exact hc 3 _ rfl), (by rw [← add_field _ _ 4 (by omega)]; exact hc 4 _ rfl), (by rw [← add_field _ _ 5 (by omega)]; exact hc 5 _ rfl), (by rw [← add_field _ _ 6 (by omega)]; exact hc 6 _ rfl), (by rw [← add_field _ _ 7 (by omega)]; exact hc 7 _ rfl), (by rw [← add_field _ _ 8 (by omega)]; exact hc 8 _ rfl), g0, g1⟩
end Go.Proofs.YtdbmcikoiilanaaDoor.Ko
set_option linter.unusedVariables false
set_option linter.unusedSimpArgs false
namespace Go.Proofs.YtdbmcikoiilanaaDoor.Ob
open Go.RowKit Go.Proofs.YtdbmcikoiilanaaDoor.B0 Go.Proofs.YtdbmcikoiilanaaDoorW.PrintWords Go.Proofs.YtdbmcikoiilanaaDoor.Kn Go.Proofs.YtdbmcikoiilanaaDoor.Ko
def WB48 (y : S48) : Prop := (Lit.int .u64 y.f0).wf = true ∧ True
theorem ob48 : OpB Tryd.prog 48 k48 WB48 := by
  intro H enc w base spare held fuel cs x h hbk
  obtain ⟨xs, n, rfl, rfl, hl, hxs, hf⟩ := DataW.trod_struct Tryd.underlying48 h
  have hl' : cs.length = 2 := hl.trans (by kernel_rfl)
  have hb : Rows.uptoBulkAll (xs.map (·.1)) ≤ 1048576 := by simp only [Rows.uptoBulk] at hbk; omega
  obtain ⟨y0, J0, X0⟩ := OpB.field hxs hb hf 0 _ rfl 25 0 1 rfl rfl (by kernel_rfl) (OpB.of (OpK.int Tryd.underlying25))
  obtain ⟨y1, J1, X1⟩ := OpB.field hxs hb hf 1 _ rfl 4 1 1 rfl rfl (by kernel_rfl) (OpB.of (OpK.bool Tryd.underlying4))
  rw [List.take_of_length_le (by rw [List.length_drop]; omega)] at J1
  exact ⟨⟨y0, y1⟩, ⟨_, _, split_at 0 1 cs, J0, J1⟩, ⟨X0, X1⟩⟩
def WB99 (y : S99) : Prop := (Lit.int .u64 y.f0).wf = true ∧ (Lit.int .u64 y.f1).wf = true ∧ (Lit.int .u64 y.f2).wf = true ∧ True
theorem ob99 : OpB Tryd.prog 99 k99 WB99 := by
  intro H enc w base spare held fuel cs x h hbk
  obtain ⟨xs, n, rfl, rfl, hl, hxs, hf⟩ := DataW.trod_struct Tryd.underlying99 h
  have hl' : cs.length = 4 := hl.trans (by kernel_rfl)
  have hb : Rows.uptoBulkAll (xs.map (·.1)) ≤ 1048576 := by simp only [Rows.uptoBulk] at hbk; omega
  obtain ⟨y0, J0, X0⟩ := OpB.field hxs hb hf 0 _ rfl 25 0 1 rfl rfl (by kernel_rfl) (OpB.of (OpK.int Tryd.underlying25))
  obtain ⟨y1, J1, X1⟩ := OpB.field hxs hb hf 1 _ rfl 25 1 1 rfl rfl (by kernel_rfl) (OpB.of (OpK.int Tryd.underlying25))
  obtain ⟨y2, J2, X2⟩ := OpB.field hxs hb hf 2 _ rfl 25 2 1 rfl rfl (by kernel_rfl) (OpB.of (OpK.int Tryd.underlying25))
  obtain ⟨y3, J3, X3⟩ := OpB.field hxs hb hf 3 _ rfl 4 3 1 rfl rfl (by kernel_rfl) (OpB.of (OpK.bool Tryd.underlying4))
  rw [List.take_of_length_le (by rw [List.length_drop]; omega)] at J3
  exact ⟨⟨y0, y1, y2, y3⟩, ⟨_, _, split_at 0 1 cs, J0, ⟨_, _, split_at 1 1 cs, J1, ⟨_, _, split_at 2 1 cs, J2, J3⟩⟩⟩, ⟨X0, X1, X2, X3⟩⟩
def WB57 (y : S57) : Prop := (y.f0.length ≤ 1048576 ∧ ∀ z ∈ y.f0, z.size ≤ 1048576) ∧ True ∧ WB48 y.f2 ∧ WB48 y.f3 ∧ WB48 y.f4 ∧ (y.f5.length ≤ 1048576 ∧ ∀ z ∈ y.f5, WB48 z) ∧ (y.f6.length ≤ 1048576 ∧ ∀ z ∈ y.f6, WB99 z)
theorem ob57 : OpB Tryd.prog 57 k57 WB57 := by
  intro H enc w base spare held fuel cs x h hbk
  obtain ⟨xs, n, rfl, rfl, hl, hxs, hf⟩ := DataW.trod_struct Tryd.underlying57 h
  have hl' : cs.length = 10 := hl.trans (by kernel_rfl)
  have hb : Rows.uptoBulkAll (xs.map (·.1)) ≤ 1048576 := by simp only [Rows.uptoBulk] at hbk; omega
  obtain ⟨y0, J0, X0⟩ := OpB.field hxs hb hf 0 _ rfl 53 0 1 rfl rfl (by kernel_rfl) (OpB.slice Tryd.underlying53 (by kernel_rfl) (OpB.string Tryd.underlying9))
  obtain ⟨y1, J1, X1⟩ := OpB.field hxs hb hf 1 _ rfl 4 1 1 rfl rfl (by kernel_rfl) (OpB.of (OpK.bool Tryd.underlying4))
  obtain ⟨y2, J2, X2⟩ := OpB.field hxs hb hf 2 _ rfl 48 2 2 rfl rfl (by kernel_rfl) ob48
  obtain ⟨y3, J3, X3⟩ := OpB.field hxs hb hf 3 _ rfl 48 4 2 rfl rfl (by kernel_rfl) ob48
  obtain ⟨y4, J4, X4⟩ := OpB.field hxs hb hf 4 _ rfl 48 6 2 rfl rfl (by kernel_rfl) ob48
  obtain ⟨y5, J5, X5⟩ := OpB.field hxs hb hf 5 _ rfl 54 8 1 rfl rfl (by kernel_rfl) (OpB.slice Tryd.underlying54 (by kernel_rfl) ob48)
  obtain ⟨y6, J6, X6⟩ := OpB.field hxs hb hf 6 _ rfl 55 9 1 rfl rfl (by kernel_rfl) (OpB.slice Tryd.underlying55 (by kernel_rfl) ob99)
  rw [List.take_of_length_le (by rw [List.length_drop]; omega)] at J6
  exact ⟨⟨y0, y1, y2, y3, y4, y5, y6⟩, ⟨_, _, split_at 0 1 cs, J0, ⟨_, _, split_at 1 1 cs, J1, ⟨_, _, split_at 2 2 cs, J2, ⟨_, _, split_at 4 2 cs, J3, ⟨_, _, split_at 6 2 cs, J4, ⟨_, _, split_at 8 1 cs, J5, J6⟩⟩⟩⟩⟩⟩, ⟨X0, X1, X2, X3, X4, X5, X6⟩⟩
def WB91 (y : S91) : Prop := y.f0.size ≤ 1048576 ∧ y.f1.size ≤ 1048576 ∧ WB48 y.f2 ∧ WB48 y.f3 ∧ WB48 y.f4
theorem ob91 : OpB Tryd.prog 91 k91 WB91 := by
  intro H enc w base spare held fuel cs x h hbk
  obtain ⟨xs, n, rfl, rfl, hl, hxs, hf⟩ := DataW.trod_struct Tryd.underlying91 h
  have hl' : cs.length = 8 := hl.trans (by kernel_rfl)
  have hb : Rows.uptoBulkAll (xs.map (·.1)) ≤ 1048576 := by simp only [Rows.uptoBulk] at hbk; omega
  obtain ⟨y0, J0, X0⟩ := OpB.field hxs hb hf 0 _ rfl 9 0 1 rfl rfl (by kernel_rfl) (OpB.string Tryd.underlying9)
  obtain ⟨y1, J1, X1⟩ := OpB.field hxs hb hf 1 _ rfl 9 1 1 rfl rfl (by kernel_rfl) (OpB.string Tryd.underlying9)
  obtain ⟨y2, J2, X2⟩ := OpB.field hxs hb hf 2 _ rfl 48 2 2 rfl rfl (by kernel_rfl) ob48
  obtain ⟨y3, J3, X3⟩ := OpB.field hxs hb hf 3 _ rfl 48 4 2 rfl rfl (by kernel_rfl) ob48
  obtain ⟨y4, J4, X4⟩ := OpB.field hxs hb hf 4 _ rfl 48 6 2 rfl rfl (by kernel_rfl) ob48
  rw [List.take_of_length_le (by rw [List.length_drop]; omega)] at J4
  exact ⟨⟨y0, y1, y2, y3, y4⟩, ⟨_, _, split_at 0 1 cs, J0, ⟨_, _, split_at 1 1 cs, J1, ⟨_, _, split_at 2 2 cs, J2, ⟨_, _, split_at 4 2 cs, J3, J4⟩⟩⟩⟩, ⟨X0, X1, X2, X3, X4⟩⟩
def WB51 (y : S51) : Prop := (Lit.int .u64 y.f0).wf = true ∧ (y.f1.length ≤ 1048576 ∧ ∀ z ∈ y.f1, WB57 z) ∧ (y.f2.length ≤ 1048576 ∧ ∀ z ∈ y.f2, WB91 z) ∧ WB48 y.f3 ∧ WB48 y.f4 ∧ WB48 y.f5
theorem ob51 : OpB Tryd.prog 51 k51 WB51 := by
  intro H enc w base spare held fuel cs x h hbk
  obtain ⟨xs, n, rfl, rfl, hl, hxs, hf⟩ := DataW.trod_struct Tryd.underlying51 h
  have hl' : cs.length = 9 := hl.trans (by kernel_rfl)
  have hb : Rows.uptoBulkAll (xs.map (·.1)) ≤ 1048576 := by simp only [Rows.uptoBulk] at hbk; omega
  obtain ⟨y0, J0, X0⟩ := OpB.field hxs hb hf 0 _ rfl 25 0 1 rfl rfl (by kernel_rfl) (OpB.of (OpK.int Tryd.underlying25))
  obtain ⟨y1, J1, X1⟩ := OpB.field hxs hb hf 1 _ rfl 45 1 1 rfl rfl (by kernel_rfl) (OpB.slice Tryd.underlying45 (by kernel_rfl) ob57)
  obtain ⟨y2, J2, X2⟩ := OpB.field hxs hb hf 2 _ rfl 46 2 1 rfl rfl (by kernel_rfl) (OpB.slice Tryd.underlying46 (by kernel_rfl) ob91)
  have ha3 : DataW.trod enc Tryd.prog w base spare held n 49 ((cs.drop 3).take 6) = xs[3]? := by
    have h := hf 3 _ rfl
    have e : Tryd.prog.cellsOf 49 = 6 := by kernel_rfl
    rw [← e]; exact h
  obtain ⟨ax3, hax3⟩ : ∃ ex, xs[3]? = some ex := ⟨_, List.getElem?_eq_getElem (by rw [hxs]; decide)⟩
  have hm3 := bulk_mem xs 3 ax3 hax3
  rw [hax3] at ha3
  obtain ⟨es3, q3, _, rfl, hel3, hes3, hef3⟩ := DataW.trod_array (cs := (cs.drop 3).take 6) (fuel := n) Tryd.underlying49 ha3
  have hbe3 : Rows.uptoBulkAll (es3.map (·.1)) ≤ 1048576 := by simp only [Rows.uptoBulk] at hm3; omega
  obtain ⟨y3, J3, X3⟩ := OpB.elem hes3 hbe3 hef3 0 0 2 (by decide) (by kernel_rfl) rfl ob48
  rw [List.drop_take, List.take_take, List.drop_drop, show min 2 (6 - 0) = 2 from rfl, show 3 + 0 = 3 from rfl] at J3
  obtain ⟨y4, J4, X4⟩ := OpB.elem hes3 hbe3 hef3 1 2 2 (by decide) (by kernel_rfl) rfl ob48
  rw [List.drop_take, List.take_take, List.drop_drop, show min 2 (6 - 2) = 2 from rfl, show 3 + 2 = 5 from rfl] at J4
  obtain ⟨y5, J5, X5⟩ := OpB.elem hes3 hbe3 hef3 2 4 2 (by decide) (by kernel_rfl) rfl ob48
  rw [List.drop_take, List.take_take, List.drop_drop, show min 2 (6 - 4) = 2 from rfl, show 3 + 4 = 7 from rfl] at J5
  rw [List.take_of_length_le (by rw [List.length_drop]; omega)] at J5
  exact ⟨⟨y0, y1, y2, y3, y4, y5⟩, ⟨_, _, split_at 0 1 cs, J0, ⟨_, _, split_at 1 1 cs, J1, ⟨_, _, split_at 2 1 cs, J2, ⟨_, _, split_at 3 2 cs, J3, ⟨_, _, split_at 5 2 cs, J4, J5⟩⟩⟩⟩⟩, ⟨X0, X1, X2, X3, X4, X5⟩⟩
end Go.Proofs.YtdbmcikoiilanaaDoor.Ob
set_option linter.unusedVariables false
set_option linter.unusedSimpArgs false
namespace Go.Proofs.YtdbmcikoiilanaaDoor.Xp
open Go.RowKit Go.Proofs.YtdbmcikoiilanaaDoor.B0 Go.Proofs.YtdbmcikoiilanaaDoorW.PrintWords Go.Proofs.YtdbmcikoiilanaaDoor.Bld Go.Proofs.YtdbmcikoiilanaaDoor.Pp Go.Proofs.YtdbmcikoiilanaaDoor.Kn Go.Proofs.YtdbmcikoiilanaaDoor.Ko
open Go.Proofs.YtdbmcikoiilanaaDoorW.PrintLast

abbrev RCnt := S48
abbrev RRow := S57
abbrev REdg := S91
abbrev ROut := S51
theorem infoC : (Tryd.prog.info? 48).map (fun i => (i.zero, i.size, i.bytes)) = some (some (.agg #[(.int .u64 0), (.bool false)]), 2, 16) := by kernel_rfl
def okO (o : ROut) : Prop := o.f1.length ≤ 12 ∧ o.f2.length ≤ 12 ∧ ∀ r ∈ o.f1, r.f0.length ≤ 20 ∧ r.f5.length ≤ 40 ∧ r.f6.length ≤ 20
theorem reads_alloc {α : Type} (d : Kd α) (W : World) (e : Nat) (xs : List α) (cs : Array Value) (inner : List Value) (n : Nat) (hn : xs.length = n) (h : cs = inner.toArray) (hrep : ∀ (W' : World) (ok : Nat → Prop), Reps (d.M W' 0 ok) d.sz xs inner) (hm : n ≤ 1000000) :
    d.C (W.alloc (.cells cs e)) (some ⟨W.heap.size, 0, none⟩) n xs := by
  subst h hn
  obtain ⟨A, c, e1, _, hC⟩ := Kd.R_reads (R_allocG d (W := W) (base := 0) (e := e) hrep (Nat.zero_le _) hm)
  obtain ⟨rfl, _, _⟩ := Value.slice.inj e1
  exact hC
theorem cntM (w : World) (base : Nat) (ok : Nat → Prop) (n : Int) (b : Bool) : k48.M w base ok (⟨n, b⟩ : RCnt) [.int .u64 n, .bool b] := ⟨[.int .u64 n], [.bool b], rfl, rfl, rfl⟩
theorem rdRR_at (xs : List RRow) (i : Nat) (h : i < xs.length) : rd_T57 xs (i : Int) = xs[i] := by
  unfold rd_T57; rw [show ((i : Int)).toNat = i from by omega, List.getD_eq_getElem?_getD, List.getElem?_eq_getElem h]; rfl

/-- a Bool; if it is true, Q. -/
def BPost (Q : Prop) (w : World) (e : Ending) (w' : World) : Prop := ∃ r : Bool, e = .returned (.bool r) ∧ (r = true → Q) ∧ Below w.heap.size w w'
set_option maxHeartbeats 4000000 in
set_option maxRecDepth 100000 in
theorem CRight_c (n : Int) (b : Bool) (w : World) : Calls Tryd.prog 27 #[.agg #[.int .u64 n, .bool b]] w (BPost True w) := by
  obtain ⟨w1, hw1⟩ : ∃ w1, Hid (w.alloc (.cells #[.int .u64 n, .bool b] 61) = w1) := ⟨_, Lib.hid rfl⟩
  obtain ⟨R, hR⟩ : ∃ R, Hid (w.heap.size = R) := ⟨_, Lib.hid rfl⟩
  have h1 : w1.heap[R]? = some (.cells #[.int .u64 n, .bool b] 61 (0, 0)) := by rw [← hw1.out, ← hR.out]; exact allocN _ _
  have HB : Hid (Below w.heap.size w w1) := by rw [← hw1.out]; exact (Below.refl _ _).alloc (Nat.le_refl _) _
  have c0 : w1.cell? ⟨R, 0, none⟩ = some (.int .u64 n) := by rw [cellB h1]; rfl
  have c1 : w1.cell? ⟨R, 1, none⟩ = some (.bool b) := by rw [cellB h1]; rfl
  clear h1
  go_enter Tryd.func27, Tryd.ntmps27
  go_upto_region 1 with fail
  rw [hw1.out, hR.out]
  by_cases h1 : n ≤ 9223372036854775807
  · have hq : decide (n ≤ (9223372036854775807 : Int)) = true := decide_eq_true h1
    cases b
    · go_wp2_with fail
      go_ret
      exact ⟨_, rfl, fun _ => trivial, HB.out⟩
    · go_wp2_with fail
      go_ret
      exact ⟨_, rfl, fun _ => trivial, HB.out⟩
  · have hq : decide (n ≤ (9223372036854775807 : Int)) = false := decide_eq_false h1
    go_wp2_with fail
    go_ret
    exact ⟨_, rfl, fun _ => trivial, HB.out⟩
def T14_9 : Bool × List (List Nat × List Nat) := (true, [([], []), ([], []), ([1], [1]), ([], []), ([2, 3], [2, 3]), ([4], [4]), ([5], [5]), ([], []), ([7], [7]), ([], []), ([8, 9], [8, 9]), ([10], [10]), ([11], [11]), ([], []), ([13], [13]), ([], []), ([14, 15], [14, 15]), ([16], [16]), ([17], [17]), ([6, 12, 18], [6, 12, 18]), ([0, 19], [0, 19]), ([20, 20, 0, 1, 2, 3, 4, 5, 6, 7, 8, 9, 10, 11, 12, 13, 14, 15, 16, 17, 18, 19, 20], [0, 20])])
def B14_9 : List Nat := [0, 0, 2, 0, 14, 30, 62, 0, 128, 0, 896, 1920, 3968, 0, 8192, 0, 57344, 122880, 253952, 524286, 1048575, 2097151]
theorem tab14_9 : rtab .any (opsOf Tryd.f14 9) = T14_9 := by kernel_rfl
theorem bits14_9 : waitsOk T14_9.2 B14_9 = true := by kernel_rfl
def T14_14 : Bool × List (List Nat × List Nat) := (true, [([], []), ([], []), ([1], [1]), ([], []), ([2, 3], [2, 3]), ([4], [4]), ([5], [5]), ([], []), ([7], [7]), ([], []), ([8, 9], [8, 9]), ([10], [10]), ([11], [11]), ([], []), ([13], [13]), ([], []), ([14, 15], [14, 15]), ([16], [16]), ([17], [17]), ([6, 12, 18], [6, 12, 18]), ([0, 19], [0, 19]), ([20, 20, 0, 1, 2, 3, 4, 5, 6, 7, 8, 9, 10, 11, 12, 13, 14, 15, 16, 17, 18, 19, 20], [0, 20])])
def B14_14 : List Nat := [0, 0, 2, 0, 14, 30, 62, 0, 128, 0, 896, 1920, 3968, 0, 8192, 0, 57344, 122880, 253952, 524286, 1048575, 2097151]
theorem tab14_14 : rtab .any (opsOf Tryd.f14 14) = T14_14 := by kernel_rfl
theorem bits14_14 : waitsOk T14_14.2 B14_14 = true := by kernel_rfl
set_option maxHeartbeats 8000000 in
set_option maxRecDepth 100000 in
theorem Right_c (w : World) (o : ROut) (A : Option Addr) (cA : Nat) (E : Option Addr) (cE : Nat) (hA : Kd.C k57 w A o.f1.length o.f1) (hE : Kd.C k91 w E o.f2.length o.f2) :
    Calls Tryd.prog 14 #[.agg #[.int .u64 o.f0, .slice A o.f1.length cA, .slice E o.f2.length cE, .int .u64 o.f3.f0, .bool o.f3.f1, .int .u64 o.f4.f0, .bool o.f4.f1, .int .u64 o.f5.f0, .bool o.f5.f1]] w (BPost (okO o) w) := by
  obtain ⟨n, hn⟩ : ∃ n, Hid (o.f1.length = n) := ⟨_, Lib.hid rfl⟩
  obtain ⟨m, hm⟩ : ∃ m, Hid (o.f2.length = m) := ⟨_, Lib.hid rfl⟩
  rw [hn.out] at hA ⊢
  rw [hm.out] at hE ⊢
  have HA := Lib.hid hA; have HE := Lib.hid hE; clear hA hE
  obtain ⟨R, hR⟩ : ∃ R, Hid (w.heap.size = R) := ⟨_, Lib.hid rfl⟩
  obtain ⟨w1, hw1⟩ : ∃ w1, Hid (w.alloc (.cells #[.int .u64 o.f0, .slice A n cA, .slice E m cE, .int .u64 o.f3.f0, .bool o.f3.f1, .int .u64 o.f4.f0, .bool o.f4.f1, .int .u64 o.f5.f0, .bool o.f5.f1] 51) = w1) := ⟨_, Lib.hid rfl⟩
  have H1 : Hid (w1.heap[R]? = some (.cells #[.int .u64 o.f0, .slice A n cA, .slice E m cE, .int .u64 o.f3.f0, .bool o.f3.f1, .int .u64 o.f4.f0, .bool o.f4.f1, .int .u64 o.f5.f0, .bool o.f5.f1] 51 (0, 0)) ∧ Below w.heap.size w w1) := ⟨by rw [← hw1.out, ← hR.out]; exact allocN _ _, by rw [← hw1.out]; exact (Below.refl _ _).alloc (Nat.le_refl _) _⟩
  have EC : Hid (∀ w', Below w1.heap.size w1 w' → w'.cell? ⟨R, 1, none⟩ = some (.slice A n cA) ∧ w'.cell? ⟨R, 2, none⟩ = some (.slice E m cE) ∧ w'.cell? ⟨R, 3, none⟩ = some (.int .u64 o.f3.f0) ∧ w'.cell? ⟨R, 4, none⟩ = some (.bool o.f3.f1) ∧ w'.cell? ⟨R, 5, none⟩ = some (.int .u64 o.f4.f0) ∧ w'.cell? ⟨R, 6, none⟩ = some (.bool o.f4.f1) ∧ w'.cell? ⟨R, 7, none⟩ = some (.int .u64 o.f5.f0) ∧ w'.cell? ⟨R, 8, none⟩ = some (.bool o.f5.f1)) := fun w' hb => by
    have h := (hb.block R (lt_of_get H1.out.1)).trans H1.out.1
    exact ⟨by rw [cellB h]; rfl, by rw [cellB h]; rfl, by rw [cellB h]; rfl, by rw [cellB h]; rfl, by rw [cellB h]; rfl, by rw [cellB h]; rfl, by rw [cellB h]; rfl, by rw [cellB h]; rfl⟩
  go_enter Tryd.func14, Tryd.ntmps14
  go_upto_region 1 with fail
  rw [hw1.out, hR.out]
  obtain ⟨c1, c2, c3, c4, c5, c6, c7, c8⟩ := EC.out w1 (Below.refl _ _)
  by_cases h5 : n > 12
  · have hr : decide ((12 : Int) < (n : Int)) = true := decide_eq_true (by omega)
    have hr2 : decide (12 < n) = true := decide_eq_true (by omega)
    go_wp2_with fail
    go_ret
    exact ⟨_, rfl, (fun h => by cases h), H1.out.2⟩
  have hr : decide ((12 : Int) < (n : Int)) = false := decide_eq_false (by omega)
  have hr2 : decide (12 < n) = false := decide_eq_false (by omega)
  by_cases h6 : m > 12
  · have hr : decide ((12 : Int) < (m : Int)) = true := decide_eq_true (by omega)
    have hr2 : decide (12 < m) = true := decide_eq_true (by omega)
    go_wp2_with fail
    go_ret
    exact ⟨_, rfl, (fun h => by cases h), H1.out.2⟩
  have hr3 : decide ((12 : Int) < (m : Int)) = false := decide_eq_false (by omega)
  have hr4 : decide (12 < m) = false := decide_eq_false (by omega)
  clear hr hr2 hr3 hr4
  go_upto_region 4 with fail
  obtain ⟨w2, hw2⟩ : ∃ w2, Hid (w1.alloc (.cells #[.int .u64 o.f3.f0, .bool o.f3.f1, .int .u64 o.f4.f0, .bool o.f4.f1, .int .u64 o.f5.f0, .bool o.f5.f1] 48) = w2) := ⟨_, Lib.hid rfl⟩
  obtain ⟨b2, hb2⟩ : ∃ b2, Hid (w1.heap.size = b2) := ⟨_, Lib.hid rfl⟩
  have H2 : Hid (Kd.R k48 48 w2 w1.heap.size (fun _ => True) (.slice (some ⟨b2, 0, none⟩) 3 3) [(⟨o.f3.f0, o.f3.f1⟩ : RCnt), ⟨o.f4.f0, o.f4.f1⟩, ⟨o.f5.f0, o.f5.f1⟩] ∧ Below w1.heap.size w1 w2) := by
    refine ⟨?_, by rw [← hw2.out]; exact (Below.refl _ _).alloc (Nat.le_refl _) _⟩
    rw [← hw2.out, ← hb2.out]
    exact R_allocG k48 (inner := [.int .u64 o.f3.f0, .bool o.f3.f1, .int .u64 o.f4.f0, .bool o.f4.f1, .int .u64 o.f5.f0, .bool o.f5.f1]) (fun W' ok => Reps.c2 (cntM _ _ _ _ _) (Reps.c2 (cntM _ _ _ _ _) (Reps.c2 (cntM _ _ _ _ _) (Reps.none _ _)))) (Nat.le_refl _) (by simp)
  rw [hw2.out, hb2.out]
  clear c1 c2 c3 c4 c5 c6 c7 c8
  go_wp2_with fail
  go_loopw [4, 3] (fun iv lv wr => ∃ (k : Nat) (av : Value), iv = .int .i64 k ∧ lv = av ∧ k ≤ n ∧ Hid (∃ xs : List RCnt, Kd.R k48 48 wr w1.heap.size (fun _ => True) av xs ∧ xs.length ≤ 3 + 43 * k ∧ Below w1.heap.size w1 wr ∧ ∀ j x, j < k → o.f1[j]? = some x → x.f0.length ≤ 20 ∧ x.f5.length ≤ 40 ∧ x.f6.length ≤ 20)) (fun iv _ _ => n - (intOf iv).toNat)
  case atStart => exact ⟨0, _, rfl, rfl, Nat.zero_le _, _, H2.out.1, by simp, H2.out.2, fun j x h => absurd h (Nat.not_lt_zero _)⟩
  case round =>
    obtain ⟨k, av, rfl, rfl, hk, HX⟩ := hrel
    obtain ⟨xs, hxs⟩ := HX.out
    have HW := Lib.hid hxs; clear hxs HX
    obtain ⟨c1, c2, _, _, _, _, _, _⟩ := EC.out wr HW.out.2.2.1
    by_cases hlt : k < n
    · have hki : (k : Int) < (n : Int) := by omega
      obtain ⟨ad, rfl, A0, c0, A1, c11, A2, c22, d0, d1, d2, d3, d4, d5, d6, d7, d8, d9, _, ⟨hc5, hC5⟩, _⟩ := at_T57 HA.out k (by omega) (by omega)
      obtain ⟨r, hr⟩ : ∃ r, Hid (rd_T57 o.f1 k = r ∧ o.f1[k]? = some r) := ⟨_, rfl, by rw [rdRR_at _ _ (by rw [hn.out]; exact hlt), List.getElem?_eq_getElem (by rw [hn.out]; exact hlt)]⟩
      rw [hr.out.1] at d0 d1 d2 d3 d4 d5 d6 d7 d8 d9 hc5 hC5
      rw [show ((k : Int)).toNat = k from by omega] at d0 d1 d2 d3 d4 d5 d6 d7 d8 d9
      obtain ⟨l0, hl0⟩ : ∃ l0, Hid (r.f0.length = l0) := ⟨_, Lib.hid rfl⟩
      obtain ⟨l5, hl5⟩ : ∃ l5, Hid (r.f5.length = l5) := ⟨_, Lib.hid rfl⟩
      obtain ⟨l6, hl6⟩ : ∃ l6, Hid (r.f6.length = l6) := ⟨_, Lib.hid rfl⟩
      rw [hl0.out] at d0
      rw [hl5.out] at d8 hC5
      rw [hl6.out] at d9
      have HC5 := Lib.hid hC5
      obtain ⟨qa, hqa⟩ : ∃ qa, Hid (ad.add (k * 10) = qa) := ⟨_, Lib.hid rfl⟩
      have hqo := hqa.out
      rw [hqa.out] at d0 d1 d2 d3 d4 d5 d6 d7 d8 d9
      have HD : Hid (∀ W, Below w1.heap.size w1 W → W.cell? qa = some (.slice A0 l0 c0) ∧ W.cell? ⟨qa.block, qa.off + 2, none⟩ = some (.int .u64 r.f2.f0) ∧ W.cell? ⟨qa.block, qa.off + 3, none⟩ = some (.bool r.f2.f1) ∧ W.cell? ⟨qa.block, qa.off + 4, none⟩ = some (.int .u64 r.f3.f0) ∧ W.cell? ⟨qa.block, qa.off + 5, none⟩ = some (.bool r.f3.f1) ∧ W.cell? ⟨qa.block, qa.off + 6, none⟩ = some (.int .u64 r.f4.f0) ∧ W.cell? ⟨qa.block, qa.off + 7, none⟩ = some (.bool r.f4.f1) ∧ W.cell? ⟨qa.block, qa.off + 8, none⟩ = some (.slice A1 l5 c11) ∧ W.cell? ⟨qa.block, qa.off + 9, none⟩ = some (.slice A2 l6 c22)) := fun W hb => by
        have hb' : Below w.heap.size w W := H1.out.2.trans (hb.mono H1.out.2.size)
        exact ⟨pw_cell_below hb' d0, pw_cell_below hb' d2, pw_cell_below hb' d3, pw_cell_below hb' d4, pw_cell_below hb' d5, pw_cell_below hb' d6, pw_cell_below hb' d7, pw_cell_below hb' d8, pw_cell_below hb' d9⟩
      clear d0 d1 d2 d3 d4 d5 d6 d7 d8 d9 hc5 hC5
      obtain ⟨q0, q2, q3, q4, q5, q6, q7, q8, q9⟩ := HD.out wr HW.out.2.2.1
      have HBW : Hid (Below w.heap.size w wr) := H1.out.2.trans (HW.out.2.2.1.mono H1.out.2.size)
      by_cases h5 : l0 > 20
      · have hr : decide ((20 : Int) < (l0 : Int)) = true := decide_eq_true (by omega)
        have hr2 : decide (20 < l0) = true := decide_eq_true (by omega)
        go_wp2_with fail
        go_ret
        exact ⟨_, rfl, (fun h => by cases h), HBW.out⟩
      have hr : decide ((20 : Int) < (l0 : Int)) = false := decide_eq_false (by omega)
      have hr2 : decide (20 < l0) = false := decide_eq_false (by omega)
      by_cases h6 : l5 > 40
      · have hr : decide ((40 : Int) < (l5 : Int)) = true := decide_eq_true (by omega)
        have hr2 : decide (40 < l5) = true := decide_eq_true (by omega)
        go_wp2_with fail
        go_ret
        exact ⟨_, rfl, (fun h => by cases h), HBW.out⟩
      have hr3 : decide ((40 : Int) < (l5 : Int)) = false := decide_eq_false (by omega)
      have hr4 : decide (40 < l5) = false := decide_eq_false (by omega)
      by_cases h7 : l6 > 20
      · have hr : decide ((20 : Int) < (l6 : Int)) = true := decide_eq_true (by omega)
        have hr2 : decide (20 < l6) = true := decide_eq_true (by omega)
        go_wp2_with fail
        go_ret
        exact ⟨_, rfl, (fun h => by cases h), HBW.out⟩
      have hr5 : decide ((20 : Int) < (l6 : Int)) = false := decide_eq_false (by omega)
      have hr6 : decide (20 < l6) = false := decide_eq_false (by omega)
      have HLn : Hid (l0 ≤ 20 ∧ l5 ≤ 40 ∧ l6 ≤ 20) := by show _ ∧ _; omega
      go_upto_region 9 with fail
      clear hr hr2 hr3 hr4 hr5 hr6 q0 q2 q3 q4 q5 q6 q7 q8 q9 c1 c2 h5 h6 h7
      refine start_ (n := 22) (S := (fun w' => Below wr.heap.size wr w')) (ds := [20, 21]) #[false, false, false, false, false, false, false, false, false, false, false, false, false, false, false, false, false, false, false, false, false, false] (by kernel_rfl) (by rfl) (by rfl) (Below_drewN (Below.refl wr.heap.size wr) 1) (fun hHeld => ?_); refine with_tabW tab14_9 bits14_9 (fun HT_ HW_ => ?_)
      refine pure_ (i := 0) (N := some 62) (v := ?_) (a' := ?_) #[true, false, false, false, false, false, false, false, false, false, false, false, false, false, false, false, false, false, false, false, false, false] rfl rfl (any_of HT_.out (by kernel_rfl)) (fun _ _ _ h => h) (Or.inl ⟨by rfl, ?_⟩) ?_ ?_
      rotate_left
      · intro w'
        go_simp
        with_reducible rfl
      rotate_left
      · simp only [Act.put, List.setIfInBounds_toArray, List.set_cons_zero, List.set_cons_succ]
        rfl
      refine pure_ (i := 1) (N := some 63) (v := ?_) (a' := ?_) #[true, true, false, false, false, false, false, false, false, false, false, false, false, false, false, false, false, false, false, false, false, false] rfl rfl (any_of HT_.out (by kernel_rfl)) (fun _ _ _ h => h) (Or.inl ⟨by rfl, ?_⟩) ?_ ?_
      rotate_left
      · intro w'
        go_simp
        with_reducible rfl
      rotate_left
      · simp only [Act.put, List.setIfInBounds_toArray, List.set_cons_zero, List.set_cons_succ]
        rfl
      refine take_ (i := 2) (N := some 64) (v := ?_) (a' := ?_) #[true, true, true, false, false, false, false, false, false, false, false, false, false, false, false, false, false, false, false, false, false, false] rfl rfl (take_ofW HT_.out HW_.out (by kernel_rfl)) (fun _ _ _ h => h) (Or.inl ⟨by rfl, ?_⟩) hHeld ?_ ?_
      rotate_left
      · rintro w' hS; have hbS := HW.out.2.2.1.trans (hS.mono HW.out.2.2.1.size); obtain ⟨s1, _, _, _, _, _, _, _⟩ := EC.out w' hbS; obtain ⟨t0, t2, t3, t4, t5, t6, t7, t8, t9⟩ := HD.out w' hbS
        go_simp
        with_reducible rfl
      rotate_left
      · simp only [Act.put, List.setIfInBounds_toArray, List.set_cons_zero, List.set_cons_succ]
        rfl
      refine pure_ (i := 3) (N := some 65) (v := ?_) (a' := ?_) #[true, true, true, true, false, false, false, false, false, false, false, false, false, false, false, false, false, false, false, false, false, false] rfl rfl (any_of HT_.out (by kernel_rfl)) (fun _ _ _ h => h) (Or.inl ⟨by rfl, ?_⟩) ?_ ?_
      rotate_left
      · intro w'
        go_simp
        with_reducible rfl
      rotate_left
      · simp only [Act.put, List.setIfInBounds_toArray, List.set_cons_zero, List.set_cons_succ]
        rfl
      refine pure_ (i := 4) (N := some 66) (v := ?_) (a' := ?_) #[true, true, true, true, true, false, false, false, false, false, false, false, false, false, false, false, false, false, false, false, false, false] rfl rfl (any_of HT_.out (by kernel_rfl)) (fun _ _ _ h => h) (Or.inl ⟨by rfl, ?_⟩) ?_ ?_
      rotate_left
      · intro w'
        go_simp
        with_reducible rfl
      rotate_left
      · simp only [Act.put, List.setIfInBounds_toArray, List.set_cons_zero, List.set_cons_succ]
        rfl
      refine pure_ (i := 5) (N := some 67) (v := ?_) (a' := ?_) #[true, true, true, true, true, true, false, false, false, false, false, false, false, false, false, false, false, false, false, false, false, false] rfl rfl (any_of HT_.out (by kernel_rfl)) (fun _ _ _ h => h) (Or.inl ⟨by rfl, ?_⟩) ?_ ?_
      rotate_left
      · intro w'
        go_simp
        with_reducible rfl
      rotate_left
      · simp only [Act.put, List.setIfInBounds_toArray, List.set_cons_zero, List.set_cons_succ]
        rfl
      refine take_ (i := 6) (N := some 68) (v := ?_) (a' := ?_) #[true, true, true, true, true, true, true, false, false, false, false, false, false, false, false, false, false, false, false, false, false, false] rfl rfl (take_ofW HT_.out HW_.out (by kernel_rfl)) (fun _ _ _ h => h) (Or.inl ⟨by rfl, ?_⟩) hHeld ?_ ?_
      rotate_left
      · rintro w' hS; have hbS := HW.out.2.2.1.trans (hS.mono HW.out.2.2.1.size); obtain ⟨s1, _, _, _, _, _, _, _⟩ := EC.out w' hbS; obtain ⟨t0, t2, t3, t4, t5, t6, t7, t8, t9⟩ := HD.out w' hbS
        go_simp
        with_reducible rfl
      rotate_left
      · simp only [Act.put, List.setIfInBounds_toArray, List.set_cons_zero, List.set_cons_succ]
        rfl
      refine pure_ (i := 7) (N := some 69) (v := ?_) (a' := ?_) #[true, true, true, true, true, true, true, true, false, false, false, false, false, false, false, false, false, false, false, false, false, false] rfl rfl (any_of HT_.out (by kernel_rfl)) (fun _ _ _ h => h) (Or.inl ⟨by rfl, ?_⟩) ?_ ?_
      rotate_left
      · intro w'
        go_simp
        with_reducible rfl
      rotate_left
      · simp only [Act.put, List.setIfInBounds_toArray, List.set_cons_zero, List.set_cons_succ]
        rfl
      refine take_ (i := 8) (N := some 70) (v := ?_) (a' := ?_) #[true, true, true, true, true, true, true, true, true, false, false, false, false, false, false, false, false, false, false, false, false, false] rfl rfl (take_ofW HT_.out HW_.out (by kernel_rfl)) (fun _ _ _ h => h) (Or.inl ⟨by rfl, ?_⟩) hHeld ?_ ?_
      rotate_left
      · rintro w' hS; have hbS := HW.out.2.2.1.trans (hS.mono HW.out.2.2.1.size); obtain ⟨s1, _, _, _, _, _, _, _⟩ := EC.out w' hbS; obtain ⟨t0, t2, t3, t4, t5, t6, t7, t8, t9⟩ := HD.out w' hbS
        go_simp
        with_reducible rfl
      rotate_left
      · simp only [Act.put, List.setIfInBounds_toArray, List.set_cons_zero, List.set_cons_succ]
        rfl
      refine pure_ (i := 9) (N := some 71) (v := ?_) (a' := ?_) #[true, true, true, true, true, true, true, true, true, true, false, false, false, false, false, false, false, false, false, false, false, false] rfl rfl (any_of HT_.out (by kernel_rfl)) (fun _ _ _ h => h) (Or.inl ⟨by rfl, ?_⟩) ?_ ?_
      rotate_left
      · intro w'
        go_simp
        with_reducible rfl
      rotate_left
      · simp only [Act.put, List.setIfInBounds_toArray, List.set_cons_zero, List.set_cons_succ]
        rfl
      refine pure_ (i := 10) (N := some 72) (v := ?_) (a' := ?_) #[true, true, true, true, true, true, true, true, true, true, true, false, false, false, false, false, false, false, false, false, false, false] rfl rfl (any_of HT_.out (by kernel_rfl)) (fun _ _ _ h => h) (Or.inl ⟨by rfl, ?_⟩) ?_ ?_
      rotate_left
      · intro w'
        go_simp
        with_reducible rfl
      rotate_left
      · simp only [Act.put, List.setIfInBounds_toArray, List.set_cons_zero, List.set_cons_succ]
        rfl
      refine pure_ (i := 11) (N := some 73) (v := ?_) (a' := ?_) #[true, true, true, true, true, true, true, true, true, true, true, true, false, false, false, false, false, false, false, false, false, false] rfl rfl (any_of HT_.out (by kernel_rfl)) (fun _ _ _ h => h) (Or.inl ⟨by rfl, ?_⟩) ?_ ?_
      rotate_left
      · intro w'
        go_simp
        with_reducible rfl
      rotate_left
      · simp only [Act.put, List.setIfInBounds_toArray, List.set_cons_zero, List.set_cons_succ]
        rfl
      refine take_ (i := 12) (N := some 74) (v := ?_) (a' := ?_) #[true, true, true, true, true, true, true, true, true, true, true, true, true, false, false, false, false, false, false, false, false, false] rfl rfl (take_ofW HT_.out HW_.out (by kernel_rfl)) (fun _ _ _ h => h) (Or.inl ⟨by rfl, ?_⟩) hHeld ?_ ?_
      rotate_left
      · rintro w' hS; have hbS := HW.out.2.2.1.trans (hS.mono HW.out.2.2.1.size); obtain ⟨s1, _, _, _, _, _, _, _⟩ := EC.out w' hbS; obtain ⟨t0, t2, t3, t4, t5, t6, t7, t8, t9⟩ := HD.out w' hbS
        go_simp
        with_reducible rfl
      rotate_left
      · simp only [Act.put, List.setIfInBounds_toArray, List.set_cons_zero, List.set_cons_succ]
        rfl
      refine pure_ (i := 13) (N := some 75) (v := ?_) (a' := ?_) #[true, true, true, true, true, true, true, true, true, true, true, true, true, true, false, false, false, false, false, false, false, false] rfl rfl (any_of HT_.out (by kernel_rfl)) (fun _ _ _ h => h) (Or.inl ⟨by rfl, ?_⟩) ?_ ?_
      rotate_left
      · intro w'
        go_simp
        with_reducible rfl
      rotate_left
      · simp only [Act.put, List.setIfInBounds_toArray, List.set_cons_zero, List.set_cons_succ]
        rfl
      refine take_ (i := 14) (N := some 76) (v := ?_) (a' := ?_) #[true, true, true, true, true, true, true, true, true, true, true, true, true, true, true, false, false, false, false, false, false, false] rfl rfl (take_ofW HT_.out HW_.out (by kernel_rfl)) (fun _ _ _ h => h) (Or.inl ⟨by rfl, ?_⟩) hHeld ?_ ?_
      rotate_left
      · rintro w' hS; have hbS := HW.out.2.2.1.trans (hS.mono HW.out.2.2.1.size); obtain ⟨s1, _, _, _, _, _, _, _⟩ := EC.out w' hbS; obtain ⟨t0, t2, t3, t4, t5, t6, t7, t8, t9⟩ := HD.out w' hbS
        go_simp
        with_reducible rfl
      rotate_left
      · simp only [Act.put, List.setIfInBounds_toArray, List.set_cons_zero, List.set_cons_succ]
        rfl
      refine pure_ (i := 15) (N := some 77) (v := ?_) (a' := ?_) #[true, true, true, true, true, true, true, true, true, true, true, true, true, true, true, true, false, false, false, false, false, false] rfl rfl (any_of HT_.out (by kernel_rfl)) (fun _ _ _ h => h) (Or.inl ⟨by rfl, ?_⟩) ?_ ?_
      rotate_left
      · intro w'
        go_simp
        with_reducible rfl
      rotate_left
      · simp only [Act.put, List.setIfInBounds_toArray, List.set_cons_zero, List.set_cons_succ]
        rfl
      refine pure_ (i := 16) (N := some 78) (v := ?_) (a' := ?_) #[true, true, true, true, true, true, true, true, true, true, true, true, true, true, true, true, true, false, false, false, false, false] rfl rfl (any_of HT_.out (by kernel_rfl)) (fun _ _ _ h => h) (Or.inl ⟨by rfl, ?_⟩) ?_ ?_
      rotate_left
      · intro w'
        go_simp
        with_reducible rfl
      rotate_left
      · simp only [Act.put, List.setIfInBounds_toArray, List.set_cons_zero, List.set_cons_succ]
        rfl
      refine pure_ (i := 17) (N := some 79) (v := ?_) (a' := ?_) #[true, true, true, true, true, true, true, true, true, true, true, true, true, true, true, true, true, true, false, false, false, false] rfl rfl (any_of HT_.out (by kernel_rfl)) (fun _ _ _ h => h) (Or.inl ⟨by rfl, ?_⟩) ?_ ?_
      rotate_left
      · intro w'
        go_simp
        with_reducible rfl
      rotate_left
      · simp only [Act.put, List.setIfInBounds_toArray, List.set_cons_zero, List.set_cons_succ]
        rfl
      refine take_ (i := 18) (N := some 80) (v := ?_) (a' := ?_) #[true, true, true, true, true, true, true, true, true, true, true, true, true, true, true, true, true, true, true, false, false, false] rfl rfl (take_ofW HT_.out HW_.out (by kernel_rfl)) (fun _ _ _ h => h) (Or.inl ⟨by rfl, ?_⟩) hHeld ?_ ?_
      rotate_left
      · rintro w' hS; have hbS := HW.out.2.2.1.trans (hS.mono HW.out.2.2.1.size); obtain ⟨s1, _, _, _, _, _, _, _⟩ := EC.out w' hbS; obtain ⟨t0, t2, t3, t4, t5, t6, t7, t8, t9⟩ := HD.out w' hbS
        go_simp
        with_reducible rfl
      rotate_left
      · simp only [Act.put, List.setIfInBounds_toArray, List.set_cons_zero, List.set_cons_succ]
        rfl
      refine one_ (i := 19) (N := some 81) #[true, true, true, true, true, true, true, true, true, true, true, true, true, true, true, true, true, true, true, true, false, false] rfl rfl (one_of HT_.out (by kernel_rfl)) (by decide) (fun K hK => ?_)
      rw [if_pos (by rfl)]
      go_simp
      refine hK.out _ _ (hHeld.alloc hHeld.size _) (fun hHeld => ?_)
      clear hK K
      refine last_ (i := 20) (N := some 82) #[true, true, true, true, true, true, true, true, true, true, true, true, true, true, true, true, true, true, true, true, true, false] rfl rfl (one_of HT_.out (by kernel_rfl)) (by decide) (fun K hK => ?_)
      refine Kd.R_append_rows_step k48 (Rr := k48.K w) (w0 := w1) w1.heap.size (by rfl) _ _ 54 48 (.agg #[(.int .u64 0), (.bool false)]) 16 rfl Tryd.underlying54 infoC rfl (Nat.zero_lt_succ 1) (by decide) u3 xs [(⟨r.f2.f0, r.f2.f1⟩ : RCnt), ⟨r.f3.f0, r.f3.f1⟩, ⟨r.f4.f0, r.f4.f1⟩] (some ⟨wr.heap.size, 0, none⟩) 3 3 (fun _ => True) (fun _ => False) rfl rfl (Kd.R_below HW.out.1 hHeld) (reads_alloc k48 _ _ [(⟨r.f2.f0, r.f2.f1⟩ : RCnt), ⟨r.f3.f0, r.f3.f1⟩, ⟨r.f4.f0, r.f4.f1⟩] _ [.int .u64 r.f2.f0, .bool r.f2.f1, .int .u64 r.f3.f0, .bool r.f3.f1, .int .u64 r.f4.f0, .bool r.f4.f1] 3 rfl rfl (fun W' ok => Reps.c2 (cntM _ _ _ _ _) (Reps.c2 (cntM _ _ _ _ _) (Reps.c2 (cntM _ _ _ _ _) (Reps.none _ _)))) (by omega)) (fun _ _ h => h) (fun _ h => h.elim) (fun _ _ => trivial) (HW.out.2.2.1.trans (hHeld.mono HW.out.2.2.1.size)) (HW.out.2.2.1.trans (hHeld.mono HW.out.2.2.1.size)).size (by have := HW.out.2.1; omega) ?_; intro v6 w6 hr6 hb6 hg6 hat6
      refine hK.out _ _ ?_
      clear hK K
      refine pure_ (i := 21) (N := some 3) (v := ?_) (a' := ?_) #[true, true, true, true, true, true, true, true, true, true, true, true, true, true, true, true, true, true, true, true, true, true] rfl rfl (any_of HT_.out (by kernel_rfl)) (fun _ _ _ h => h) (Or.inl ⟨by rfl, ?_⟩) ?_ ?_
      rotate_left
      · intro w'
        go_simp
        with_reducible rfl
      rotate_left
      · simp only [Act.put, List.setIfInBounds_toArray, List.set_cons_zero, List.set_cons_succ]
        rfl
      refine done_ (done_of HT_.out (by kernel_rfl)) ?_
      clear HT_ HW_ hHeld
      obtain ⟨xs6, hxs6⟩ : ∃ xs6, Hid (xs ++ [(⟨r.f2.f0, r.f2.f1⟩ : RCnt), ⟨r.f3.f0, r.f3.f1⟩, ⟨r.f4.f0, r.f4.f1⟩] = xs6 ∧ xs6.length ≤ 6 + 43 * k) := ⟨_, rfl, by rw [List.length_append]; have := HW.out.2.1; simp only [List.length_cons, List.length_nil]; omega⟩
      rw [hxs6.out.1] at hr6
      have H6 : Hid (Kd.R k48 48 w6 w1.heap.size (fun _ => True) v6 xs6 ∧ Below w1.heap.size w1 w6) := ⟨hr6, hb6⟩
      clear hr6 hb6 hg6 hat6
      obtain ⟨c1, c2, _, _, _, _, _, _⟩ := EC.out w6 H6.out.2
      obtain ⟨q0, q2, q3, q4, q5, q6, q7, q8, q9⟩ := HD.out w6 H6.out.2
      have HC6 := Lib.hid (Kd.C_below HC5.out (H1.out.2.trans (H6.out.2.mono H1.out.2.size)))
      go_wp2_with (at_builtin; go_loud (refine Kd.R_append_rows k48 (Rr := k48.K w6) (w0 := w1) w1.heap.size rfl _ _ 54 48 (.agg #[(.int .u64 0), (.bool false)]) 16 rfl Tryd.underlying54 infoC rfl (Nat.zero_lt_succ 1) (by decide) v6 xs6 r.f5 A1 l5 c11 (fun _ => True) (fun _ => False) rfl rfl H6.out.1 HC6.out (fun _ _ h => h) (fun _ h => h.elim) (fun _ _ => trivial) H6.out.2 H6.out.2.size (by have := hxs6.out.2; have := HLn.out.2.1; omega) ?_))
      intro v7 w7 hr7 hb7 hg7 hat7
      have H7 : Hid (Kd.R k48 48 w7 w1.heap.size (fun _ => True) v7 (xs6 ++ r.f5) ∧ (xs6 ++ r.f5).length ≤ 3 + 43 * (k + 1) ∧ Below w1.heap.size w1 w7) := ⟨hr7, by rw [List.length_append, hl5.out]; have := hxs6.out.2; have := HLn.out.2.1; omega, hb7⟩
      clear hr7 hb7 hg7 hat7 c1 c2 q0 q2 q3 q4 q5 q6 q7 q8 q9
      go_wp2_with fail
      go_roundw
      case rel =>
        refine ⟨k + 1, v7, by go_num, rfl, by omega, xs6 ++ r.f5, H7.out.1, H7.out.2.1, H7.out.2.2, fun j x hj hx => ?_⟩
        rcases Nat.lt_or_ge j k with h | h
        · exact HW.out.2.2.2 j x h hx
        · obtain rfl : j = k := by omega
          rw [hr.out.2] at hx
          obtain rfl := Option.some.inj hx
          rw [hl0.out, hl5.out, hl6.out]; exact HLn.out
      case measure => simp [intOf]; omega
    · obtain rfl : k = n := by omega
      have HOK : Hid (∀ x ∈ o.f1, x.f0.length ≤ 20 ∧ x.f5.length ≤ 40 ∧ x.f6.length ≤ 20) := fun x hx => by
        obtain ⟨j, hj, e⟩ := List.mem_iff_getElem.1 hx
        exact HW.out.2.2.2 j x (by rw [hn.out] at hj; exact hj) (by rw [List.getElem?_eq_getElem hj, e])
      have H7 : Hid (Kd.R k48 48 wr w1.heap.size (fun _ => True) u3 xs ∧ xs.length ≤ 600 ∧ Below w1.heap.size w1 wr) := ⟨HW.out.1, by have := HW.out.2.1; omega, HW.out.2.2.1⟩
      go_wp2_with fail
      clear c1 c2 HW
      obtain ⟨wo, hwo⟩ : ∃ wo, wr = wo := ⟨_, rfl⟩
      subst hwo
      go_loopw [5, 3] (fun iv lv wx => ∃ (i : Nat) (av : Value), iv = .int .i64 i ∧ lv = av ∧ i ≤ m ∧ Hid (∃ xs : List RCnt, Kd.R k48 48 wx w1.heap.size (fun _ => True) av xs ∧ xs.length ≤ 600 + 3 * i ∧ Below w1.heap.size w1 wx)) (fun iv _ _ => m - (intOf iv).toNat)
      case atStart => exact ⟨0, _, rfl, rfl, Nat.zero_le _, _, H7.out.1, H7.out.2.1, H7.out.2.2⟩
      case round =>
        obtain ⟨i, av, rfl, rfl, hi, HX⟩ := hrel
        obtain ⟨xs, hxs⟩ := HX.out
        have HW := Lib.hid hxs; clear hxs HX
        obtain ⟨c1, c2, _, _, _, _, _, _⟩ := EC.out wr HW.out.2.2
        by_cases hlt : i < m
        · have hki : (i : Int) < (m : Int) := by omega
          obtain ⟨ad, rfl, d0, d1, d2, d3, d4, d5, d6, d7⟩ := at_T91 HE.out i (by omega) (by omega)
          obtain ⟨r, hr⟩ : ∃ r, Hid (rd_T91 o.f2 i = r) := ⟨_, Lib.hid rfl⟩
          rw [hr.out] at d0 d1 d2 d3 d4 d5 d6 d7
          rw [show ((i : Int)).toNat = i from by omega] at d0 d1 d2 d3 d4 d5 d6 d7
          obtain ⟨qa, hqa⟩ : ∃ qa, Hid (ad.add (i * 8) = qa) := ⟨_, Lib.hid rfl⟩
          have hqo := hqa.out
          rw [hqa.out] at d0 d1 d2 d3 d4 d5 d6 d7
          have HD : Hid (∀ W, Below w1.heap.size w1 W → W.cell? ⟨qa.block, qa.off + 2, none⟩ = some (.int .u64 r.f2.f0) ∧ W.cell? ⟨qa.block, qa.off + 3, none⟩ = some (.bool r.f2.f1) ∧ W.cell? ⟨qa.block, qa.off + 4, none⟩ = some (.int .u64 r.f3.f0) ∧ W.cell? ⟨qa.block, qa.off + 5, none⟩ = some (.bool r.f3.f1) ∧ W.cell? ⟨qa.block, qa.off + 6, none⟩ = some (.int .u64 r.f4.f0) ∧ W.cell? ⟨qa.block, qa.off + 7, none⟩ = some (.bool r.f4.f1)) := fun W hb => by
            have hb' : Below w.heap.size w W := H1.out.2.trans (hb.mono H1.out.2.size)
            exact ⟨pw_cell_below hb' d2, pw_cell_below hb' d3, pw_cell_below hb' d4, pw_cell_below hb' d5, pw_cell_below hb' d6, pw_cell_below hb' d7⟩
          clear d0 d1 d2 d3 d4 d5 d6 d7
          go_upto_region 14 with fail
          clear c1 c2
          refine start_ (n := 22) (S := (fun w' => Below wr.heap.size wr w')) (ds := [20, 21]) #[false, false, false, false, false, false, false, false, false, false, false, false, false, false, false, false, false, false, false, false, false, false] (by kernel_rfl) (by rfl) (by rfl) (Below_drewN (Below.refl wr.heap.size wr) 1) (fun hHeld => ?_); refine with_tabW tab14_14 bits14_14 (fun HT_ HW_ => ?_)
          refine pure_ (i := 0) (N := some 98) (v := ?_) (a' := ?_) #[true, false, false, false, false, false, false, false, false, false, false, false, false, false, false, false, false, false, false, false, false, false] rfl rfl (any_of HT_.out (by kernel_rfl)) (fun _ _ _ h => h) (Or.inl ⟨by rfl, ?_⟩) ?_ ?_
          rotate_left
          · intro w'
            go_simp
            with_reducible rfl
          rotate_left
          · simp only [Act.put, List.setIfInBounds_toArray, List.set_cons_zero, List.set_cons_succ]
            rfl
          refine pure_ (i := 1) (N := some 99) (v := ?_) (a' := ?_) #[true, true, false, false, false, false, false, false, false, false, false, false, false, false, false, false, false, false, false, false, false, false] rfl rfl (any_of HT_.out (by kernel_rfl)) (fun _ _ _ h => h) (Or.inl ⟨by rfl, ?_⟩) ?_ ?_
          rotate_left
          · intro w'
            go_simp
            with_reducible rfl
          rotate_left
          · simp only [Act.put, List.setIfInBounds_toArray, List.set_cons_zero, List.set_cons_succ]
            rfl
          refine take_ (i := 2) (N := some 100) (v := ?_) (a' := ?_) #[true, true, true, false, false, false, false, false, false, false, false, false, false, false, false, false, false, false, false, false, false, false] rfl rfl (take_ofW HT_.out HW_.out (by kernel_rfl)) (fun _ _ _ h => h) (Or.inl ⟨by rfl, ?_⟩) hHeld ?_ ?_
          rotate_left
          · rintro w' hS; have hbS := HW.out.2.2.trans (hS.mono HW.out.2.2.size); obtain ⟨_, s2, _, _, _, _, _, _⟩ := EC.out w' hbS; obtain ⟨t2, t3, t4, t5, t6, t7⟩ := HD.out w' hbS
            go_simp
            with_reducible rfl
          rotate_left
          · simp only [Act.put, List.setIfInBounds_toArray, List.set_cons_zero, List.set_cons_succ]
            rfl
          refine pure_ (i := 3) (N := some 101) (v := ?_) (a' := ?_) #[true, true, true, true, false, false, false, false, false, false, false, false, false, false, false, false, false, false, false, false, false, false] rfl rfl (any_of HT_.out (by kernel_rfl)) (fun _ _ _ h => h) (Or.inl ⟨by rfl, ?_⟩) ?_ ?_
          rotate_left
          · intro w'
            go_simp
            with_reducible rfl
          rotate_left
          · simp only [Act.put, List.setIfInBounds_toArray, List.set_cons_zero, List.set_cons_succ]
            rfl
          refine pure_ (i := 4) (N := some 102) (v := ?_) (a' := ?_) #[true, true, true, true, true, false, false, false, false, false, false, false, false, false, false, false, false, false, false, false, false, false] rfl rfl (any_of HT_.out (by kernel_rfl)) (fun _ _ _ h => h) (Or.inl ⟨by rfl, ?_⟩) ?_ ?_
          rotate_left
          · intro w'
            go_simp
            with_reducible rfl
          rotate_left
          · simp only [Act.put, List.setIfInBounds_toArray, List.set_cons_zero, List.set_cons_succ]
            rfl
          refine pure_ (i := 5) (N := some 103) (v := ?_) (a' := ?_) #[true, true, true, true, true, true, false, false, false, false, false, false, false, false, false, false, false, false, false, false, false, false] rfl rfl (any_of HT_.out (by kernel_rfl)) (fun _ _ _ h => h) (Or.inl ⟨by rfl, ?_⟩) ?_ ?_
          rotate_left
          · intro w'
            go_simp
            with_reducible rfl
          rotate_left
          · simp only [Act.put, List.setIfInBounds_toArray, List.set_cons_zero, List.set_cons_succ]
            rfl
          refine take_ (i := 6) (N := some 104) (v := ?_) (a' := ?_) #[true, true, true, true, true, true, true, false, false, false, false, false, false, false, false, false, false, false, false, false, false, false] rfl rfl (take_ofW HT_.out HW_.out (by kernel_rfl)) (fun _ _ _ h => h) (Or.inl ⟨by rfl, ?_⟩) hHeld ?_ ?_
          rotate_left
          · rintro w' hS; have hbS := HW.out.2.2.trans (hS.mono HW.out.2.2.size); obtain ⟨_, s2, _, _, _, _, _, _⟩ := EC.out w' hbS; obtain ⟨t2, t3, t4, t5, t6, t7⟩ := HD.out w' hbS
            go_simp
            with_reducible rfl
          rotate_left
          · simp only [Act.put, List.setIfInBounds_toArray, List.set_cons_zero, List.set_cons_succ]
            rfl
          refine pure_ (i := 7) (N := some 105) (v := ?_) (a' := ?_) #[true, true, true, true, true, true, true, true, false, false, false, false, false, false, false, false, false, false, false, false, false, false] rfl rfl (any_of HT_.out (by kernel_rfl)) (fun _ _ _ h => h) (Or.inl ⟨by rfl, ?_⟩) ?_ ?_
          rotate_left
          · intro w'
            go_simp
            with_reducible rfl
          rotate_left
          · simp only [Act.put, List.setIfInBounds_toArray, List.set_cons_zero, List.set_cons_succ]
            rfl
          refine take_ (i := 8) (N := some 106) (v := ?_) (a' := ?_) #[true, true, true, true, true, true, true, true, true, false, false, false, false, false, false, false, false, false, false, false, false, false] rfl rfl (take_ofW HT_.out HW_.out (by kernel_rfl)) (fun _ _ _ h => h) (Or.inl ⟨by rfl, ?_⟩) hHeld ?_ ?_
          rotate_left
          · rintro w' hS; have hbS := HW.out.2.2.trans (hS.mono HW.out.2.2.size); obtain ⟨_, s2, _, _, _, _, _, _⟩ := EC.out w' hbS; obtain ⟨t2, t3, t4, t5, t6, t7⟩ := HD.out w' hbS
            go_simp
            with_reducible rfl
          rotate_left
          · simp only [Act.put, List.setIfInBounds_toArray, List.set_cons_zero, List.set_cons_succ]
            rfl
          refine pure_ (i := 9) (N := some 107) (v := ?_) (a' := ?_) #[true, true, true, true, true, true, true, true, true, true, false, false, false, false, false, false, false, false, false, false, false, false] rfl rfl (any_of HT_.out (by kernel_rfl)) (fun _ _ _ h => h) (Or.inl ⟨by rfl, ?_⟩) ?_ ?_
          rotate_left
          · intro w'
            go_simp
            with_reducible rfl
          rotate_left
          · simp only [Act.put, List.setIfInBounds_toArray, List.set_cons_zero, List.set_cons_succ]
            rfl
          refine pure_ (i := 10) (N := some 108) (v := ?_) (a' := ?_) #[true, true, true, true, true, true, true, true, true, true, true, false, false, false, false, false, false, false, false, false, false, false] rfl rfl (any_of HT_.out (by kernel_rfl)) (fun _ _ _ h => h) (Or.inl ⟨by rfl, ?_⟩) ?_ ?_
          rotate_left
          · intro w'
            go_simp
            with_reducible rfl
          rotate_left
          · simp only [Act.put, List.setIfInBounds_toArray, List.set_cons_zero, List.set_cons_succ]
            rfl
          refine pure_ (i := 11) (N := some 109) (v := ?_) (a' := ?_) #[true, true, true, true, true, true, true, true, true, true, true, true, false, false, false, false, false, false, false, false, false, false] rfl rfl (any_of HT_.out (by kernel_rfl)) (fun _ _ _ h => h) (Or.inl ⟨by rfl, ?_⟩) ?_ ?_
          rotate_left
          · intro w'
            go_simp
            with_reducible rfl
          rotate_left
          · simp only [Act.put, List.setIfInBounds_toArray, List.set_cons_zero, List.set_cons_succ]
            rfl
          refine take_ (i := 12) (N := some 110) (v := ?_) (a' := ?_) #[true, true, true, true, true, true, true, true, true, true, true, true, true, false, false, false, false, false, false, false, false, false] rfl rfl (take_ofW HT_.out HW_.out (by kernel_rfl)) (fun _ _ _ h => h) (Or.inl ⟨by rfl, ?_⟩) hHeld ?_ ?_
          rotate_left
          · rintro w' hS; have hbS := HW.out.2.2.trans (hS.mono HW.out.2.2.size); obtain ⟨_, s2, _, _, _, _, _, _⟩ := EC.out w' hbS; obtain ⟨t2, t3, t4, t5, t6, t7⟩ := HD.out w' hbS
            go_simp
            with_reducible rfl
          rotate_left
          · simp only [Act.put, List.setIfInBounds_toArray, List.set_cons_zero, List.set_cons_succ]
            rfl
          refine pure_ (i := 13) (N := some 111) (v := ?_) (a' := ?_) #[true, true, true, true, true, true, true, true, true, true, true, true, true, true, false, false, false, false, false, false, false, false] rfl rfl (any_of HT_.out (by kernel_rfl)) (fun _ _ _ h => h) (Or.inl ⟨by rfl, ?_⟩) ?_ ?_
          rotate_left
          · intro w'
            go_simp
            with_reducible rfl
          rotate_left
          · simp only [Act.put, List.setIfInBounds_toArray, List.set_cons_zero, List.set_cons_succ]
            rfl
          refine take_ (i := 14) (N := some 112) (v := ?_) (a' := ?_) #[true, true, true, true, true, true, true, true, true, true, true, true, true, true, true, false, false, false, false, false, false, false] rfl rfl (take_ofW HT_.out HW_.out (by kernel_rfl)) (fun _ _ _ h => h) (Or.inl ⟨by rfl, ?_⟩) hHeld ?_ ?_
          rotate_left
          · rintro w' hS; have hbS := HW.out.2.2.trans (hS.mono HW.out.2.2.size); obtain ⟨_, s2, _, _, _, _, _, _⟩ := EC.out w' hbS; obtain ⟨t2, t3, t4, t5, t6, t7⟩ := HD.out w' hbS
            go_simp
            with_reducible rfl
          rotate_left
          · simp only [Act.put, List.setIfInBounds_toArray, List.set_cons_zero, List.set_cons_succ]
            rfl
          refine pure_ (i := 15) (N := some 113) (v := ?_) (a' := ?_) #[true, true, true, true, true, true, true, true, true, true, true, true, true, true, true, true, false, false, false, false, false, false] rfl rfl (any_of HT_.out (by kernel_rfl)) (fun _ _ _ h => h) (Or.inl ⟨by rfl, ?_⟩) ?_ ?_
          rotate_left
          · intro w'
            go_simp
            with_reducible rfl
          rotate_left
          · simp only [Act.put, List.setIfInBounds_toArray, List.set_cons_zero, List.set_cons_succ]
            rfl
          refine pure_ (i := 16) (N := some 114) (v := ?_) (a' := ?_) #[true, true, true, true, true, true, true, true, true, true, true, true, true, true, true, true, true, false, false, false, false, false] rfl rfl (any_of HT_.out (by kernel_rfl)) (fun _ _ _ h => h) (Or.inl ⟨by rfl, ?_⟩) ?_ ?_
          rotate_left
          · intro w'
            go_simp
            with_reducible rfl
          rotate_left
          · simp only [Act.put, List.setIfInBounds_toArray, List.set_cons_zero, List.set_cons_succ]
            rfl
          refine pure_ (i := 17) (N := some 115) (v := ?_) (a' := ?_) #[true, true, true, true, true, true, true, true, true, true, true, true, true, true, true, true, true, true, false, false, false, false] rfl rfl (any_of HT_.out (by kernel_rfl)) (fun _ _ _ h => h) (Or.inl ⟨by rfl, ?_⟩) ?_ ?_
          rotate_left
          · intro w'
            go_simp
            with_reducible rfl
          rotate_left
          · simp only [Act.put, List.setIfInBounds_toArray, List.set_cons_zero, List.set_cons_succ]
            rfl
          refine take_ (i := 18) (N := some 116) (v := ?_) (a' := ?_) #[true, true, true, true, true, true, true, true, true, true, true, true, true, true, true, true, true, true, true, false, false, false] rfl rfl (take_ofW HT_.out HW_.out (by kernel_rfl)) (fun _ _ _ h => h) (Or.inl ⟨by rfl, ?_⟩) hHeld ?_ ?_
          rotate_left
          · rintro w' hS; have hbS := HW.out.2.2.trans (hS.mono HW.out.2.2.size); obtain ⟨_, s2, _, _, _, _, _, _⟩ := EC.out w' hbS; obtain ⟨t2, t3, t4, t5, t6, t7⟩ := HD.out w' hbS
            go_simp
            with_reducible rfl
          rotate_left
          · simp only [Act.put, List.setIfInBounds_toArray, List.set_cons_zero, List.set_cons_succ]
            rfl
          refine one_ (i := 19) (N := some 117) #[true, true, true, true, true, true, true, true, true, true, true, true, true, true, true, true, true, true, true, true, false, false] rfl rfl (one_of HT_.out (by kernel_rfl)) (by decide) (fun K hK => ?_)
          rw [if_pos (by rfl)]
          go_simp
          refine hK.out _ _ (hHeld.alloc hHeld.size _) (fun hHeld => ?_)
          clear hK K
          refine last_ (i := 20) (N := some 118) #[true, true, true, true, true, true, true, true, true, true, true, true, true, true, true, true, true, true, true, true, true, false] rfl rfl (one_of HT_.out (by kernel_rfl)) (by decide) (fun K hK => ?_)
          refine Kd.R_append_rows_step k48 (Rr := k48.K w) (w0 := w1) w1.heap.size (by rfl) _ _ 54 48 (.agg #[(.int .u64 0), (.bool false)]) 16 rfl Tryd.underlying54 infoC rfl (Nat.zero_lt_succ 1) (by decide) u3 xs [(⟨r.f2.f0, r.f2.f1⟩ : RCnt), ⟨r.f3.f0, r.f3.f1⟩, ⟨r.f4.f0, r.f4.f1⟩] (some ⟨wr.heap.size, 0, none⟩) 3 3 (fun _ => True) (fun _ => False) rfl rfl (Kd.R_below HW.out.1 hHeld) (reads_alloc k48 _ _ [(⟨r.f2.f0, r.f2.f1⟩ : RCnt), ⟨r.f3.f0, r.f3.f1⟩, ⟨r.f4.f0, r.f4.f1⟩] _ [.int .u64 r.f2.f0, .bool r.f2.f1, .int .u64 r.f3.f0, .bool r.f3.f1, .int .u64 r.f4.f0, .bool r.f4.f1] 3 rfl rfl (fun W' ok => Reps.c2 (cntM _ _ _ _ _) (Reps.c2 (cntM _ _ _ _ _) (Reps.c2 (cntM _ _ _ _ _) (Reps.none _ _)))) (by omega)) (fun _ _ h => h) (fun _ h => h.elim) (fun _ _ => trivial) (HW.out.2.2.trans (hHeld.mono HW.out.2.2.size)) (HW.out.2.2.trans (hHeld.mono HW.out.2.2.size)).size (by have := HW.out.2.1; omega) ?_; intro v6 w6 hr6 hb6 hg6 hat6
          refine hK.out _ _ ?_
          clear hK K
          refine pure_ (i := 21) (N := some 3) (v := ?_) (a' := ?_) #[true, true, true, true, true, true, true, true, true, true, true, true, true, true, true, true, true, true, true, true, true, true] rfl rfl (any_of HT_.out (by kernel_rfl)) (fun _ _ _ h => h) (Or.inl ⟨by rfl, ?_⟩) ?_ ?_
          rotate_left
          · intro w'
            go_simp
            with_reducible rfl
          rotate_left
          · simp only [Act.put, List.setIfInBounds_toArray, List.set_cons_zero, List.set_cons_succ]
            rfl
          refine done_ (done_of HT_.out (by kernel_rfl)) ?_
          clear HT_ HW_ hHeld
          obtain ⟨xs6, hxs6⟩ : ∃ xs6, Hid (xs ++ [(⟨r.f2.f0, r.f2.f1⟩ : RCnt), ⟨r.f3.f0, r.f3.f1⟩, ⟨r.f4.f0, r.f4.f1⟩] = xs6 ∧ xs6.length ≤ 600 + 3 * (i + 1)) := ⟨_, rfl, by rw [List.length_append]; have := HW.out.2.1; simp only [List.length_cons, List.length_nil]; omega⟩
          rw [hxs6.out.1] at hr6
          have H6 : Hid (Kd.R k48 48 w6 w1.heap.size (fun _ => True) v6 xs6 ∧ xs6.length ≤ 600 + 3 * (i + 1) ∧ Below w1.heap.size w1 w6) := ⟨hr6, hxs6.out.2, hb6⟩
          clear hr6 hb6 hg6 hat6
          go_wp2_with fail
          go_roundw
          case rel => exact ⟨i + 1, v6, by go_num, rfl, by omega, xs6, H6.out⟩
          case measure => simp [intOf]; omega
        · obtain rfl : i = m := by omega
          have HOO : Hid (okO o) := ⟨by rw [hn.out]; omega, by rw [hm.out]; omega, HOK.out⟩
          obtain ⟨A9, c9, e9, _, hC9⟩ := Kd.R_reads HW.out.1
          obtain ⟨N, hN⟩ : ∃ N, Hid (xs.length = N ∧ N ≤ 1000) := ⟨_, rfl, by have := HW.out.2.1; omega⟩
          rw [hN.out.1] at e9 hC9
          subst e9
          have HC9 : Hid (Kd.C k48 wr A9 N xs ∧ Below w1.heap.size w1 wr) := ⟨hC9, HW.out.2.2⟩
          clear hC9 HW
          go_wp2_with fail
          clear c1 c2
          obtain ⟨wo, hwo⟩ : ∃ wo, wr = wo := ⟨_, rfl⟩
          subst hwo
          go_loopw [6] (fun iv wx => ∃ (j : Nat), iv = .int .i64 j ∧ j ≤ N ∧ Hid (Kd.C k48 wx A9 N xs ∧ Below w1.heap.size w1 wx)) (fun iv _ => N - (intOf iv).toNat)
          case atStart => exact ⟨0, rfl, Nat.zero_le _, HC9.out⟩
          case round =>
            obtain ⟨j, rfl, hj, HW⟩ := hrel
            have hnb := hN.out.2
            by_cases hlt : j < N
            · have hki : (j : Int) < (N : Int) := by omega
              obtain ⟨ad, rfl, d0, d1⟩ := at_T48 HW.out.1 j (by omega) (by omega)
              obtain ⟨y, hy⟩ : ∃ y, Hid (rd_T48 xs j = y) := ⟨_, Lib.hid rfl⟩
              rw [hy.out, show ((j : Int)).toNat = j from by omega] at d0 d1
              go_wp2_with fail
              refine (CRight_c y.f0 y.f1 wr).mono ?_
              rintro e w8 ⟨rb, rfl, _, hb8⟩
              have H8 : Hid (Kd.C k48 w8 (some ad) N xs ∧ Below w1.heap.size w1 w8) := ⟨Kd.C_below HW.out.1 hb8, HW.out.2.trans (hb8.mono HW.out.2.size)⟩
              clear hb8 d0 d1
              cases rb
              · go_wp2_with fail
                go_ret
                exact ⟨_, rfl, (fun h => by cases h), H1.out.2.trans (H8.out.2.mono H1.out.2.size)⟩
              · go_wp2_with fail
                go_roundw
                case rel => exact ⟨j + 1, by go_num, by omega, H8⟩
                case measure => simp [intOf]; omega
            · obtain rfl : j = N := by omega
              go_wp2_with fail
              go_ret
              exact ⟨_, rfl, fun _ => HOO.out, H1.out.2.trans (HW.out.2.mono H1.out.2.size)⟩
end Go.Proofs.YtdbmcikoiilanaaDoor.Xp
set_option linter.unusedVariables false
set_option linter.unusedSimpArgs false
namespace Go.Proofs.YtdbmcikoiilanaaDoor.Xp
open Go.RowKit Go.Proofs.YtdbmcikoiilanaaDoor.B0 Go.Proofs.YtdbmcikoiilanaaDoorW.PrintWords Go.Proofs.YtdbmcikoiilanaaDoor.Bld Go.Proofs.YtdbmcikoiilanaaDoor.Pp Go.Proofs.YtdbmcikoiilanaaDoor.Kn Go.Proofs.YtdbmcikoiilanaaDoor.Ko
open Go.Proofs.YtdbmcikoiilanaaDoorW.PrintLast

/-- blocks of type T stay. -/
def KT (T : Nat) (w w' : World) : Prop := ∀ (k : Nat) (cs : Array Value), w.heap[k]? = some (Obj.cells cs T (0, 0)) → w'.heap[k]? = some (Obj.cells cs T (0, 0))
theorem KT.refl {T : Nat} (w : World) : KT T w w := fun _ _ h => h
theorem KT.trans {T : Nat} {a b c : World} (h : KT T a b) (h' : KT T b c) : KT T a c := fun k cs hk => h' k cs (h k cs hk)
theorem KT.below {T : Nat} {w w' : World} (h : Below w.heap.size w w') : KT T w w' := fun k cs hk => (h.block k (lt_of_get hk)).trans hk
theorem KT.set {T : Nat} {w : World} {b o : Nat} {v : Value} {cs : Array Value} {S : TypeId} (hb : w.heap[b]? = some (.cells cs S (0, 0))) (hT : S ≠ T) : KT T w (w.setCell ⟨b, o, none⟩ v) := fun k cs' hk => by
  refine (setO w ⟨b, o, none⟩ v ?_).trans hk
  rintro rfl
  rw [hb] at hk
  exact hT (Obj.cells.inj (Option.some.inj hk)).2.1
theorem KT.grown {T : Nat} {w w' : World} {v : Value} {α : Type} {d : Kd α} {S base : Nat} {ok : Nat → Prop} {xs : List α} (h : d.R S w base ok v xs) (hT : S ≠ T) (hg : w.grownBy w' v.ownBlock) : KT T w w' := fun k cs hk => by
  refine (hg.block k (lt_of_get hk) (fun e => ?_)).trans hk
  obtain ⟨cells, hc⟩ := Kd.R_typed h k e.symm
  rw [hk] at hc
  exact hT (Obj.cells.inj (Option.some.inj hc)).2.1.symm
/-- a row in a block of type T. -/
def TAt {α : Type} (d : Kd α) (T : Nat) (w : World) (A : Option Addr) (xs : List α) : Prop := d.C w A xs.length xs ∧ ∀ ad, A = some ad → ∃ cs, w.heap[ad.block]? = some (.cells cs T (0, 0))
theorem TAt.keep {α : Type} {d : Kd α} {T : Nat} {w w' : World} {A : Option Addr} {xs : List α} (hf : ∀ x cs, d.K w x cs → d.K w' x cs) (h : TAt d T w A xs) (hk : KT T w w') : TAt d T w' A xs := by
  refine ⟨⟨h.1.1, h.1.2.1, fun hn => ?_⟩, fun ad e => ?_⟩
  · obtain ⟨ad, e, hc⟩ := h.1.2.2 hn
    obtain ⟨cs, hb⟩ := h.2 ad e
    refine ⟨ad, e, fun j p hj => ?_⟩
    obtain ⟨c, h1, h2, h3⟩ := hc j p hj
    refine ⟨c, h1, hf _ _ h2, fun i u hu => ?_⟩
    have h4 := h3 i u hu
    have hbl : ∀ m, (ad.add m).block = ad.block := fun m => by unfold Addr.add; split <;> rfl
    rw [← h4]
    exact World.cell?_of_block (by rw [hbl, hk _ _ hb, hb])
  · obtain ⟨cs, hb⟩ := h.2 ad e
    exact ⟨cs, hk _ _ hb⟩
theorem TAt.nil {α : Type} (d : Kd α) (T : Nat) (w : World) : TAt d T w none [] := ⟨Kd.C_nil _ _, fun ad e => by cases e⟩
theorem TAt.of_R {α : Type} {d : Kd α} {T base : Nat} {w : World} {ok : Nat → Prop} {v : Value} {xs : List α} (h : d.R T w base ok v xs) : ∃ A c, v = .slice A xs.length c ∧ xs.length ≤ c ∧ TAt d T w A xs := by
  obtain ⟨A, c, rfl, hc, hC⟩ := Kd.R_reads h
  refine ⟨A, c, rfl, hc, hC, fun ad e => ?_⟩
  subst e
  obtain ⟨g, rfl⟩ := Kd.R_head h
  obtain ⟨cells, hh⟩ := Kd.R_typed h g (by simp [Value.ownBlock])
  exact ⟨cells, hh⟩
abbrev SCnt := S61
abbrev SOne := S98
abbrev ROne := S99
def cvC (c : RCnt) : SCnt := ⟨c.f0, c.f1⟩
def cvO (c : ROne) : SOne := ⟨c.f0, c.f1, c.f2, c.f3⟩
def cvR (r : RRow) : SRow := ⟨r.f0, r.f1, cvC r.f2, cvC r.f3, cvC r.f4, r.f5.map cvC, r.f6.map cvO⟩
def cvE (e : REdg) : SEdg := ⟨e.f0, e.f1, cvC e.f2, cvC e.f3, cvC e.f4⟩
theorem kc_flat (w w' : World) (x : SCnt) (cs : List Value) (h : k61.K w x cs) : k61.K w' x cs := h
theorem ko_flat (w w' : World) (x : SOne) (cs : List Value) (h : k98.K w x cs) : k98.K w' x cs := h
/-- a row's cells; its labels read at the elder world. -/
def RowAt (w0 w : World) (x : SRow) (r : List Value) : Prop := ∃ A0 c0 A1 c1 A2 c2, r = [.slice A0 x.f0.length c0, .bool x.f1, .int .u64 x.f2.f0, .bool x.f2.f1, .int .u64 x.f3.f0, .bool x.f3.f1, .int .u64 x.f4.f0, .bool x.f4.f1, .slice A1 x.f5.length c1, .slice A2 x.f6.length c2] ∧
  x.f0.length ≤ c0 ∧ Kd.C Kd.string w0 A0 x.f0.length x.f0 ∧ x.f5.length ≤ c1 ∧ TAt k61 61 w A1 x.f5 ∧ x.f6.length ≤ c2 ∧ TAt k98 98 w A2 x.f6
theorem RowAt.keep {w0 w w' : World} {x : SRow} {r : List Value} (h : RowAt w0 w x r) (h1 : KT 61 w w') (h2 : KT 98 w w') : RowAt w0 w' x r := by
  obtain ⟨A0, c0, A1, c1, A2, c2, e, p1, p2, p3, p4, p5, p6⟩ := h
  exact ⟨A0, c0, A1, c1, A2, c2, e, p1, p2, p3, p4.keep (kc_flat _ _) h1, p5, p6.keep (ko_flat _ _) h2⟩
theorem RowAt.raw {w0 w W : World} {base : Nat} {ok : Nat → Prop} {x : SRow} {r : List Value} (h : RowAt w0 w x r) : (Kd.raw 10).M W base ok r r := by
  obtain ⟨A0, c0, A1, c1, A2, c2, rfl, _⟩ := h
  exact ⟨rfl, rfl, fun u hu => by simp only [List.mem_cons, List.not_mem_nil, or_false] at hu; rcases hu with rfl | rfl | rfl | rfl | rfl | rfl | rfl | rfl | rfl | rfl <;> rfl⟩
def RowsAt (w0 w : World) (xs : List SRow) (rows : List (List Value)) : Prop := rows.length = xs.length ∧ ∀ (i : Nat) (x : SRow), xs[i]? = some x → ∃ r, rows[i]? = some r ∧ RowAt w0 w x r
theorem RowsAt.keep {w0 w w' : World} {xs : List SRow} {rows : List (List Value)} (h : RowsAt w0 w xs rows) (h1 : KT 61 w w') (h2 : KT 98 w w') : RowsAt w0 w' xs rows :=
  ⟨h.1, fun i x hx => by obtain ⟨r, e1, e2⟩ := h.2 i x hx; exact ⟨r, e1, e2.keep h1 h2⟩⟩
theorem RowsAt.snoc {w0 w : World} {xs : List SRow} {rows : List (List Value)} {x : SRow} {r : List Value} (h : RowsAt w0 w xs rows) (h' : RowAt w0 w x r) : RowsAt w0 w (xs ++ [x]) (rows ++ [r]) := by
  refine ⟨by rw [List.length_append, List.length_append, h.1]; rfl, fun i y hy => ?_⟩
  rcases Nat.lt_or_ge i xs.length with hl | hg
  · rw [List.getElem?_append_left hl] at hy
    rw [List.getElem?_append_left (by rw [h.1]; exact hl)]
    exact h.2 i y hy
  · rw [List.getElem?_append_right hg] at hy
    rw [List.getElem?_append_right (by rw [h.1]; exact hg), h.1]
    match hq : i - xs.length, hy with
    | 0, hy => simp only [List.getElem?_cons_zero, Option.some.injEq] at hy; subst hy; exact ⟨r, rfl, h'⟩
    | j + 1, hy => simp at hy
theorem rows_C {w0 w : World} {A : Option Addr} {n : Nat} {xs : List SRow} {rows : List (List Value)} (h : (Kd.raw 10).C w A n rows) (h2 : RowsAt w0 w xs rows) (hb : Below w0.heap.size w0 w) : Kd.C k70 w A n xs := by
  have hlen := h2.1
  have h1 : rows.length = n := h.1
  refine ⟨by rw [← h1, hlen], h.2.1, fun hn => ?_⟩
  obtain ⟨ad, e, hcells⟩ := h.2.2 hn
  refine ⟨ad, e, fun j x hx => ?_⟩
  obtain ⟨r, hr, A0, c0, A1, c1, A2, c2, rfl, p1, p2, p3, p4, p5, p6⟩ := h2.2 j x hx
  obtain ⟨cs, hcl, ⟨rfl, _, _⟩, hcell⟩ := hcells j _ hr
  exact ⟨_, hcl, kRow_mk w x A0 A1 A2 c0 c1 c2 p1 (Kd.C_below p2 hb) p3 p4.1 p5 p6.1, hcell⟩
theorem infoRow : (Tryd.prog.info? 70).map (fun i => (i.zero, i.size, i.bytes)) = some (some (.agg #[(.slice none 0 0), (.bool false), (.int .u64 0), (.bool false), (.int .u64 0), (.bool false), (.int .u64 0), (.bool false), (.slice none 0 0), (.slice none 0 0)]), 10, 128) := by kernel_rfl
theorem infoEdg : (Tryd.prog.info? 94).map (fun i => (i.zero, i.size, i.bytes)) = some (some (.agg #[(.string ⟨#[]⟩), (.string ⟨#[]⟩), (.int .u64 0), (.bool false), (.int .u64 0), (.bool false), (.int .u64 0), (.bool false)]), 8, 80) := by kernel_rfl
theorem infoCnt : (Tryd.prog.info? 61).map (fun i => (i.zero, i.size, i.bytes)) = some (some (.agg #[(.int .u64 0), (.bool false)]), 2, 16) := by kernel_rfl
theorem infoOne : (Tryd.prog.info? 98).map (fun i => (i.zero, i.size, i.bytes)) = some (some (.agg #[(.int .u64 0), (.int .u64 0), (.int .u64 0), (.bool false)]), 4, 32) := by kernel_rfl
end Go.Proofs.YtdbmcikoiilanaaDoor.Xp
set_option linter.unusedVariables false
set_option linter.unusedSimpArgs false
namespace Go.Proofs.YtdbmcikoiilanaaDoor.Xp
open Go.RowKit Go.Proofs.YtdbmcikoiilanaaDoor.B0 Go.Proofs.YtdbmcikoiilanaaDoorW.PrintWords Go.Proofs.YtdbmcikoiilanaaDoor.Bld Go.Proofs.YtdbmcikoiilanaaDoor.Pp Go.Proofs.YtdbmcikoiilanaaDoor.Kn Go.Proofs.YtdbmcikoiilanaaDoor.Ko

theorem keyL_no10 (l : BL) (h : keyL l = true) : l.count 10 = 0 := List.count_eq_zero.2 fun hm => by
  have := key_mem h 10 hm
  exact absurd this (by decide)
theorem esc_no10 (c : UInt8) : (esc c).count 10 = 0 := by
  refine List.count_eq_zero.2 fun hm => ?_
  unfold esc at hm
  by_cases h : c = 92 ∨ c = 34
  · rw [if_pos h] at hm
    rcases h with rfl | rfl <;> exact absurd hm (by decide)
  · rw [if_neg h] at hm
    by_cases h2 : c = 10
    · rw [if_pos h2] at hm; exact absurd hm (by decide)
    · rw [if_neg h2] at hm
      exact h2 (List.mem_singleton.1 hm).symm
theorem quote_no10 (t : BL) : (quoteL t).count 10 = 0 := by
  have : (t.flatMap esc).count 10 = 0 := by
    induction t with
    | nil => rfl
    | cons c t ih => rw [List.flatMap_cons, List.count_append, esc_no10, ih]
  unfold quoteL
  rw [List.count_cons, List.count_append, this]; decide
theorem lab_no10 (y : Lb) (h : keyL y.k = true) : (labL y).count 10 = 0 := by
  unfold labL
  rw [List.count_append, List.count_cons, keyL_no10 _ h, quote_no10]; decide
theorem labs_no10 (ls : List Lb) (h : ∀ y ∈ ls, keyL y.k = true) : (labsL ls).count 10 = 0 := by
  have hf : ∀ r : List Lb, (∀ y ∈ r, keyL y.k = true) → (r.flatMap fun y => 44 :: labL y).count 10 = 0 := by
    intro r hr
    induction r with
    | nil => rfl
    | cons y r ih =>
      rw [List.flatMap_cons, List.count_append, List.count_cons, lab_no10 y (hr y List.mem_cons_self), ih (fun z hz => hr z (List.mem_cons_of_mem _ hz))]; decide
  cases ls with
  | nil => rfl
  | cons a r =>
    unfold labsL
    rw [List.count_append, lab_no10 a (h a List.mem_cons_self), hf r (fun z hz => h z (List.mem_cons_of_mem _ hz))]
theorem line_10 (x : Ln) (h : rightL x = true) : (lineP x).count 10 = 1 := by
  have h1 : keyL x.n = true ∧ ∀ y ∈ x.ls, keyL y.k = true := by
    unfold rightL at h
    rw [Bool.and_eq_true, List.all_eq_true] at h
    exact h
  have hd : (Lib.decDigits x.v).count 10 = 0 := List.count_eq_zero.2 fun hm => dec_10 x.v 10 hm rfl
  unfold lineP
  rw [List.count_append, List.count_cons, List.count_append, List.count_cons, List.count_cons, List.count_append, keyL_no10 _ h1.1, labs_no10 _ h1.2, hd]; decide
theorem print_10 : ∀ (xs : List Ln), (∀ x ∈ xs, rightL x = true) → (printP xs).count 10 = xs.length
  | [], _ => rfl
  | x :: xs, h => by
    have h1 := print_10 xs (fun y hy => h y (List.mem_cons_of_mem _ hy))
    have h2 := h x List.mem_cons_self
    have e : printP (x :: xs) = lineP x ++ printP xs := by unfold printP; rw [List.filter_cons_of_pos h2, List.flatMap_cons]
    rw [e, List.count_append, line_10 x h2, h1, List.length_cons]; omega
/-- a line that may be told and is of a size. -/
def okLn (q : Nat) (x : SLin) : Prop := (keyL x.f0.data.toList = true ∧ ∀ y ∈ x.f1, keyL y.f0.data.toList = true) ∧ x.f0.size ≤ 11 ∧ x.f1.length ≤ 22 ∧ ∀ y ∈ x.f1, y.f0.size + y.f1.size ≤ q
theorem okLn.right {q : Nat} {x : SLin} (h : okLn q x) : rightL (lnM x) = true := by
  rw [right_model, Bool.and_eq_true, List.all_eq_true]
  exact h.1
theorem labs_size (ls : List SLab) (q : Nat) (h : ∀ y ∈ ls, y.f0.size + y.f1.size ≤ q) : (labsL (ls.map lbM)).length ≤ ls.length * (2 * q + 7) := by
  have one : ∀ y ∈ ls, (labL (lbM y)).length ≤ 2 * q + 6 := fun y hy => by
    have h1 := labL_len (lbM y)
    have h2 := h y hy
    have e1 : (lbM y).k.length = y.f0.size := rfl
    have e2 : (lbM y).t.length = y.f1.size := rfl
    rw [e1, e2] at h1; omega
  have hf : ∀ r : List SLab, (∀ y ∈ r, (labL (lbM y)).length ≤ 2 * q + 6) → ((r.map lbM).flatMap fun y => 44 :: labL y).length ≤ r.length * (2 * q + 7) := by
    intro r hr
    induction r with
    | nil => simp
    | cons y r ih =>
      have h1 := hr y List.mem_cons_self
      have h2 := ih (fun z hz => hr z (List.mem_cons_of_mem _ hz))
      rw [List.map_cons, List.flatMap_cons, List.length_append, List.length_cons, List.length_cons, Nat.succ_mul]; omega
  cases ls with
  | nil => simp [labsL]
  | cons a r =>
    have h1 := one a List.mem_cons_self
    have h2 := hf r (fun z hz => one z (List.mem_cons_of_mem _ hz))
    rw [List.map_cons]
    unfold labsL
    rw [List.length_append, List.length_cons, Nat.succ_mul]; omega
theorem okLn.size {q : Nat} {x : SLin} (h : okLn q x) (hv : 0 ≤ x.f2 ∧ x.f2 < 18446744073709551616) (n : Nat) (hn : x.f1.length ≤ n) : (lineP (lnM x)).length ≤ 40 + n * (2 * q + 7) := by
  have h1 := labs_size x.f1 q h.2.2.2
  have h2 := dec_len20 x.f2.toNat (by omega)
  have h3 := h.2.1
  have h4 : x.f1.length * (2 * q + 7) ≤ n * (2 * q + 7) := Nat.mul_le_mul_right _ hn
  have e : (lineP (lnM x)).length = x.f0.size + 1 + (labsL (x.f1.map lbM)).length + 2 + (Lib.decDigits x.f2.toNat).length + 1 := by
    show (x.f0.data.toList ++ 123 :: (labsL (x.f1.map lbM) ++ 125 :: 32 :: (Lib.decDigits x.f2.toNat ++ [10]))).length = _
    have : x.f0.data.toList.length = x.f0.size := rfl
    simp only [List.length_append, List.length_cons, List.length_nil, this]; omega
  rw [e]; omega
theorem lk_ok : ∀ i, i < 22 → keyL ((⟨#[108]⟩ ++ itoaB i : ByteArray).data.toList) = true ∧ (⟨#[108]⟩ ++ itoaB i : ByteArray).size ≤ 3 := by decide +kernel
theorem it_ok : ∀ i, i < 64 → (itoaB i).size ≤ 2 := by decide +kernel
theorem rdOf_mem (ls : List ByteArray) (i : Nat) (h : i < ls.length) : rdOf ByteArray.empty ls (i : Int) ∈ ls := by
  unfold rdOf
  rw [show ((i : Int)).toNat = i from by omega, List.getD_eq_getElem?_getD, List.getElem?_eq_getElem h]
  exact List.getElem_mem h
theorem labsOf_ok (ls : List ByteArray) (rs : Bool) (hl : ls.length ≤ 20) (hs : ∀ s ∈ ls, s.size ≤ 300) : ∀ y ∈ labsOf ls rs, keyL y.f0.data.toList = true ∧ y.f0.size + y.f1.size ≤ 400 := by
  intro y hy
  rcases List.mem_append.1 hy with h | h
  · obtain ⟨i, hi, rfl⟩ := List.mem_map.1 h
    have hi := List.mem_range.1 hi
    have h1 := lk_ok i (by omega)
    have h2 := hs _ (rdOf_mem ls i hi)
    exact ⟨h1.1, by have := h1.2; show (⟨#[108]⟩ ++ itoaB i : ByteArray).size + (rdOf ByteArray.empty ls (i : Int)).size ≤ 400; omega⟩
  · cases rs
    · simp at h
    · simp only [if_true, List.mem_singleton] at h
      subst h
      exact ⟨rfl, Nat.le_of_ble_eq_true rfl⟩
theorem rowS_ok (r : SRow) (hl : r.f0.length ≤ 20) (hb : r.f5.length ≤ 40) (hs : ∀ s ∈ r.f0, s.size ≤ 300) : ∀ x ∈ rowS r, okLn 400 x := by
  intro x hx
  have hlo := labsOf_ok r.f0 r.f1 hl hs
  have hll := labsOf_len r.f0 r.f1
  rcases List.mem_append.1 hx with h | h
  · simp only [List.mem_cons, List.not_mem_nil, or_false] at h
    rcases h with rfl | rfl | rfl
    all_goals exact ⟨⟨rfl, fun y hy => (hlo y hy).1⟩, Nat.le_of_ble_eq_true rfl, by show (labsOf r.f0 r.f1).length ≤ _; omega, fun y hy => (hlo y hy).2⟩
  · obtain ⟨i, hi, rfl⟩ := List.mem_map.1 h
    have hi := List.mem_range.1 hi
    have h2 := it_ok i (by omega)
    refine ⟨⟨rfl, fun y hy => ?_⟩, Nat.le_of_ble_eq_true rfl, by show (labsOf r.f0 r.f1 ++ [_]).length ≤ _; rw [List.length_append]; simp only [List.length_cons, List.length_nil]; omega, fun y hy => ?_⟩
    · rcases List.mem_append.1 hy with h | h
      · exact (hlo y h).1
      · rw [List.mem_singleton] at h; subst h; exact rfl
    · rcases List.mem_append.1 hy with h | h
      · exact (hlo y h).2
      · rw [List.mem_singleton] at h; subst h; show 2 + (itoaB i).size ≤ _; omega
theorem edgeL_ok (e : SEdg) (h0 : e.f0.size ≤ 1048576) (h1 : e.f1.size ≤ 1048576) : ∀ x ∈ edgeL e, okLn 1048580 x ∧ x.f1.length ≤ 2 := by
  intro x hx
  have hft : ∀ y ∈ ftL e, keyL y.f0.data.toList = true ∧ y.f0.size + y.f1.size ≤ 1048580 := by
    intro y hy
    simp only [ftL, List.mem_cons, List.not_mem_nil, or_false] at hy
    rcases hy with rfl | rfl
    · exact ⟨rfl, by show 4 + e.f0.size ≤ _; omega⟩
    · exact ⟨rfl, by show 2 + e.f1.size ≤ _; omega⟩
  simp only [edgeL, List.mem_cons, List.not_mem_nil, or_false] at hx
  rcases hx with rfl | rfl | rfl
  all_goals exact ⟨⟨⟨rfl, fun y hy => (hft y hy).1⟩, Nat.le_of_ble_eq_true rfl, by show 2 ≤ 22; omega, fun y hy => (hft y hy).2⟩, by show 2 ≤ 2; omega⟩
theorem fateL_ok (i : Nat) (h : i < 64) (n : Int) : okLn 400 (fateL i n) := by
  have h2 := it_ok i h
  refine ⟨⟨rfl, fun y hy => ?_⟩, Nat.le_of_ble_eq_true rfl, by show 1 ≤ 22; omega, fun y hy => ?_⟩
  · simp only [fateL, List.mem_singleton] at hy; subst hy; exact rfl
  · simp only [fateL, List.mem_singleton] at hy; subst hy; show 4 + (itoaB i).size ≤ _; omega
theorem winL_ok (n : Int) : okLn 400 (winL n) := ⟨⟨rfl, fun y hy => by simp [winL] at hy⟩, Nat.le_of_ble_eq_true rfl, by show 0 ≤ 22; omega, fun y hy => by simp [winL] at hy⟩
end Go.Proofs.YtdbmcikoiilanaaDoor.Xp
set_option linter.unusedVariables false
set_option linter.unusedSimpArgs false
namespace Go.Proofs.YtdbmcikoiilanaaDoor.Xp
open Go.RowKit Go.Proofs.YtdbmcikoiilanaaDoor.B0 Go.Proofs.YtdbmcikoiilanaaDoorW.PrintWords Go.Proofs.YtdbmcikoiilanaaDoor.Bld Go.Proofs.YtdbmcikoiilanaaDoor.Pp Go.Proofs.YtdbmcikoiilanaaDoor.Kn Go.Proofs.YtdbmcikoiilanaaDoor.Ko

def xO (o : ROut) : List SLin := linesL o.f0 (o.f1.map cvR) (o.f2.map cvE) [o.f3.f0, o.f4.f0, o.f5.f0]
def bsum (o : ROut) (k : Nat) : Nat := ((o.f1.take k).map fun r => r.f5.length).sum
theorem bsum_succ (o : ROut) (k : Nat) (h : k < o.f1.length) : bsum o (k + 1) = bsum o k + (o.f1[k]).f5.length := by
  unfold bsum
  rw [List.take_succ_eq_append_getElem h, List.map_append, List.sum_append]; simp
theorem rdS_row (o : ROut) (k : Nat) (h : k < o.f1.length) : rd_T70 (o.f1.map cvR) (k : Int) = cvR o.f1[k] := by
  unfold rd_T70
  rw [show ((k : Int)).toNat = k from by omega, List.getD_eq_getElem?_getD, List.getElem?_eq_getElem (by rw [List.length_map]; exact h), List.getElem_map]; rfl
theorem rdS_edg (o : ROut) (k : Nat) (h : k < o.f2.length) : rd_T94 (o.f2.map cvE) (k : Int) = cvE o.f2[k] := by
  unfold rd_T94
  rw [show ((k : Int)).toNat = k from by omega, List.getD_eq_getElem?_getD, List.getElem?_eq_getElem (by rw [List.length_map]; exact h), List.getElem_map]; rfl
theorem rows_len (o : ROut) : ∀ k, k ≤ o.f1.length → (rowsL (o.f1.map cvR) k).length = 3 * k + bsum o k
  | 0, _ => rfl
  | k + 1, h => by
    have ih := rows_len o k (by omega)
    rw [rowsL_succ, List.length_append, ih, rdS_row o k (by omega), bsum_succ o k (by omega)]
    unfold rowS
    rw [rowL_len]
    show _ + ((o.f1[k]).f5.map cvC).length + 3 = _
    rw [List.length_map]; omega
theorem xO_len (o : ROut) : (xO o).length = 4 + 3 * o.f1.length + 3 * o.f2.length + bsum o o.f1.length := by
  unfold xO linesL
  rw [List.length_cons, List.length_append, List.length_append, List.length_map, rows_len o _ (Nat.le_refl _), edgesL_len, fatesL_len, List.length_map]; omega
/-- what the law lets through, and what its argument is. -/
structure NOk (o : ROut) : Prop where
  ok : okO o
  lab : ∀ r ∈ o.f1, ∀ s ∈ r.f0, s.size ≤ 300
  wb : Ob.WB51 o
theorem mem_x (o : ROut) (x : SLin) (hx : x ∈ xO o) : x = winL o.f0 ∨ (∃ r ∈ o.f1, x ∈ rowS (cvR r)) ∨ (∃ e ∈ o.f2, x ∈ edgeL (cvE e)) ∨ ∃ i, i < 3 ∧ x = fateL i ([o.f3.f0, o.f4.f0, o.f5.f0].getD i 0) := by
  rcases List.mem_cons.1 hx with rfl | hx
  · exact .inl rfl
  rcases List.mem_append.1 hx with hx | hx
  · rcases List.mem_append.1 hx with hx | hx
    · obtain ⟨i, hi, hx⟩ := List.mem_flatMap.1 hx
      have hi := List.mem_range.1 hi
      rw [List.length_map] at hi
      rw [rdS_row o i hi] at hx
      exact .inr (.inl ⟨_, List.getElem_mem hi, hx⟩)
    · obtain ⟨i, hi, hx⟩ := List.mem_flatMap.1 hx
      have hi := List.mem_range.1 hi
      rw [List.length_map] at hi
      rw [rdS_edg o i hi] at hx
      exact .inr (.inr (.inl ⟨_, List.getElem_mem hi, hx⟩))
  · obtain ⟨i, hi, rfl⟩ := List.mem_map.1 hx
    exact .inr (.inr (.inr ⟨i, List.mem_range.1 hi, rfl⟩))
theorem row_ok {o : ROut} (h : NOk o) (r : RRow) (hr : r ∈ o.f1) : ∀ x ∈ rowS (cvR r), okLn 400 x := by
  have h1 := h.ok.2.2 r hr
  exact rowS_ok (cvR r) h1.1 (by show (r.f5.map cvC).length ≤ 40; rw [List.length_map]; exact h1.2.1) (h.lab r hr)
theorem edg_ok {o : ROut} (h : NOk o) (e : REdg) (he : e ∈ o.f2) : ∀ x ∈ edgeL (cvE e), okLn 1048580 x ∧ x.f1.length ≤ 2 := by
  have h1 := h.wb.2.2.1.2 e he
  exact edgeL_ok (cvE e) h1.1 h1.2.1
theorem xO_right {o : ROut} (h : NOk o) : ∀ x ∈ xO o, rightL (lnM x) = true := by
  intro x hx
  rcases mem_x o x hx with rfl | ⟨r, hr, hx⟩ | ⟨e, he, hx⟩ | ⟨i, hi, rfl⟩
  · exact (winL_ok _).right
  · exact (row_ok h r hr x hx).right
  · exact (edg_ok h e he x hx).1.right
  · exact (fateL_ok i (by omega) _).right
theorem u64_of {n : Int} (h : (Lit.int .u64 n).wf = true) : 0 ≤ n ∧ n < 18446744073709551616 := by have := wf_u64 h; omega
theorem xO_v {o : ROut} (h : NOk o) : okV (xO o) := by
  intro x hx
  rcases mem_x o x hx with rfl | ⟨r, hr, hx⟩ | ⟨e, he, hx⟩ | ⟨i, hi, rfl⟩
  · exact u64_of h.wb.1
  · have h1 := h.wb.2.1.2 r hr
    rcases List.mem_append.1 hx with hx | hx
    · simp only [List.mem_cons, List.not_mem_nil, or_false] at hx
      rcases hx with rfl | rfl | rfl
      · exact u64_of h1.2.2.1.1
      · exact u64_of h1.2.2.2.1.1
      · exact u64_of h1.2.2.2.2.1.1
    · obtain ⟨k, hk, rfl⟩ := List.mem_map.1 hx
      have hk := List.mem_range.1 hk
      have hk2 : k < r.f5.length := by have : (cvR r).f5.length = r.f5.length := List.length_map _; omega
      show 0 ≤ (rd_T61 (r.f5.map cvC) k).f0 ∧ (rd_T61 (r.f5.map cvC) k).f0 < _
      have e : rd_T61 (r.f5.map cvC) (k : Int) = cvC r.f5[k] := by
        unfold rd_T61
        rw [show ((k : Int)).toNat = k from by omega, List.getD_eq_getElem?_getD, List.getElem?_eq_getElem (by rw [List.length_map]; exact hk2), List.getElem_map]; rfl
      have h2 := h1.2.2.2.2.2.1.2 _ (List.getElem_mem hk2)
      have h3 := u64_of h2.1
      rw [e]; exact h3
  · have h1 := h.wb.2.2.1.2 e he
    simp only [edgeL, List.mem_cons, List.not_mem_nil, or_false] at hx
    rcases hx with rfl | rfl | rfl
    · exact u64_of h1.2.2.1.1
    · exact u64_of h1.2.2.2.1.1
    · exact u64_of h1.2.2.2.2.1
  · rcases (by omega : i = 0 ∨ i = 1 ∨ i = 2) with rfl | rfl | rfl
    · exact u64_of h.wb.2.2.2.1.1
    · exact u64_of h.wb.2.2.2.2.1.1
    · exact u64_of h.wb.2.2.2.2.2.1
theorem bsum_le {o : ROut} (h : NOk o) : ∀ k, k ≤ o.f1.length → bsum o k ≤ 40 * k
  | 0, _ => Nat.le_refl _
  | k + 1, hk => by
    have ih := bsum_le h k (by omega)
    have h1 := (h.ok.2.2 _ (List.getElem_mem (show k < o.f1.length by omega))).2.1
    rw [bsum_succ o k (by omega)]; omega
theorem flat_q (l : List SLin) (q : Nat) (h : ∀ x ∈ l, (lineP (lnM x)).length ≤ q) : ((l.map lnM).flatMap lineP).length ≤ l.length * q := by
  have := flat_bound (l.map lnM) q (fun x hx => by obtain ⟨y, hy, rfl⟩ := List.mem_map.1 hx; exact h y hy)
  rwa [List.length_map] at this
theorem xO_size {o : ROut} (h : NOk o) : (((xO o).map lnM).flatMap lineP).length ≤ 170000000 := by
  have hv := xO_v h
  have hw : winL o.f0 ∈ xO o := List.mem_cons_self
  have h1 : (lineP (lnM (winL o.f0))).length ≤ 17800 := by have := (winL_ok o.f0).size (hv _ hw) 22 (by show 0 ≤ 22; omega); omega
  have hm : ∀ x, x ∈ rowsL (o.f1.map cvR) (o.f1.map cvR).length → x ∈ xO o := fun x hx => List.mem_cons_of_mem _ (List.mem_append_left _ (List.mem_append_left _ hx))
  have hme : ∀ x, x ∈ edgesL (o.f2.map cvE) (o.f2.map cvE).length → x ∈ xO o := fun x hx => List.mem_cons_of_mem _ (List.mem_append_left _ (List.mem_append_right _ hx))
  have hmf : ∀ x, x ∈ fatesL [o.f3.f0, o.f4.f0, o.f5.f0] 3 → x ∈ xO o := fun x hx => List.mem_cons_of_mem _ (List.mem_append_right _ hx)
  have h2 := flat_q (rowsL (o.f1.map cvR) (o.f1.map cvR).length) 17800 (fun x hx => by
    obtain ⟨i, hi, hx2⟩ := List.mem_flatMap.1 hx
    have hi := List.mem_range.1 hi
    rw [List.length_map] at hi
    rw [rdS_row o i hi] at hx2
    have ho := row_ok h _ (List.getElem_mem hi) x hx2
    have := ho.size (hv x (hm x hx)) 22 ho.2.2.1
    omega)
  have h3 := flat_q (edgesL (o.f2.map cvE) (o.f2.map cvE).length) 4194400 (fun x hx => by
    obtain ⟨i, hi, hx2⟩ := List.mem_flatMap.1 hx
    have hi := List.mem_range.1 hi
    rw [List.length_map] at hi
    rw [rdS_edg o i hi] at hx2
    have ho := edg_ok h _ (List.getElem_mem hi) x hx2
    have := ho.1.size (hv x (hme x hx)) 2 ho.2
    omega)
  have h4 := flat_q (fatesL [o.f3.f0, o.f4.f0, o.f5.f0] 3) 17800 (fun x hx => by
    obtain ⟨i, hi, rfl⟩ := List.mem_map.1 hx
    have hi := List.mem_range.1 hi
    have ho := fateL_ok i (by omega) ([o.f3.f0, o.f4.f0, o.f5.f0].getD i 0)
    have := ho.size (hv _ (hmf _ hx)) 22 ho.2.2.1
    omega)
  have e2 := rows_len o _ (Nat.le_refl _)
  have e2b := bsum_le h _ (Nat.le_refl _)
  have e3 := edgesL_len (o.f2.map cvE) (o.f2.map cvE).length
  have h5 := h.ok.1; have h6 := h.ok.2.1
  rw [List.length_map] at h2 h3 e3
  rw [fatesL_len] at h4
  have h7 : (rowsL (o.f1.map cvR) o.f1.length).length * 17800 ≤ 520 * 17800 := Nat.mul_le_mul_right _ (by omega)
  have h8 : (edgesL (o.f2.map cvE) o.f2.length).length * 4194400 ≤ 36 * 4194400 := Nat.mul_le_mul_right _ (by omega)
  unfold xO linesL
  rw [List.map_cons, List.flatMap_cons, List.length_append, List.map_append, List.flatMap_append, List.length_append, List.map_append, List.flatMap_append, List.length_append, List.length_map, List.length_map]
  omega
end Go.Proofs.YtdbmcikoiilanaaDoor.Xp
set_option linter.unusedVariables false
set_option linter.unusedSimpArgs false
namespace Go.Proofs.YtdbmcikoiilanaaDoor.Xp
open Go.RowKit Go.Proofs.YtdbmcikoiilanaaDoor.B0 Go.Proofs.YtdbmcikoiilanaaDoorW.PrintWords Go.Proofs.YtdbmcikoiilanaaDoor.Bld Go.Proofs.YtdbmcikoiilanaaDoor.Pp Go.Proofs.YtdbmcikoiilanaaDoor.Kn Go.Proofs.YtdbmcikoiilanaaDoor.Ko
open Go.Proofs.YtdbmcikoiilanaaDoorW.PrintLast

def xC (win : Int) (v e : Value) (g0 : Int) (b0 : Bool) (g1 : Int) (b1 : Bool) (g2 : Int) (b2 : Bool) : Obj := .cells #[.int .u64 win, v, e, .int .u64 g0, .bool b0, .int .u64 g1, .bool b1, .int .u64 g2, .bool b2] 64 (0, 0)
def rC (s0 : Value) (r : RRow) (v5 v6 : Value) : Obj := .cells #[s0, .bool r.f1, .int .u64 r.f2.f0, .bool r.f2.f1, .int .u64 r.f3.f0, .bool r.f3.f1, .int .u64 r.f4.f0, .bool r.f4.f1, v5, v6] 70 (0, 0)
def aC (s0 : Value) (r : RRow) (v5 v6 : Value) : Obj := .cells #[s0, .bool r.f1, .int .u64 r.f2.f0, .bool r.f2.f1, .int .u64 r.f3.f0, .bool r.f3.f1, .int .u64 r.f4.f0, .bool r.f4.f1, v5, v6] 57 (0, 0)
/-- what Of answers. -/
def OPost (o : ROut) (w : World) (e : Ending) (w' : World) : Prop := ∃ A cA E cE, e = .returned (.agg #[.int .u64 o.f0, .slice A o.f1.length cA, .slice E o.f2.length cE, .int .u64 o.f3.f0, .bool o.f3.f1, .int .u64 o.f4.f0, .bool o.f4.f1, .int .u64 o.f5.f0, .bool o.f5.f1]) ∧
  Kd.C k70 w' A o.f1.length (o.f1.map cvR) ∧ Kd.C k94 w' E o.f2.length (o.f2.map cvE) ∧ Below w.heap.size w w'

/-- what stands while the fates are set. -/
def FB (o : ROut) (w : World) (R R1 RX : Nat) (box z : Obj) (A7 A8 : Option Addr) (rows : List (List Value)) (x : Obj) (W : World) : Prop := W.heap[R]? = some box ∧ W.heap[R1]? = some z ∧ W.heap[RX]? = some x ∧ TAt (Kd.raw 10) 70 W A7 rows ∧ RowsAt w W (o.f1.map cvR) rows ∧ TAt k94 94 W A8 (o.f2.map cvE) ∧ Below w.heap.size w W
theorem ke_flat (w w' : World) (x : SEdg) (cs : List Value) (h : k94.K w x cs) : k94.K w' x cs := h
theorem FB.set {o : ROut} {w : World} {R R1 RX : Nat} {box z : Obj} {A7 A8 : Option Addr} {rows : List (List Value)} {cs : Array Value} {W : World} (h : FB o w R R1 RX box z A7 A8 rows (.cells cs 64 (0, 0)) W) (h1 : R ≠ RX) (h2 : R1 ≠ RX) (hb : w.heap.size ≤ RX) (off : Nat) (u : Value) :
    FB o w R R1 RX box z A7 A8 rows (.cells (cs.setIfInBounds off u) 64 (0, 0)) (W.setCell ⟨RX, off, none⟩ u) :=
  ⟨(setO W ⟨RX, off, none⟩ u h1).trans h.1, (setO W ⟨RX, off, none⟩ u h2).trans h.2.1, setB h.2.2.1 off u, TAt.keep (w := W) (w' := W.setCell ⟨RX, off, none⟩ u) (fun _ _ h => h) h.2.2.2.1 (KT.set h.2.2.1 (by decide)), h.2.2.2.2.1.keep (KT.set h.2.2.1 (by decide)) (KT.set h.2.2.1 (by decide)), TAt.keep (ke_flat _ _) h.2.2.2.2.2.1 (KT.set h.2.2.1 (by decide)), h.2.2.2.2.2.2.setCell (p := ⟨RX, off, none⟩) hb u⟩
theorem FB.set1 {o : ROut} {w : World} {R R1 RX : Nat} {box x : Obj} {A7 A8 : Option Addr} {rows : List (List Value)} {cs : Array Value} {W : World} (h : FB o w R R1 RX box (.cells cs 64 (0, 0)) A7 A8 rows x W) (h1 : R ≠ R1) (h2 : RX ≠ R1) (hb : w.heap.size ≤ R1) (off : Nat) (u : Value) :
    FB o w R R1 RX box (.cells (cs.setIfInBounds off u) 64 (0, 0)) A7 A8 rows x (W.setCell ⟨R1, off, none⟩ u) :=
  ⟨(setO W ⟨R1, off, none⟩ u h1).trans h.1, setB h.2.1 off u, (setO W ⟨R1, off, none⟩ u h2).trans h.2.2.1, TAt.keep (w := W) (w' := W.setCell ⟨R1, off, none⟩ u) (fun _ _ h => h) h.2.2.2.1 (KT.set h.2.1 (by decide)), h.2.2.2.2.1.keep (KT.set h.2.1 (by decide)) (KT.set h.2.1 (by decide)), TAt.keep (ke_flat _ _) h.2.2.2.2.2.1 (KT.set h.2.1 (by decide)), h.2.2.2.2.2.2.setCell (p := ⟨R1, off, none⟩) hb u⟩
/-- x while q fates are set. -/
def fX (o : ROut) (v e : Value) : Nat → Obj
  | 0 => xC o.f0 v e 0 false 0 false 0 false
  | 1 => xC o.f0 v e o.f3.f0 o.f3.f1 0 false 0 false
  | 2 => xC o.f0 v e o.f3.f0 o.f3.f1 o.f4.f0 o.f4.f1 0 false
  | _ => xC o.f0 v e o.f3.f0 o.f3.f1 o.f4.f0 o.f4.f1 o.f5.f0 o.f5.f1

def T16_10 : Bool × List (List Nat × List Nat) := (true, [([], []), ([0], [0]), ([], []), ([2], [2]), ([], []), ([3, 4], [3, 4]), ([5], [5]), ([6], [6]), ([1, 7], [1, 7]), ([0, 1, 2, 3, 4, 5, 6, 7, 8], []), ([9, 8, 8, 0, 1, 2, 3, 4, 5, 6, 7, 8], [8, 9])])
def B16_10 : List Nat := [0, 1, 0, 4, 0, 28, 60, 124, 255, 511, 1023]
theorem tab16_10 : rtab .any (opsOf Tryd.f16 10) = T16_10 := by kernel_rfl
theorem bits16_10 : waitsOk T16_10.2 B16_10 = true := by kernel_rfl
def T16_14 : Bool × List (List Nat × List Nat) := (true, [([], []), ([0], [0]), ([], []), ([2], [2]), ([], []), ([3, 4], [3, 4]), ([5], [5]), ([6], [6]), ([1, 7], [1, 7]), ([0, 1, 2, 3, 4, 5, 6, 7, 8], []), ([9, 8, 8, 0, 1, 2, 3, 4, 5, 6, 7, 8], [8, 9])])
def B16_14 : List Nat := [0, 1, 0, 4, 0, 28, 60, 124, 255, 511, 1023]
theorem tab16_14 : rtab .any (opsOf Tryd.f16 14) = T16_14 := by kernel_rfl
theorem bits16_14 : waitsOk T16_14.2 B16_14 = true := by kernel_rfl
set_option maxHeartbeats 8000000 in
set_option maxRecDepth 100000 in
theorem OfO_c (w : World) (o : ROut) (A : Option Addr) (cA : Nat) (E : Option Addr) (cE : Nat) (hA : Kd.C k57 w A o.f1.length o.f1) (hE : Kd.C k91 w E o.f2.length o.f2) (hok : okO o) :
    Calls Tryd.prog 16 #[.agg #[.int .u64 o.f0, .slice A o.f1.length cA, .slice E o.f2.length cE, .int .u64 o.f3.f0, .bool o.f3.f1, .int .u64 o.f4.f0, .bool o.f4.f1, .int .u64 o.f5.f0, .bool o.f5.f1]] w (OPost o w) := by
  have HOK := Lib.hid hok; clear hok
  obtain ⟨P, hP⟩ : ∃ P, Hid (OPost o w = P) := ⟨_, Lib.hid rfl⟩
  rw [hP.out]
  obtain ⟨n, hn⟩ : ∃ n, Hid (o.f1.length = n ∧ n ≤ 12) := ⟨_, rfl, HOK.out.1⟩
  obtain ⟨m, hm⟩ : ∃ m, Hid (o.f2.length = m ∧ m ≤ 12) := ⟨_, rfl, HOK.out.2.1⟩
  rw [hn.out.1] at hA ⊢
  rw [hm.out.1] at hE ⊢
  have HA := Lib.hid hA; have HE := Lib.hid hE; clear hA hE
  obtain ⟨R, hR⟩ : ∃ R, Hid (w.heap.size = R) := ⟨_, Lib.hid rfl⟩
  obtain ⟨w1, hw1⟩ : ∃ w1, Hid (w.alloc (.cells #[.int .u64 o.f0, .slice A n cA, .slice E m cE, .int .u64 o.f3.f0, .bool o.f3.f1, .int .u64 o.f4.f0, .bool o.f4.f1, .int .u64 o.f5.f0, .bool o.f5.f1] 51) = w1) := ⟨_, Lib.hid rfl⟩
  go_enter Tryd.func16, Tryd.ntmps16
  go_upto_region 1 with fail
  obtain ⟨w2, hw2⟩ : ∃ w2, Hid (w1.alloc (.cells #[.int .u64 0, .slice none 0 0, .slice none 0 0, .int .u64 0, .bool false, .int .u64 0, .bool false, .int .u64 0, .bool false] 64) = w2) := ⟨_, Lib.hid rfl⟩
  obtain ⟨w3, hw3⟩ : ∃ w3, Hid (w2.alloc (.cells #[.int .u64 o.f0, .slice none 0 0, .slice none 0 0, .int .u64 0, .bool false, .int .u64 0, .bool false, .int .u64 0, .bool false] 64) = w3) := ⟨_, Lib.hid rfl⟩
  have hz1 : w1.heap.size = R + 1 := by rw [← hw1.out, size_alloc, hR.out]
  have hz2 : w2.heap.size = R + 1 + 1 := by rw [← hw2.out, size_alloc, hz1]
  have hz3 : w3.heap.size = R + 1 + 1 + 1 := by rw [← hw3.out, size_alloc, hz2]
  obtain ⟨R1, hR1⟩ : ∃ R1, Hid (R + 1 = R1 ∧ R < R1) := ⟨_, rfl, by omega⟩
  obtain ⟨RX, hRX⟩ : ∃ RX, Hid (R1 + 1 = RX ∧ R1 < RX) := ⟨_, rfl, by omega⟩
  have HB3 : Hid (Below w.heap.size w w3) := by
    have h1 : Below w.heap.size w w1 := by rw [← hw1.out]; exact (Below.refl _ _).alloc (Nat.le_refl _) _
    have h2 : Below w.heap.size w w2 := by rw [← hw2.out]; exact h1.alloc h1.size _
    rw [← hw3.out]; exact h2.alloc h2.size _
  have HX3 : Hid (w3.heap[R]? = some (.cells #[.int .u64 o.f0, .slice A n cA, .slice E m cE, .int .u64 o.f3.f0, .bool o.f3.f1, .int .u64 o.f4.f0, .bool o.f4.f1, .int .u64 o.f5.f0, .bool o.f5.f1] 51 (0, 0)) ∧ w3.heap[R1]? = some (xC 0 (.slice none 0 0) (.slice none 0 0) 0 false 0 false 0 false) ∧ w3.heap[RX]? = some (xC o.f0 (.slice none 0 0) (.slice none 0 0) 0 false 0 false 0 false)) := by
    have e0 : w1.heap[R]? = some (.cells #[.int .u64 o.f0, .slice A n cA, .slice E m cE, .int .u64 o.f3.f0, .bool o.f3.f1, .int .u64 o.f4.f0, .bool o.f4.f1, .int .u64 o.f5.f0, .bool o.f5.f1] 51 (0, 0)) := by rw [← hw1.out, ← hR.out]; exact allocN _ _
    have e1 : w2.heap[R1]? = some (xC 0 (.slice none 0 0) (.slice none 0 0) 0 false 0 false 0 false) := by rw [← hw2.out, ← hR1.out.1, ← hz1]; exact allocN _ _
    refine ⟨?_, ?_, ?_⟩
    · rw [← hw3.out]; refine (allocO _ _ (by rw [hz2]; omega)).trans ?_
      rw [← hw2.out]; exact (allocO _ _ (by rw [hz1]; omega)).trans e0
    · rw [← hw3.out]; exact (allocO _ _ (by rw [hz2, ← hR1.out.1]; omega)).trans e1
    · rw [← hw3.out, ← hRX.out.1, ← hR1.out.1, ← hz2]; exact allocN _ _
  rw [hR.out, hw1.out, hw2.out, hR1.out.1]
  have c0 : w2.cell? ⟨R, 0, none⟩ = some (.int .u64 o.f0) := by
    have e0 : w2.heap[R]? = w3.heap[R]? := by rw [← hw3.out]; exact (allocO _ _ (by rw [hz2]; omega)).symm
    rw [cellB (e0.trans HX3.out.1)]; rfl
  go_upto_region 2 with fail
  rw [hw3.out, hR1.out.1, hRX.out.1]
  clear c0 hz1 hz2 hz3
  have HRr : Hid (w.heap.size ≤ R ∧ R < R1 ∧ R1 < RX) := ⟨by rw [hR.out]; exact Nat.le_refl _, hR1.out.2, hRX.out.2⟩
  go_wp2_with fail
  go_loopw [4] (fun iv wr => ∃ i : Nat, iv = .int .i64 i ∧ i ≤ n ∧ Hid (∃ (v : Value) (rows : List (List Value)), wr.heap[R]? = some (.cells #[.int .u64 o.f0, .slice A n cA, .slice E m cE, .int .u64 o.f3.f0, .bool o.f3.f1, .int .u64 o.f4.f0, .bool o.f4.f1, .int .u64 o.f5.f0, .bool o.f5.f1] 51 (0, 0)) ∧ wr.heap[R1]? = some (xC 0 (.slice none 0 0) (.slice none 0 0) 0 false 0 false 0 false) ∧ wr.heap[RX]? = some (xC o.f0 v (.slice none 0 0) 0 false 0 false 0 false) ∧
    (Kd.raw 10).R 70 wr w.heap.size (fun _ => True) v rows ∧ RowsAt w wr ((o.f1.take i).map cvR) rows ∧ Below w.heap.size w wr)) (fun iv _ => n - (intOf iv).toNat)
  case atStart => exact ⟨0, rfl, Nat.zero_le _, _, _, HX3.out.1, HX3.out.2.1, HX3.out.2.2, Kd.R_nil _ _ _ _ _, ⟨rfl, fun i x hx => by simp at hx⟩, HB3.out⟩
  case round =>
    obtain ⟨i, rfl, hi, HO⟩ := hrel
    obtain ⟨v, rows, hO⟩ := HO.out
    have HW := Lib.hid hO; clear hO HO
    have c1 : wr.cell? ⟨R, 1, none⟩ = some (.slice A n cA) := by rw [cellB HW.out.1]; rfl
    have hn12 := hn.out.2
    by_cases hlt : i < n
    · have hki : (i : Int) < (n : Int) := by omega
      obtain ⟨ad, rfl, A0, c0, A1, c11, A2, c22, d0, d1, d2, d3, d4, d5, d6, d7, d8, d9, ⟨hc0, hC0⟩, ⟨hc5, hC5⟩, ⟨hc6, hC6⟩⟩ := at_T57 HA.out i (by omega) (by omega)
      have hilt : i < o.f1.length := by rw [hn.out.1]; exact hlt
      obtain ⟨r, hr⟩ : ∃ r, Hid (rd_T57 o.f1 i = r ∧ o.f1[i]'hilt = r ∧ r.f0.length ≤ 20 ∧ r.f5.length ≤ 40 ∧ r.f6.length ≤ 20) := ⟨_, rfl, (rdRR_at _ _ hilt).symm, by rw [rdRR_at _ _ hilt]; exact HOK.out.2.2 _ (List.getElem_mem hilt)⟩
      have HTK : Hid ((o.f1.take (i + 1)).map cvR = (o.f1.take i).map cvR ++ [cvR r]) := by
        show _ = _
        rw [List.take_succ_eq_append_getElem hilt, hr.out.2.1, List.map_append]; rfl
      rw [hr.out.1] at d0 d1 d2 d3 d4 d5 d6 d7 d8 d9 hc0 hC0 hc5 hC5 hc6 hC6
      rw [show ((i : Int)).toNat = i from by omega] at d0 d1 d2 d3 d4 d5 d6 d7 d8 d9
      obtain ⟨l0, hl0⟩ : ∃ l0, Hid (r.f0.length = l0) := ⟨_, Lib.hid rfl⟩
      obtain ⟨l5, hl5⟩ : ∃ l5, Hid (r.f5.length = l5 ∧ l5 ≤ 40) := ⟨_, rfl, hr.out.2.2.2.1⟩
      obtain ⟨l6, hl6⟩ : ∃ l6, Hid (r.f6.length = l6 ∧ l6 ≤ 20) := ⟨_, rfl, hr.out.2.2.2.2⟩
      rw [hl0.out] at d0
      rw [hl5.out.1] at d8 hC5
      rw [hl6.out.1] at d9 hC6
      have HC0 : Hid (r.f0.length ≤ c0 ∧ Kd.C Kd.string w A0 r.f0.length r.f0) := ⟨hc0, hC0⟩
      have HC5 := Lib.hid hC5; have HC6 := Lib.hid hC6
      have hbw := HW.out.2.2.2.2.2
      have d0' := pw_cell_below hbw d0
      have d1' := pw_cell_below hbw d1
      have d2' := pw_cell_below hbw d2
      have d3' := pw_cell_below hbw d3
      have d4' := pw_cell_below hbw d4
      have d5' := pw_cell_below hbw d5
      have d6' := pw_cell_below hbw d6
      have d7' := pw_cell_below hbw d7
      have d8' := pw_cell_below hbw d8
      have d9' := pw_cell_below hbw d9
      obtain ⟨wa, hwa⟩ : ∃ wa, Hid (wr.alloc (.cells #[.slice A0 l0 c0, .bool r.f1, .int .u64 r.f2.f0, .bool r.f2.f1, .int .u64 r.f3.f0, .bool r.f3.f1, .int .u64 r.f4.f0, .bool r.f4.f1, .slice A1 l5 c11, .slice A2 l6 c22] 57) = wa) := ⟨_, Lib.hid rfl⟩
      obtain ⟨ba, hba⟩ : ∃ ba, Hid (wr.heap.size = ba) := ⟨_, Lib.hid rfl⟩
      have ha1 : wa.heap[ba]? = some (aC (.slice A0 l0 c0) r (.slice A1 l5 c11) (.slice A2 l6 c22)) := by rw [← hwa.out, ← hba.out]; exact allocN _ _
      obtain ⟨br, hbr⟩ : ∃ br, Hid (wa.heap.size = br) := ⟨_, Lib.hid rfl⟩
      obtain ⟨wb, hwb⟩ : ∃ wb, Hid (wa.alloc (.cells #[.slice A0 l0 c0, .bool r.f1, .int .u64 r.f2.f0, .bool r.f2.f1, .int .u64 r.f3.f0, .bool r.f3.f1, .int .u64 r.f4.f0, .bool r.f4.f1, .slice none 0 0, .slice none 0 0] 70) = wb) := ⟨_, Lib.hid rfl⟩
      have HBB : Hid (wb.heap[br]? = some (rC (.slice A0 l0 c0) r (.slice none 0 0) (.slice none 0 0)) ∧ wb.heap[ba]? = some (aC (.slice A0 l0 c0) r (.slice A1 l5 c11) (.slice A2 l6 c22)) ∧ Below wr.heap.size wr wb ∧ wr.heap.size ≤ br) := by
        have h1 : Below wr.heap.size wr wa := by rw [← hwa.out]; exact (Below.refl _ _).alloc (Nat.le_refl _) _
        exact ⟨by rw [← hwb.out, ← hbr.out]; exact allocN _ _, by rw [← hwb.out]; exact (allocO _ _ (lt_of_get ha1)).trans ha1, by rw [← hwb.out]; exact h1.alloc h1.size _, by rw [← hbr.out]; exact h1.size⟩
      clear d0 d1 d2 d3 d4 d5 d6 d7 d8 d9 hc0 hC0 hc5 hC5 hc6 hC6
      go_upto_region 6 with fail
      rw [hwa.out, hba.out]
      clear d0' d1' d2' d3' d4' d5' d6' d7' d8' d9' hbw
      have e0 : wa.cell? ⟨ba, 0, none⟩ = some (.slice A0 l0 c0) := by rw [cellB ha1]; rfl
      have e1 : wa.cell? ⟨ba, 1, none⟩ = some (.bool r.f1) := by rw [cellB ha1]; rfl
      have e2 : wa.cell? ⟨ba, 2, none⟩ = some (.int .u64 r.f2.f0) := by rw [cellB ha1]; rfl
      have e3 : wa.cell? ⟨ba, 3, none⟩ = some (.bool r.f2.f1) := by rw [cellB ha1]; rfl
      have e4 : wa.cell? ⟨ba, 4, none⟩ = some (.int .u64 r.f3.f0) := by rw [cellB ha1]; rfl
      have e5 : wa.cell? ⟨ba, 5, none⟩ = some (.bool r.f3.f1) := by rw [cellB ha1]; rfl
      have e6 : wa.cell? ⟨ba, 6, none⟩ = some (.int .u64 r.f4.f0) := by rw [cellB ha1]; rfl
      have e7 : wa.cell? ⟨ba, 7, none⟩ = some (.bool r.f4.f1) := by rw [cellB ha1]; rfl
      clear ha1
      go_upto_region 7 with fail
      rw [hwb.out, hbr.out]
      clear e0 e1 e2 e3 e4 e5 e6 e7 c1
      obtain ⟨wo, hwo⟩ : ∃ wo, wo = wr := ⟨_, rfl⟩
      subst hwo
      have hl5b := hl5.out.2
      have hl6b := hl6.out.2
      go_wp2_with fail
      go_loopw [7] (fun kv wx => ∃ k : Nat, kv = .int .i64 k ∧ k ≤ l5 ∧ Hid (∃ v5 : Value, wx.heap[br]? = some (rC (.slice A0 l0 c0) r v5 (.slice none 0 0)) ∧ wx.heap[ba]? = some (aC (.slice A0 l0 c0) r (.slice A1 l5 c11) (.slice A2 l6 c22)) ∧ Kd.R k61 61 wx wo.heap.size (fun _ => True) v5 ((r.f5.take k).map cvC) ∧ Below wo.heap.size wo wx)) (fun kv _ => l5 - (intOf kv).toNat)
      case atStart => exact ⟨0, rfl, Nat.zero_le _, _, HBB.out.1, HBB.out.2.1, Kd.R_nil _ _ _ _ _, HBB.out.2.2.1⟩
      case round =>
        obtain ⟨k, rfl, hk, HK⟩ := hrel
        obtain ⟨v5, hK⟩ := HK.out
        have HJ := Lib.hid hK; clear hK HK
        have e8 : wr.cell? ⟨ba, 8, none⟩ = some (.slice A1 l5 c11) := by rw [cellB HJ.out.2.1]; rfl
        by_cases hltk : k < l5
        · have hkk : (k : Int) < (l5 : Int) := by omega
          have hbw : Hid (Below w.heap.size w wr) := HW.out.2.2.2.2.2.trans (HJ.out.2.2.2.mono HW.out.2.2.2.2.2.size)
          obtain ⟨ad5, rfl, d0, d1⟩ := at_T48 HC5.out k (by omega) (by omega)
          have hklt : k < r.f5.length := by rw [hl5.out.1]; exact hltk
          obtain ⟨y, hy⟩ : ∃ y, Hid (rd_T48 r.f5 k = y ∧ (r.f5.take (k + 1)).map cvC = (r.f5.take k).map cvC ++ [cvC y]) := ⟨_, rfl, by
            rw [List.take_succ_eq_append_getElem hklt, List.map_append]
            unfold rd_T48
            rw [show ((k : Int)).toNat = k from by omega, List.getD_eq_getElem?_getD, List.getElem?_eq_getElem hklt]; rfl⟩
          rw [hy.out.1, show ((k : Int)).toNat = k from by omega] at d0 d1
          have HD : Hid (∀ W, Below wr.heap.size wr W → W.cell? (ad5.add (k * 2)) = some (.int .u64 y.f0) ∧ W.cell? ⟨(ad5.add (k * 2)).block, (ad5.add (k * 2)).off + 1, none⟩ = some (.bool y.f1)) := fun W hb => ⟨pw_cell_below (hbw.out.trans (hb.mono hbw.out.size)) d0, pw_cell_below (hbw.out.trans (hb.mono hbw.out.size)) d1⟩
          have HLT : Hid (((r.f5.take k).map cvC).length ≤ 40) := by show _ ≤ _; rw [List.length_map, List.length_take]; omega
          clear d0 d1
          go_upto_region 10 with fail
          clear e8
          refine start_ (n := 11) (S := (fun w' => Below wr.heap.size wr w')) (ds := [8, 9, 10]) #[false, false, false, false, false, false, false, false, false, false, false] (by kernel_rfl) (by rfl) (by rfl) (Below_drewN (Below.refl wr.heap.size wr) 1) (fun hHeld => ?_); refine with_tabW tab16_10 bits16_10 (fun HT_ HW_ => ?_)
          refine pure_ (i := 0) (N := some 45) (v := ?_) (a' := ?_) #[true, false, false, false, false, false, false, false, false, false, false] rfl rfl (any_of HT_.out (by kernel_rfl)) (fun _ _ _ h => h) (Or.inl ⟨by rfl, ?_⟩) ?_ ?_
          rotate_left
          · intro w'
            go_simp
            with_reducible rfl
          rotate_left
          · simp only [Act.put, List.setIfInBounds_toArray, List.set_cons_zero, List.set_cons_succ]
            rfl
          refine take_ (i := 1) (N := some 46) (v := ?_) (a' := ?_) #[true, true, false, false, false, false, false, false, false, false, false] rfl rfl (take_ofW HT_.out HW_.out (by kernel_rfl)) (fun _ _ _ h => h) (Or.inl ⟨by rfl, ?_⟩) hHeld ?_ ?_
          rotate_left
          · rintro w' hS; have s8 := show w'.cell? ⟨br, 8, none⟩ = some v5 from (by rw [cellB ((hS.block _ (lt_of_get HJ.out.1)).trans HJ.out.1)]; rfl); have s9 := show w'.cell? ⟨ba, 8, none⟩ = some (.slice (some ad5) l5 c11) from (by rw [cellB ((hS.block _ (lt_of_get HJ.out.2.1)).trans HJ.out.2.1)]; rfl); obtain ⟨t0, t1⟩ := HD.out w' hS
            go_simp
            with_reducible rfl
          rotate_left
          · simp only [Act.put, List.setIfInBounds_toArray, List.set_cons_zero, List.set_cons_succ]
            rfl
          refine pure_ (i := 2) (N := some 47) (v := ?_) (a' := ?_) #[true, true, true, false, false, false, false, false, false, false, false] rfl rfl (any_of HT_.out (by kernel_rfl)) (fun _ _ _ h => h) (Or.inl ⟨by rfl, ?_⟩) ?_ ?_
          rotate_left
          · intro w'
            go_simp
            with_reducible rfl
          rotate_left
          · simp only [Act.put, List.setIfInBounds_toArray, List.set_cons_zero, List.set_cons_succ]
            rfl
          refine take_ (i := 3) (N := some 48) (v := ?_) (a' := ?_) #[true, true, true, true, false, false, false, false, false, false, false] rfl rfl (take_ofW HT_.out HW_.out (by kernel_rfl)) (fun _ _ _ h => h) (Or.inl ⟨by rfl, ?_⟩) hHeld ?_ ?_
          rotate_left
          · rintro w' hS; have s8 := show w'.cell? ⟨br, 8, none⟩ = some v5 from (by rw [cellB ((hS.block _ (lt_of_get HJ.out.1)).trans HJ.out.1)]; rfl); have s9 := show w'.cell? ⟨ba, 8, none⟩ = some (.slice (some ad5) l5 c11) from (by rw [cellB ((hS.block _ (lt_of_get HJ.out.2.1)).trans HJ.out.2.1)]; rfl); obtain ⟨t0, t1⟩ := HD.out w' hS
            go_simp
            with_reducible rfl
          rotate_left
          · simp only [Act.put, List.setIfInBounds_toArray, List.set_cons_zero, List.set_cons_succ]
            rfl
          refine pure_ (i := 4) (N := some 49) (v := ?_) (a' := ?_) #[true, true, true, true, true, false, false, false, false, false, false] rfl rfl (any_of HT_.out (by kernel_rfl)) (fun _ _ _ h => h) (Or.inl ⟨by rfl, ?_⟩) ?_ ?_
          rotate_left
          · intro w'
            go_simp
            with_reducible rfl
          rotate_left
          · simp only [Act.put, List.setIfInBounds_toArray, List.set_cons_zero, List.set_cons_succ]
            rfl
          refine pure_ (i := 5) (N := some 50) (v := ?_) (a' := ?_) #[true, true, true, true, true, true, false, false, false, false, false] rfl rfl (any_of HT_.out (by kernel_rfl)) (fun _ _ _ h => h) (Or.inl ⟨by rfl, ?_⟩) ?_ ?_
          rotate_left
          · intro w'
            go_simp
            with_reducible rfl
          rotate_left
          · simp only [Act.put, List.setIfInBounds_toArray, List.set_cons_zero, List.set_cons_succ]
            rfl
          refine take_ (i := 6) (N := some 51) (v := ?_) (a' := ?_) #[true, true, true, true, true, true, true, false, false, false, false] rfl rfl (take_ofW HT_.out HW_.out (by kernel_rfl)) (fun _ _ _ h => h) (Or.inl ⟨by rfl, ?_⟩) hHeld ?_ ?_
          rotate_left
          · rintro w' hS; have s8 := show w'.cell? ⟨br, 8, none⟩ = some v5 from (by rw [cellB ((hS.block _ (lt_of_get HJ.out.1)).trans HJ.out.1)]; rfl); have s9 := show w'.cell? ⟨ba, 8, none⟩ = some (.slice (some ad5) l5 c11) from (by rw [cellB ((hS.block _ (lt_of_get HJ.out.2.1)).trans HJ.out.2.1)]; rfl); obtain ⟨t0, t1⟩ := HD.out w' hS
            go_simp
            with_reducible rfl
          rotate_left
          · simp only [Act.put, List.setIfInBounds_toArray, List.set_cons_zero, List.set_cons_succ]
            rfl
          refine one_ (i := 7) (N := some 52) #[true, true, true, true, true, true, true, true, false, false, false] rfl rfl (one_of HT_.out (by kernel_rfl)) (by decide) (fun K hK => ?_)
          rw [if_pos (by rfl)]
          go_simp
          refine hK.out _ _ (hHeld.alloc hHeld.size _) (fun hHeld => ?_)
          clear hK K
          refine last_ (i := 8) (N := some 53) #[true, true, true, true, true, true, true, true, true, false, false] rfl rfl (one_of HT_.out (by kernel_rfl)) (by decide) (fun K hK => ?_)
          refine Kd.R_append_rows_step k61 (Rr := k61.K w) (w0 := wo) wo.heap.size (by rfl) _ _ 67 61 (.agg #[(.int .u64 0), (.bool false)]) 16 rfl Tryd.underlying67 infoCnt rfl (Nat.zero_lt_succ 1) (by decide) v5 ((r.f5.take k).map cvC) [cvC y] (some ⟨wr.heap.size, 0, none⟩) 1 1 (fun _ => True) (fun _ => False) rfl rfl (Kd.R_below HJ.out.2.2.1 hHeld) (reads_alloc k61 _ _ [cvC y] _ [.int .u64 y.f0, .bool y.f1] 1 rfl rfl (fun W' ok => Reps.c2 ⟨[.int .u64 y.f0], [.bool y.f1], rfl, rfl, rfl⟩ (Reps.none _ _)) (by omega)) (fun _ _ h => h) (fun _ h => h.elim) (fun _ _ => trivial) (HJ.out.2.2.2.trans (hHeld.mono HJ.out.2.2.2.size)) (HJ.out.2.2.2.trans (hHeld.mono HJ.out.2.2.2.size)).size (by have := HLT.out; omega) ?_; intro v6 w6 hr6 hb6 hg6 hat6; obtain ⟨xs6, hxs6⟩ : ∃ xs6, Hid ((r.f5.take (k + 1)).map cvC = xs6) := ⟨_, Lib.hid rfl⟩; rw [← hy.out.2, hxs6.out] at hr6; obtain ⟨A6, cc6, e6, _, _⟩ := Kd.R_reads hr6; obtain ⟨n6, hn6⟩ : ∃ n6, Hid (xs6.length = n6) := ⟨_, Lib.hid rfl⟩; rw [hn6.out] at e6; subst e6; have hxc := (hHeld.block _ (lt_of_get HJ.out.1)).trans HJ.out.1; have hx6 : w6.heap[br]? = some (rC (.slice A0 l0 c0) r v5 (.slice none 0 0)) := (hg6.block br (lt_of_get hxc) (Kd.R_ne (Kd.R_below HJ.out.2.2.1 hHeld) hxc (by decide))).trans hxc; have hxa := (hHeld.block _ (lt_of_get HJ.out.2.1)).trans HJ.out.2.1; have ha6 : w6.heap[ba]? = some (aC (.slice A0 l0 c0) r (.slice (some ad5) l5 c11) (.slice A2 l6 c22)) := (hg6.block ba (lt_of_get hxa) (Kd.R_ne (Kd.R_below HJ.out.2.2.1 hHeld) hxa (by decide))).trans hxa; have c6 : w6.cell? ⟨br, 8, none⟩ = some v5 := (by rw [cellB hx6]; rfl); have k6 : w6.frozen? ⟨br, 8, none⟩ = false := frozenB hx6 8
          refine hK.out _ _ ?_
          clear hK K
          refine pure_ (i := 9) (N := some 54) (v := ?_) (a' := ?_) #[true, true, true, true, true, true, true, true, true, true, false] rfl rfl (any_of HT_.out (by kernel_rfl)) (fun _ _ _ h => h) (Or.inl ⟨by rfl, ?_⟩) ?_ ?_
          rotate_left
          · intro w'
            go_simp
            with_reducible rfl
          rotate_left
          · simp only [Act.put, List.setIfInBounds_toArray, List.set_cons_zero, List.set_cons_succ]
            rfl
          refine last_ (i := 10) (N := none) #[true, true, true, true, true, true, true, true, true, true, true] rfl rfl (one_of HT_.out (by kernel_rfl)) (by decide) (fun K hK => ?_)
          rw [if_pos (by rfl)]
          go_simp
          refine hK.out _ _ ?_
          clear hK K
          refine done_ (done_of HT_.out (by kernel_rfl)) ?_
          clear HT_ HW_ hHeld
          have H7 : Hid ((w6.setCell ⟨br, 8, none⟩ (.slice A6 n6 cc6)).heap[br]? = some (rC (.slice A0 l0 c0) r (.slice A6 n6 cc6) (.slice none 0 0)) ∧ (w6.setCell ⟨br, 8, none⟩ (.slice A6 n6 cc6)).heap[ba]? = some (aC (.slice A0 l0 c0) r (.slice (some ad5) l5 c11) (.slice A2 l6 c22)) ∧ Kd.R k61 61 (w6.setCell ⟨br, 8, none⟩ (.slice A6 n6 cc6)) wo.heap.size (fun _ => True) (.slice A6 n6 cc6) ((r.f5.take (k + 1)).map cvC) ∧ Below wo.heap.size wo (w6.setCell ⟨br, 8, none⟩ (.slice A6 n6 cc6))) := by
            have hne : ba ≠ br := by
              rintro e
              rw [e, hx6] at ha6
              exact absurd (Obj.cells.inj (Option.some.inj ha6)).2.1 (by decide)
            exact ⟨setB hx6 8 _, (setO w6 ⟨br, 8, none⟩ _ hne).trans ha6, by rw [hxs6.out]; exact Kd.R_set hr6 hx6 (by decide) 8 _, hb6.setCell (p := ⟨br, 8, none⟩) HBB.out.2.2.2 _⟩
          clear hr6 hb6 hg6 hat6 hxc hx6 hxa ha6 c6 k6
          go_wp2_with fail
          go_roundw
          case rel => exact ⟨k + 1, by go_num, by omega, _, H7.out⟩
          case measure => simp [intOf]; omega
        · obtain rfl : k = l5 := by omega
          obtain ⟨A5, c5, e5, hc5, hT5⟩ := TAt.of_R HJ.out.2.2.1
          have htk : (r.f5.take k).map cvC = (cvR r).f5 := by rw [List.take_of_length_le (by rw [hl5.out.1]; exact Nat.le_refl _)]; rfl
          rw [htk] at e5 hc5 hT5
          have hl5c : (cvR r).f5.length = k := by show (r.f5.map cvC).length = k; rw [List.length_map, hl5.out.1]
          rw [hl5c] at e5 hc5
          subst e5
          have H5 : Hid (wr.heap[br]? = some (rC (.slice A0 l0 c0) r (.slice A5 k c5) (.slice none 0 0)) ∧ wr.heap[ba]? = some (aC (.slice A0 l0 c0) r (.slice A1 k c11) (.slice A2 l6 c22)) ∧ TAt k61 61 wr A5 (cvR r).f5 ∧ k ≤ c5 ∧ Below wo.heap.size wo wr) := ⟨HJ.out.1, HJ.out.2.1, hT5, hc5, HJ.out.2.2.2⟩
          clear htk hc5 hT5 hl5c HJ
          go_wp2_with fail
          clear e8
          obtain ⟨wo2, hwo2⟩ : ∃ wo2, wo2 = wr := ⟨_, rfl⟩
          subst hwo2
          go_loopw [8] (fun kv wx => ∃ q : Nat, kv = .int .i64 q ∧ q ≤ l6 ∧ Hid (∃ v6 : Value, wx.heap[br]? = some (rC (.slice A0 l0 c0) r (.slice A5 k c5) v6) ∧ wx.heap[ba]? = some (aC (.slice A0 l0 c0) r (.slice A1 k c11) (.slice A2 l6 c22)) ∧ Kd.R k98 98 wx wo.heap.size (fun _ => True) v6 ((r.f6.take q).map cvO) ∧ TAt k61 61 wx A5 (cvR r).f5 ∧ Below wo.heap.size wo wx)) (fun kv _ => l6 - (intOf kv).toNat)
          case atStart => exact ⟨0, rfl, Nat.zero_le _, _, H5.out.1, H5.out.2.1, Kd.R_nil _ _ _ _ _, H5.out.2.2.1, H5.out.2.2.2.2⟩
          case round =>
            obtain ⟨q, rfl, hq, HK⟩ := hrel
            obtain ⟨v6, hK⟩ := HK.out
            have HJ := Lib.hid hK; clear hK HK
            have e9 : wr.cell? ⟨ba, 9, none⟩ = some (.slice A2 l6 c22) := by rw [cellB HJ.out.2.1]; rfl
            by_cases hltq : q < l6
            · have hkk : (q : Int) < (l6 : Int) := by omega
              have hbw : Hid (Below w.heap.size w wr) := HW.out.2.2.2.2.2.trans (HJ.out.2.2.2.2.mono HW.out.2.2.2.2.2.size)
              obtain ⟨ad6, rfl, d0, d1, d2, d3⟩ := at_T99 HC6.out q (by omega) (by omega)
              have hklt : q < r.f6.length := by rw [hl6.out.1]; exact hltq
              obtain ⟨y, hy⟩ : ∃ y, Hid (rd_T99 r.f6 q = y ∧ (r.f6.take (q + 1)).map cvO = (r.f6.take q).map cvO ++ [cvO y]) := ⟨_, rfl, by
                rw [List.take_succ_eq_append_getElem hklt, List.map_append]
                unfold rd_T99
                rw [show ((q : Int)).toNat = q from by omega, List.getD_eq_getElem?_getD, List.getElem?_eq_getElem hklt]; rfl⟩
              rw [hy.out.1, show ((q : Int)).toNat = q from by omega] at d0 d1 d2 d3
              have HD : Hid (∀ W, Below wr.heap.size wr W → W.cell? (ad6.add (q * 4)) = some (.int .u64 y.f0) ∧ W.cell? ⟨(ad6.add (q * 4)).block, (ad6.add (q * 4)).off + 1, none⟩ = some (.int .u64 y.f1) ∧ W.cell? ⟨(ad6.add (q * 4)).block, (ad6.add (q * 4)).off + 2, none⟩ = some (.int .u64 y.f2) ∧ W.cell? ⟨(ad6.add (q * 4)).block, (ad6.add (q * 4)).off + 3, none⟩ = some (.bool y.f3)) := fun W hb => ⟨pw_cell_below (hbw.out.trans (hb.mono hbw.out.size)) d0, pw_cell_below (hbw.out.trans (hb.mono hbw.out.size)) d1, pw_cell_below (hbw.out.trans (hb.mono hbw.out.size)) d2, pw_cell_below (hbw.out.trans (hb.mono hbw.out.size)) d3⟩
              have HLT : Hid (((r.f6.take q).map cvO).length ≤ 40) := by show _ ≤ _; rw [List.length_map, List.length_take]; omega
              clear d0 d1 d2 d3
              go_upto_region 14 with fail
              clear e9
              refine start_ (n := 11) (S := (fun w' => Below wr.heap.size wr w')) (ds := [8, 9, 10]) #[false, false, false, false, false, false, false, false, false, false, false] (by kernel_rfl) (by rfl) (by rfl) (Below_drewN (Below.refl wr.heap.size wr) 1) (fun hHeld => ?_); refine with_tabW tab16_14 bits16_14 (fun HT_ HW_ => ?_)
              refine pure_ (i := 0) (N := some 62) (v := ?_) (a' := ?_) #[true, false, false, false, false, false, false, false, false, false, false] rfl rfl (any_of HT_.out (by kernel_rfl)) (fun _ _ _ h => h) (Or.inl ⟨by rfl, ?_⟩) ?_ ?_
              rotate_left
              · intro w'
                go_simp
                with_reducible rfl
              rotate_left
              · simp only [Act.put, List.setIfInBounds_toArray, List.set_cons_zero, List.set_cons_succ]
                rfl
              refine take_ (i := 1) (N := some 63) (v := ?_) (a' := ?_) #[true, true, false, false, false, false, false, false, false, false, false] rfl rfl (take_ofW HT_.out HW_.out (by kernel_rfl)) (fun _ _ _ h => h) (Or.inl ⟨by rfl, ?_⟩) hHeld ?_ ?_
              rotate_left
              · rintro w' hS; have s8 := show w'.cell? ⟨br, 9, none⟩ = some v6 from (by rw [cellB ((hS.block _ (lt_of_get HJ.out.1)).trans HJ.out.1)]; rfl); have s9 := show w'.cell? ⟨ba, 9, none⟩ = some (.slice (some ad6) l6 c22) from (by rw [cellB ((hS.block _ (lt_of_get HJ.out.2.1)).trans HJ.out.2.1)]; rfl); obtain ⟨t0, t1, t2, t3⟩ := HD.out w' hS
                go_simp
                with_reducible rfl
              rotate_left
              · simp only [Act.put, List.setIfInBounds_toArray, List.set_cons_zero, List.set_cons_succ]
                rfl
              refine pure_ (i := 2) (N := some 64) (v := ?_) (a' := ?_) #[true, true, true, false, false, false, false, false, false, false, false] rfl rfl (any_of HT_.out (by kernel_rfl)) (fun _ _ _ h => h) (Or.inl ⟨by rfl, ?_⟩) ?_ ?_
              rotate_left
              · intro w'
                go_simp
                with_reducible rfl
              rotate_left
              · simp only [Act.put, List.setIfInBounds_toArray, List.set_cons_zero, List.set_cons_succ]
                rfl
              refine take_ (i := 3) (N := some 65) (v := ?_) (a' := ?_) #[true, true, true, true, false, false, false, false, false, false, false] rfl rfl (take_ofW HT_.out HW_.out (by kernel_rfl)) (fun _ _ _ h => h) (Or.inl ⟨by rfl, ?_⟩) hHeld ?_ ?_
              rotate_left
              · rintro w' hS; have s8 := show w'.cell? ⟨br, 9, none⟩ = some v6 from (by rw [cellB ((hS.block _ (lt_of_get HJ.out.1)).trans HJ.out.1)]; rfl); have s9 := show w'.cell? ⟨ba, 9, none⟩ = some (.slice (some ad6) l6 c22) from (by rw [cellB ((hS.block _ (lt_of_get HJ.out.2.1)).trans HJ.out.2.1)]; rfl); obtain ⟨t0, t1, t2, t3⟩ := HD.out w' hS
                go_simp
                with_reducible rfl
              rotate_left
              · simp only [Act.put, List.setIfInBounds_toArray, List.set_cons_zero, List.set_cons_succ]
                rfl
              refine pure_ (i := 4) (N := some 66) (v := ?_) (a' := ?_) #[true, true, true, true, true, false, false, false, false, false, false] rfl rfl (any_of HT_.out (by kernel_rfl)) (fun _ _ _ h => h) (Or.inl ⟨by rfl, ?_⟩) ?_ ?_
              rotate_left
              · intro w'
                go_simp
                with_reducible rfl
              rotate_left
              · simp only [Act.put, List.setIfInBounds_toArray, List.set_cons_zero, List.set_cons_succ]
                rfl
              refine pure_ (i := 5) (N := some 67) (v := ?_) (a' := ?_) #[true, true, true, true, true, true, false, false, false, false, false] rfl rfl (any_of HT_.out (by kernel_rfl)) (fun _ _ _ h => h) (Or.inl ⟨by rfl, ?_⟩) ?_ ?_
              rotate_left
              · intro w'
                go_simp
                with_reducible rfl
              rotate_left
              · simp only [Act.put, List.setIfInBounds_toArray, List.set_cons_zero, List.set_cons_succ]
                rfl
              refine take_ (i := 6) (N := some 68) (v := ?_) (a' := ?_) #[true, true, true, true, true, true, true, false, false, false, false] rfl rfl (take_ofW HT_.out HW_.out (by kernel_rfl)) (fun _ _ _ h => h) (Or.inl ⟨by rfl, ?_⟩) hHeld ?_ ?_
              rotate_left
              · rintro w' hS; have s8 := show w'.cell? ⟨br, 9, none⟩ = some v6 from (by rw [cellB ((hS.block _ (lt_of_get HJ.out.1)).trans HJ.out.1)]; rfl); have s9 := show w'.cell? ⟨ba, 9, none⟩ = some (.slice (some ad6) l6 c22) from (by rw [cellB ((hS.block _ (lt_of_get HJ.out.2.1)).trans HJ.out.2.1)]; rfl); obtain ⟨t0, t1, t2, t3⟩ := HD.out w' hS
                go_simp
                with_reducible rfl
              rotate_left
              · simp only [Act.put, List.setIfInBounds_toArray, List.set_cons_zero, List.set_cons_succ]
                rfl
              refine one_ (i := 7) (N := some 69) #[true, true, true, true, true, true, true, true, false, false, false] rfl rfl (one_of HT_.out (by kernel_rfl)) (by decide) (fun K hK => ?_)
              rw [if_pos (by rfl)]
              go_simp
              refine hK.out _ _ (hHeld.alloc hHeld.size _) (fun hHeld => ?_)
              clear hK K
              refine last_ (i := 8) (N := some 70) #[true, true, true, true, true, true, true, true, true, false, false] rfl rfl (one_of HT_.out (by kernel_rfl)) (by decide) (fun K hK => ?_)
              refine Kd.R_append_rows_step k98 (Rr := k98.K w) (w0 := wo) wo.heap.size (by rfl) _ _ 68 98 (.agg #[(.int .u64 0), (.int .u64 0), (.int .u64 0), (.bool false)]) 32 rfl Tryd.underlying68 infoOne rfl (Nat.zero_lt_succ 3) (by decide) v6 ((r.f6.take q).map cvO) [cvO y] (some ⟨wr.heap.size, 0, none⟩) 1 1 (fun _ => True) (fun _ => False) rfl rfl (Kd.R_below HJ.out.2.2.1 hHeld) (reads_alloc k98 _ _ [cvO y] _ [.int .u64 y.f0, .int .u64 y.f1, .int .u64 y.f2, .bool y.f3] 1 rfl rfl (fun W' ok => Reps.c4 ⟨[.int .u64 y.f0], _, rfl, rfl, [.int .u64 y.f1], _, rfl, rfl, [.int .u64 y.f2], [.bool y.f3], rfl, rfl, rfl⟩ (Reps.none _ _)) (by omega)) (fun _ _ h => h) (fun _ h => h.elim) (fun _ _ => trivial) (HJ.out.2.2.2.2.trans (hHeld.mono HJ.out.2.2.2.2.size)) (HJ.out.2.2.2.2.trans (hHeld.mono HJ.out.2.2.2.2.size)).size (by have := HLT.out; omega) ?_; intro v7 w6 hr6 hb6 hg6 hat6; obtain ⟨xs6, hxs6⟩ : ∃ xs6, Hid ((r.f6.take (q + 1)).map cvO = xs6) := ⟨_, Lib.hid rfl⟩; rw [← hy.out.2, hxs6.out] at hr6; obtain ⟨A6, cc6, e6, _, _⟩ := Kd.R_reads hr6; obtain ⟨n6, hn6⟩ : ∃ n6, Hid (xs6.length = n6) := ⟨_, Lib.hid rfl⟩; rw [hn6.out] at e6; subst e6; have hxc := (hHeld.block _ (lt_of_get HJ.out.1)).trans HJ.out.1; have hx6 : w6.heap[br]? = some (rC (.slice A0 l0 c0) r (.slice A5 k c5) v6) := (hg6.block br (lt_of_get hxc) (Kd.R_ne (Kd.R_below HJ.out.2.2.1 hHeld) hxc (by decide))).trans hxc; have hxa := (hHeld.block _ (lt_of_get HJ.out.2.1)).trans HJ.out.2.1; have ha6 : w6.heap[ba]? = some (aC (.slice A0 l0 c0) r (.slice A1 k c11) (.slice (some ad6) l6 c22)) := (hg6.block ba (lt_of_get hxa) (Kd.R_ne (Kd.R_below HJ.out.2.2.1 hHeld) hxa (by decide))).trans hxa; have hk6 : KT 61 wr w6 := (KT.below hHeld).trans (KT.grown (Kd.R_below HJ.out.2.2.1 hHeld) (by decide) hg6); have c6 : w6.cell? ⟨br, 9, none⟩ = some v6 := (by rw [cellB hx6]; rfl); have k6 : w6.frozen? ⟨br, 9, none⟩ = false := frozenB hx6 9
              refine hK.out _ _ ?_
              clear hK K
              refine pure_ (i := 9) (N := some 71) (v := ?_) (a' := ?_) #[true, true, true, true, true, true, true, true, true, true, false] rfl rfl (any_of HT_.out (by kernel_rfl)) (fun _ _ _ h => h) (Or.inl ⟨by rfl, ?_⟩) ?_ ?_
              rotate_left
              · intro w'
                go_simp
                with_reducible rfl
              rotate_left
              · simp only [Act.put, List.setIfInBounds_toArray, List.set_cons_zero, List.set_cons_succ]
                rfl
              refine last_ (i := 10) (N := none) #[true, true, true, true, true, true, true, true, true, true, true] rfl rfl (one_of HT_.out (by kernel_rfl)) (by decide) (fun K hK => ?_)
              rw [if_pos (by rfl)]
              go_simp
              refine hK.out _ _ ?_
              clear hK K
              refine done_ (done_of HT_.out (by kernel_rfl)) ?_
              clear HT_ HW_ hHeld
              have H7 : Hid ((w6.setCell ⟨br, 9, none⟩ (.slice A6 n6 cc6)).heap[br]? = some (rC (.slice A0 l0 c0) r (.slice A5 k c5) (.slice A6 n6 cc6)) ∧ (w6.setCell ⟨br, 9, none⟩ (.slice A6 n6 cc6)).heap[ba]? = some (aC (.slice A0 l0 c0) r (.slice A1 k c11) (.slice (some ad6) l6 c22)) ∧ Kd.R k98 98 (w6.setCell ⟨br, 9, none⟩ (.slice A6 n6 cc6)) wo.heap.size (fun _ => True) (.slice A6 n6 cc6) ((r.f6.take (q + 1)).map cvO) ∧ TAt k61 61 (w6.setCell ⟨br, 9, none⟩ (.slice A6 n6 cc6)) A5 (cvR r).f5 ∧ Below wo.heap.size wo (w6.setCell ⟨br, 9, none⟩ (.slice A6 n6 cc6))) := by
                have hne : ba ≠ br := by
                  rintro e
                  rw [e, hx6] at ha6
                  exact absurd (Obj.cells.inj (Option.some.inj ha6)).2.1 (by decide)
                exact ⟨setB hx6 9 _, (setO w6 ⟨br, 9, none⟩ _ hne).trans ha6, by rw [hxs6.out]; exact Kd.R_set hr6 hx6 (by decide) 9 _, HJ.out.2.2.2.1.keep (kc_flat _ _) (hk6.trans (KT.set hx6 (by decide))), hb6.setCell (p := ⟨br, 9, none⟩) HBB.out.2.2.2 _⟩
              clear hr6 hb6 hg6 hat6 hxc hx6 hxa ha6 c6 k6 hk6
              go_wp2_with fail
              go_roundw
              case rel => exact ⟨q + 1, by go_num, by omega, _, H7.out⟩
              case measure => simp [intOf]; omega
            · obtain rfl : q = l6 := by omega
              obtain ⟨A6, c6, e6, hc6, hT6⟩ := TAt.of_R HJ.out.2.2.1
              have htk : (r.f6.take q).map cvO = (cvR r).f6 := by rw [List.take_of_length_le (by rw [hl6.out.1]; exact Nat.le_refl _)]; rfl
              rw [htk] at e6 hc6 hT6
              have hl6c : (cvR r).f6.length = q := by show (r.f6.map cvO).length = q; rw [List.length_map, hl6.out.1]
              have hl5c : (cvR r).f5.length = k := by show (r.f5.map cvC).length = k; rw [List.length_map, hl5.out.1]
              rw [hl6c] at e6 hc6
              subst e6
              obtain ⟨row, hrow⟩ : ∃ row, Hid (row = [.slice A0 l0 c0, .bool r.f1, .int .u64 r.f2.f0, .bool r.f2.f1, .int .u64 r.f3.f0, .bool r.f3.f1, .int .u64 r.f4.f0, .bool r.f4.f1, .slice A5 k c5, .slice A6 q c6] ∧ RowAt w wr (cvR r) row) := ⟨_, rfl, A0, c0, A5, c5, A6, c6, by rw [hl6c, hl5c, ← hl0.out]; rfl, HC0.out.1, HC0.out.2, by rw [hl5c]; exact H5.out.2.2.2.1, HJ.out.2.2.2.1, by rw [hl6c]; exact hc6, hT6⟩
              have hbk := HJ.out.2.2.2.2
              have H8 : Hid (wr.heap[R]? = some (.cells #[.int .u64 o.f0, .slice (some ad) n cA, .slice E m cE, .int .u64 o.f3.f0, .bool o.f3.f1, .int .u64 o.f4.f0, .bool o.f4.f1, .int .u64 o.f5.f0, .bool o.f5.f1] 51 (0, 0)) ∧ wr.heap[R1]? = some (xC 0 (.slice none 0 0) (.slice none 0 0) 0 false 0 false 0 false) ∧ wr.heap[RX]? = some (xC o.f0 v (.slice none 0 0) 0 false 0 false 0 false) ∧ (Kd.raw 10).R 70 wr w.heap.size (fun _ => True) v rows ∧ RowsAt w wr ((o.f1.take i).map cvR) rows ∧ Below w.heap.size w wr ∧ wr.heap[br]? = some (rC (.slice A0 l0 c0) r (.slice A5 k c5) (.slice A6 q c6)) ∧ rows.length ≤ 12) :=
                ⟨(hbk.block _ (lt_of_get HW.out.1)).trans HW.out.1, (hbk.block _ (lt_of_get HW.out.2.1)).trans HW.out.2.1, (hbk.block _ (lt_of_get HW.out.2.2.1)).trans HW.out.2.2.1, Kd.R_below HW.out.2.2.2.1 hbk, HW.out.2.2.2.2.1.keep (KT.below hbk) (KT.below hbk), HW.out.2.2.2.2.2.trans (hbk.mono HW.out.2.2.2.2.2.size), HJ.out.1, by
                  have h := HW.out.2.2.2.2.1.1
                  rw [List.length_map, List.length_take] at h; omega⟩
              clear htk hc6 hT6 hl6c hl5c HJ hbk HW H5
              have f0 : wr.cell? ⟨br, 0, none⟩ = some (.slice A0 l0 c0) := by rw [cellB H8.out.2.2.2.2.2.2.1]; rfl
              have f1 : wr.cell? ⟨br, 1, none⟩ = some (.bool r.f1) := by rw [cellB H8.out.2.2.2.2.2.2.1]; rfl
              have f2 : wr.cell? ⟨br, 2, none⟩ = some (.int .u64 r.f2.f0) := by rw [cellB H8.out.2.2.2.2.2.2.1]; rfl
              have f3 : wr.cell? ⟨br, 3, none⟩ = some (.bool r.f2.f1) := by rw [cellB H8.out.2.2.2.2.2.2.1]; rfl
              have f4 : wr.cell? ⟨br, 4, none⟩ = some (.int .u64 r.f3.f0) := by rw [cellB H8.out.2.2.2.2.2.2.1]; rfl
              have f5 : wr.cell? ⟨br, 5, none⟩ = some (.bool r.f3.f1) := by rw [cellB H8.out.2.2.2.2.2.2.1]; rfl
              have f6 : wr.cell? ⟨br, 6, none⟩ = some (.int .u64 r.f4.f0) := by rw [cellB H8.out.2.2.2.2.2.2.1]; rfl
              have f7 : wr.cell? ⟨br, 7, none⟩ = some (.bool r.f4.f1) := by rw [cellB H8.out.2.2.2.2.2.2.1]; rfl
              have f8 : wr.cell? ⟨br, 8, none⟩ = some (.slice A5 k c5) := by rw [cellB H8.out.2.2.2.2.2.2.1]; rfl
              have f9 : wr.cell? ⟨br, 9, none⟩ = some (.slice A6 q c6) := by rw [cellB H8.out.2.2.2.2.2.2.1]; rfl
              have g1 : wr.cell? ⟨RX, 1, none⟩ = some v := by rw [cellB H8.out.2.2.1]; rfl
              go_wp2_with (at_builtin; go_loud (refine Kd.R_append (Kd.raw 10) (w0 := w) w.heap.size rfl _ _ 59 70 (.agg #[(.slice none 0 0), (.bool false), (.int .u64 0), (.bool false), (.int .u64 0), (.bool false), (.int .u64 0), (.bool false), (.slice none 0 0), (.slice none 0 0)]) 128 rfl Tryd.underlying59 infoRow rfl (Nat.zero_lt_succ 9) (by decide) v rows row [.slice A0 l0 c0, .bool r.f1, .int .u64 r.f2.f0, .bool r.f2.f1, .int .u64 r.f3.f0, .bool r.f3.f1, .int .u64 r.f4.f0, .bool r.f4.f1, .slice A5 k c5, .slice A6 q c6] (fun _ => True) (fun _ => False) rfl rfl (by rw [← hrow.out.1]; exact hrow.out.2.raw) (fun _ h => h.elim) (fun _ _ => trivial) H8.out.2.2.2.1 H8.out.2.2.2.2.2.1 H8.out.2.2.2.2.2.1.size (by have := H8.out.2.2.2.2.2.2.2; omega) ?_))
              intro v8 w8 hr8 hb8 hg8 hat8
              obtain ⟨rows8, hrows8⟩ : ∃ rows8, Hid (rows ++ [row] = rows8) := ⟨_, Lib.hid rfl⟩
              rw [hrows8.out] at hr8
              obtain ⟨A8, c8, e8, _, _⟩ := Kd.R_reads hr8
              obtain ⟨n8, hn8⟩ : ∃ n8, Hid (rows8.length = n8) := ⟨_, Lib.hid rfl⟩
              rw [hn8.out] at e8
              subst e8
              have hx8 : w8.heap[RX]? = some (xC o.f0 v (.slice none 0 0) 0 false 0 false 0 false) := (hg8.block RX (lt_of_get H8.out.2.2.1) (Kd.R_ne H8.out.2.2.2.1 H8.out.2.2.1 (by decide))).trans H8.out.2.2.1
              have hq8 : KT 61 w8 (w8.setCell ⟨RX, 1, none⟩ (.slice A8 n8 c8)) := KT.set hx8 (by decide)
              have hq9 : KT 98 w8 (w8.setCell ⟨RX, 1, none⟩ (.slice A8 n8 c8)) := KT.set hx8 (by decide)
              have k8 : KT 61 wr w8 := KT.grown H8.out.2.2.2.1 (by decide) hg8
              have k9 : KT 98 wr w8 := KT.grown H8.out.2.2.2.1 (by decide) hg8
              have H9 : Hid ((w8.setCell ⟨RX, 1, none⟩ (.slice A8 n8 c8)).heap[R]? = some (.cells #[.int .u64 o.f0, .slice (some ad) n cA, .slice E m cE, .int .u64 o.f3.f0, .bool o.f3.f1, .int .u64 o.f4.f0, .bool o.f4.f1, .int .u64 o.f5.f0, .bool o.f5.f1] 51 (0, 0)) ∧ (w8.setCell ⟨RX, 1, none⟩ (.slice A8 n8 c8)).heap[R1]? = some (xC 0 (.slice none 0 0) (.slice none 0 0) 0 false 0 false 0 false) ∧ (w8.setCell ⟨RX, 1, none⟩ (.slice A8 n8 c8)).heap[RX]? = some (xC o.f0 (.slice A8 n8 c8) (.slice none 0 0) 0 false 0 false 0 false) ∧
                  (Kd.raw 10).R 70 (w8.setCell ⟨RX, 1, none⟩ (.slice A8 n8 c8)) w.heap.size (fun _ => True) (.slice A8 n8 c8) rows8 ∧ RowsAt w (w8.setCell ⟨RX, 1, none⟩ (.slice A8 n8 c8)) ((o.f1.take (i + 1)).map cvR) rows8 ∧ Below w.heap.size w (w8.setCell ⟨RX, 1, none⟩ (.slice A8 n8 c8))) := by
                have hR8 : R < RX := Nat.lt_trans HRr.out.2.1 HRr.out.2.2
                refine ⟨(setO w8 ⟨RX, 1, none⟩ _ (by show R ≠ RX; omega)).trans ((hg8.block R (lt_of_get H8.out.1) (Kd.R_ne H8.out.2.2.2.1 H8.out.1 (by decide))).trans H8.out.1), (setO w8 ⟨RX, 1, none⟩ _ (by show R1 ≠ RX; have := HRr.out.2.2; omega)).trans ((hg8.block R1 (lt_of_get H8.out.2.1) (Kd.R_ne H8.out.2.2.2.1 H8.out.2.1 (by decide))).trans H8.out.2.1), setB hx8 1 _, Kd.R_set hr8 hx8 (by decide) 1 _, ?_, hb8.setCell (p := ⟨RX, 1, none⟩) (by have := HRr.out.1; show w.heap.size ≤ RX; omega) _⟩
                rw [HTK.out, ← hrows8.out]
                exact (H8.out.2.2.2.2.1.keep (k8.trans hq8) (k9.trans hq9)).snoc (hrow.out.2.keep (k8.trans hq8) (k9.trans hq9))
              have g8 : w8.cell? ⟨RX, 1, none⟩ = some v := by rw [cellB hx8]; rfl
              have z8 : w8.frozen? ⟨RX, 1, none⟩ = false := frozenB hx8 1
              clear hr8 hb8 hg8 hat8 hx8 hq8 hq9 k8 k9 f0 f1 f2 f3 f4 f5 f6 f7 f8 f9 g1 e9
              go_wp2_with fail
              go_roundw
              case rel => exact ⟨i + 1, by go_num, by omega, _, rows8, H9.out⟩
              case measure => simp [intOf]; omega
    · obtain rfl : i = n := by omega
      have htk : (o.f1.take i).map cvR = o.f1.map cvR := by rw [List.take_of_length_le (by rw [hn.out.1]; exact Nat.le_refl _)]
      obtain ⟨A7, c7, e7, hc7, hT7⟩ := TAt.of_R HW.out.2.2.2.1
      have hrl : rows.length = i := by rw [HW.out.2.2.2.2.1.1, htk, List.length_map, hn.out.1]
      rw [hrl] at e7
      subst e7
      have H7 : Hid (wr.heap[R]? = some (.cells #[.int .u64 o.f0, .slice A i cA, .slice E m cE, .int .u64 o.f3.f0, .bool o.f3.f1, .int .u64 o.f4.f0, .bool o.f4.f1, .int .u64 o.f5.f0, .bool o.f5.f1] 51 (0, 0)) ∧ wr.heap[R1]? = some (xC 0 (.slice none 0 0) (.slice none 0 0) 0 false 0 false 0 false) ∧ wr.heap[RX]? = some (xC o.f0 (.slice A7 i c7) (.slice none 0 0) 0 false 0 false 0 false) ∧ TAt (Kd.raw 10) 70 wr A7 rows ∧ RowsAt w wr (o.f1.map cvR) rows ∧ Below w.heap.size w wr) := ⟨HW.out.1, HW.out.2.1, HW.out.2.2.1, hT7, by rw [← htk]; exact HW.out.2.2.2.2.1, HW.out.2.2.2.2.2⟩
      have HRL := Lib.hid hrl
      clear htk hc7 hT7 hrl HW
      go_wp2_with fail
      clear c1
      obtain ⟨wo, hwo⟩ : ∃ wo, wo = wr := ⟨_, rfl⟩
      subst hwo
      have hm12 := hm.out.2
      go_loopw [9] (fun jv wr => ∃ j : Nat, jv = .int .i64 j ∧ j ≤ m ∧ Hid (∃ e : Value, wr.heap[R]? = some (.cells #[.int .u64 o.f0, .slice A i cA, .slice E m cE, .int .u64 o.f3.f0, .bool o.f3.f1, .int .u64 o.f4.f0, .bool o.f4.f1, .int .u64 o.f5.f0, .bool o.f5.f1] 51 (0, 0)) ∧ wr.heap[R1]? = some (xC 0 (.slice none 0 0) (.slice none 0 0) 0 false 0 false 0 false) ∧ wr.heap[RX]? = some (xC o.f0 (.slice A7 i c7) e 0 false 0 false 0 false) ∧ TAt (Kd.raw 10) 70 wr A7 rows ∧ RowsAt w wr (o.f1.map cvR) rows ∧ Kd.R k94 94 wr w.heap.size (fun _ => True) e ((o.f2.take j).map cvE) ∧ Below w.heap.size w wr)) (fun jv _ => m - (intOf jv).toNat)
      case atStart => exact ⟨0, rfl, Nat.zero_le _, _, H7.out.1, H7.out.2.1, H7.out.2.2.1, H7.out.2.2.2.1, H7.out.2.2.2.2.1, Kd.R_nil _ _ _ _ _, H7.out.2.2.2.2.2⟩
      case round =>
        obtain ⟨j, rfl, hj, HO⟩ := hrel
        obtain ⟨ev, hO⟩ := HO.out
        have HW := Lib.hid hO; clear hO HO
        have c2 : wr.cell? ⟨R, 2, none⟩ = some (.slice E m cE) := by rw [cellB HW.out.1]; rfl
        by_cases hlt : j < m
        · have hki : (j : Int) < (m : Int) := by omega
          obtain ⟨ad, rfl, d0, d1, d2, d3, d4, d5, d6, d7⟩ := at_T91 HE.out j (by omega) (by omega)
          have hjlt : j < o.f2.length := by rw [hm.out.1]; exact hlt
          obtain ⟨y, hy⟩ : ∃ y, Hid (rd_T91 o.f2 j = y ∧ (o.f2.take (j + 1)).map cvE = (o.f2.take j).map cvE ++ [cvE y]) := ⟨_, rfl, by
            rw [List.take_succ_eq_append_getElem hjlt, List.map_append]
            unfold rd_T91
            rw [show ((j : Int)).toNat = j from by omega, List.getD_eq_getElem?_getD, List.getElem?_eq_getElem hjlt]; rfl⟩
          rw [hy.out.1, show ((j : Int)).toNat = j from by omega] at d0 d1 d2 d3 d4 d5 d6 d7
          have hbw := HW.out.2.2.2.2.2.2
          have d0' := pw_cell_below hbw d0
          have d1' := pw_cell_below hbw d1
          have d2' := pw_cell_below hbw d2
          have d3' := pw_cell_below hbw d3
          have d4' := pw_cell_below hbw d4
          have d5' := pw_cell_below hbw d5
          have d6' := pw_cell_below hbw d6
          have d7' := pw_cell_below hbw d7
          obtain ⟨wa, hwa⟩ : ∃ wa, Hid (wr.alloc (.cells #[.string y.f0, .string y.f1, .int .u64 y.f2.f0, .bool y.f2.f1, .int .u64 y.f3.f0, .bool y.f3.f1, .int .u64 y.f4.f0, .bool y.f4.f1] 91) = wa) := ⟨_, Lib.hid rfl⟩
          obtain ⟨ba, hba⟩ : ∃ ba, Hid (wr.heap.size = ba) := ⟨_, Lib.hid rfl⟩
          have ha1 : wa.heap[ba]? = some (.cells #[.string y.f0, .string y.f1, .int .u64 y.f2.f0, .bool y.f2.f1, .int .u64 y.f3.f0, .bool y.f3.f1, .int .u64 y.f4.f0, .bool y.f4.f1] 91 (0, 0)) := by rw [← hwa.out, ← hba.out]; exact allocN _ _
          have hba' : Below wr.heap.size wr wa := by rw [← hwa.out]; exact (Below.refl _ _).alloc (Nat.le_refl _) _
          obtain ⟨xj, hxj⟩ : ∃ xj, Hid ((o.f2.take j).map cvE = xj) := ⟨_, Lib.hid rfl⟩
          have HWA : Hid (wa.heap[R]? = some (.cells #[.int .u64 o.f0, .slice A i cA, .slice (some ad) m cE, .int .u64 o.f3.f0, .bool o.f3.f1, .int .u64 o.f4.f0, .bool o.f4.f1, .int .u64 o.f5.f0, .bool o.f5.f1] 51 (0, 0)) ∧ wa.heap[R1]? = some (xC 0 (.slice none 0 0) (.slice none 0 0) 0 false 0 false 0 false) ∧ wa.heap[RX]? = some (xC o.f0 (.slice A7 i c7) ev 0 false 0 false 0 false) ∧ TAt (Kd.raw 10) 70 wa A7 rows ∧ RowsAt w wa (o.f1.map cvR) rows ∧ Kd.R k94 94 wa w.heap.size (fun _ => True) ev xj ∧ Below w.heap.size w wa ∧ xj.length ≤ 12) :=
            ⟨(hba'.block _ (lt_of_get HW.out.1)).trans HW.out.1, (hba'.block _ (lt_of_get HW.out.2.1)).trans HW.out.2.1, (hba'.block _ (lt_of_get HW.out.2.2.1)).trans HW.out.2.2.1, TAt.keep (w := wr) (w' := wa) (fun _ _ h => h) HW.out.2.2.2.1 (KT.below hba'), HW.out.2.2.2.2.1.keep (KT.below hba') (KT.below hba'), by rw [← hxj.out]; exact Kd.R_below HW.out.2.2.2.2.2.1 hba', hbw.trans (hba'.mono hbw.size), by rw [← hxj.out, List.length_map, List.length_take]; omega⟩
          clear d0 d1 d2 d3 d4 d5 d6 d7 hba' HW hbw
          go_upto_region 20 with fail
          rw [hwa.out, hba.out]
          clear d0' d1' d2' d3' d4' d5' d6' d7' c2
          have f0 : wa.cell? ⟨ba, 0, none⟩ = some (.string y.f0) := by rw [cellB ha1]; rfl
          have f1 : wa.cell? ⟨ba, 1, none⟩ = some (.string y.f1) := by rw [cellB ha1]; rfl
          have f2 : wa.cell? ⟨ba, 2, none⟩ = some (.int .u64 y.f2.f0) := by rw [cellB ha1]; rfl
          have f3 : wa.cell? ⟨ba, 3, none⟩ = some (.bool y.f2.f1) := by rw [cellB ha1]; rfl
          have f4 : wa.cell? ⟨ba, 4, none⟩ = some (.int .u64 y.f3.f0) := by rw [cellB ha1]; rfl
          have f5 : wa.cell? ⟨ba, 5, none⟩ = some (.bool y.f3.f1) := by rw [cellB ha1]; rfl
          have f6 : wa.cell? ⟨ba, 6, none⟩ = some (.int .u64 y.f4.f0) := by rw [cellB ha1]; rfl
          have f7 : wa.cell? ⟨ba, 7, none⟩ = some (.bool y.f4.f1) := by rw [cellB ha1]; rfl
          have g2 : wa.cell? ⟨RX, 2, none⟩ = some ev := by rw [cellB HWA.out.2.2.1]; rfl
          clear ha1
          go_wp2_with (at_builtin; go_loud (refine Kd.R_append k94 (w0 := w) w.heap.size rfl _ _ 60 94 (.agg #[(.string ⟨#[]⟩), (.string ⟨#[]⟩), (.int .u64 0), (.bool false), (.int .u64 0), (.bool false), (.int .u64 0), (.bool false)]) 80 rfl Tryd.underlying60 infoEdg rfl (Nat.zero_lt_succ 7) (by decide) ev xj (cvE y) [.string y.f0, .string y.f1, .int .u64 y.f2.f0, .bool y.f2.f1, .int .u64 y.f3.f0, .bool y.f3.f1, .int .u64 y.f4.f0, .bool y.f4.f1] (fun _ => True) (fun _ => False) rfl rfl (k94_mk w (cvE y)) (fun _ h => h.elim) (fun _ _ => trivial) HWA.out.2.2.2.2.2.1 HWA.out.2.2.2.2.2.2.1 HWA.out.2.2.2.2.2.2.1.size (by have := HWA.out.2.2.2.2.2.2.2; omega) ?_))
          intro v8 w8 hr8 hb8 hg8 hat8
          obtain ⟨xs8, hxs8⟩ : ∃ xs8, Hid ((o.f2.take (j + 1)).map cvE = xs8) := ⟨_, Lib.hid rfl⟩
          rw [← hxj.out, ← hy.out.2, hxs8.out] at hr8
          obtain ⟨A8, c8, e8, _, _⟩ := Kd.R_reads hr8
          obtain ⟨n8, hn8⟩ : ∃ n8, Hid (xs8.length = n8) := ⟨_, Lib.hid rfl⟩
          rw [hn8.out] at e8
          subst e8
          have hx8 : w8.heap[RX]? = some (xC o.f0 (.slice A7 i c7) ev 0 false 0 false 0 false) := (hg8.block RX (lt_of_get HWA.out.2.2.1) (Kd.R_ne HWA.out.2.2.2.2.2.1 HWA.out.2.2.1 (by decide))).trans HWA.out.2.2.1
          have k8 : KT 61 wa (w8.setCell ⟨RX, 2, none⟩ (.slice A8 n8 c8)) := (KT.grown HWA.out.2.2.2.2.2.1 (by decide) hg8).trans (KT.set hx8 (by decide))
          have k9 : KT 98 wa (w8.setCell ⟨RX, 2, none⟩ (.slice A8 n8 c8)) := (KT.grown HWA.out.2.2.2.2.2.1 (by decide) hg8).trans (KT.set hx8 (by decide))
          have k7 : KT 70 wa (w8.setCell ⟨RX, 2, none⟩ (.slice A8 n8 c8)) := (KT.grown HWA.out.2.2.2.2.2.1 (by decide) hg8).trans (KT.set hx8 (by decide))
          have H9 : Hid ((w8.setCell ⟨RX, 2, none⟩ (.slice A8 n8 c8)).heap[R]? = some (.cells #[.int .u64 o.f0, .slice A i cA, .slice (some ad) m cE, .int .u64 o.f3.f0, .bool o.f3.f1, .int .u64 o.f4.f0, .bool o.f4.f1, .int .u64 o.f5.f0, .bool o.f5.f1] 51 (0, 0)) ∧ (w8.setCell ⟨RX, 2, none⟩ (.slice A8 n8 c8)).heap[R1]? = some (xC 0 (.slice none 0 0) (.slice none 0 0) 0 false 0 false 0 false) ∧ (w8.setCell ⟨RX, 2, none⟩ (.slice A8 n8 c8)).heap[RX]? = some (xC o.f0 (.slice A7 i c7) (.slice A8 n8 c8) 0 false 0 false 0 false) ∧
              TAt (Kd.raw 10) 70 (w8.setCell ⟨RX, 2, none⟩ (.slice A8 n8 c8)) A7 rows ∧ RowsAt w (w8.setCell ⟨RX, 2, none⟩ (.slice A8 n8 c8)) (o.f1.map cvR) rows ∧ Kd.R k94 94 (w8.setCell ⟨RX, 2, none⟩ (.slice A8 n8 c8)) w.heap.size (fun _ => True) (.slice A8 n8 c8) ((o.f2.take (j + 1)).map cvE) ∧ Below w.heap.size w (w8.setCell ⟨RX, 2, none⟩ (.slice A8 n8 c8))) := by
            have hR8 : R < RX := Nat.lt_trans HRr.out.2.1 HRr.out.2.2
            exact ⟨(setO w8 ⟨RX, 2, none⟩ _ (by show R ≠ RX; omega)).trans ((hg8.block R (lt_of_get HWA.out.1) (Kd.R_ne HWA.out.2.2.2.2.2.1 HWA.out.1 (by decide))).trans HWA.out.1), (setO w8 ⟨RX, 2, none⟩ _ (by show R1 ≠ RX; have := HRr.out.2.2; omega)).trans ((hg8.block R1 (lt_of_get HWA.out.2.1) (Kd.R_ne HWA.out.2.2.2.2.2.1 HWA.out.2.1 (by decide))).trans HWA.out.2.1), setB hx8 2 _, TAt.keep (w := wa) (w' := w8.setCell ⟨RX, 2, none⟩ (.slice A8 n8 c8)) (fun _ _ h => h) HWA.out.2.2.2.1 k7, HWA.out.2.2.2.2.1.keep k8 k9, by rw [hxs8.out]; exact Kd.R_set hr8 hx8 (by decide) 2 _, hb8.setCell (p := ⟨RX, 2, none⟩) (by have := HRr.out.1; show w.heap.size ≤ RX; omega) _⟩
          have g8 : w8.cell? ⟨RX, 2, none⟩ = some ev := by rw [cellB hx8]; rfl
          have z8 : w8.frozen? ⟨RX, 2, none⟩ = false := frozenB hx8 2
          clear hr8 hb8 hg8 hat8 hx8 k7 k8 k9 f0 f1 f2 f3 f4 f5 f6 f7 g2
          go_wp2_with fail
          go_roundw
          case rel => exact ⟨j + 1, by go_num, by omega, _, H9.out⟩
          case measure => simp [intOf]; omega
        · obtain rfl : j = m := by omega
          have htk : (o.f2.take j).map cvE = o.f2.map cvE := by rw [List.take_of_length_le (by rw [hm.out.1]; exact Nat.le_refl _)]
          obtain ⟨A8, c8, e8, hc8, hC8⟩ := Kd.R_reads HW.out.2.2.2.2.2.1
          have hT8 : TAt k94 94 wr A8 (o.f2.map cvE) := by
            obtain ⟨A9, c9, e9, _, hT⟩ := TAt.of_R HW.out.2.2.2.2.2.1
            rw [e8] at e9
            obtain ⟨rfl, _, _⟩ := Value.slice.inj e9
            rw [htk] at hT; exact hT
          have hel : (o.f2.map cvE).length = j := by rw [List.length_map, hm.out.1]
          rw [htk, hel] at e8
          subst e8
          have H8 : Hid (wr.heap[R]? = some (.cells #[.int .u64 o.f0, .slice A i cA, .slice E j cE, .int .u64 o.f3.f0, .bool o.f3.f1, .int .u64 o.f4.f0, .bool o.f4.f1, .int .u64 o.f5.f0, .bool o.f5.f1] 51 (0, 0)) ∧ wr.heap[R1]? = some (xC 0 (.slice none 0 0) (.slice none 0 0) 0 false 0 false 0 false) ∧ wr.heap[RX]? = some (xC o.f0 (.slice A7 i c7) (.slice A8 j c8) 0 false 0 false 0 false) ∧ TAt (Kd.raw 10) 70 wr A7 rows ∧ RowsAt w wr (o.f1.map cvR) rows ∧ TAt k94 94 wr A8 (o.f2.map cvE) ∧ Below w.heap.size w wr) := ⟨HW.out.1, HW.out.2.1, HW.out.2.2.1, HW.out.2.2.2.1, HW.out.2.2.2.2.1, hT8, HW.out.2.2.2.2.2.2⟩
          clear htk hc8 hC8 hT8 hel HW
          go_wp2_with fail
          clear c2
          obtain ⟨wo, hwo⟩ : ∃ wo, wo = wr := ⟨_, rfl⟩
          subst hwo
          go_loopw [11] (fun qv wr => ∃ q : Nat, qv = .int .i64 q ∧ q ≤ 3 ∧ Hid (FB o w R R1 RX (.cells #[.int .u64 o.f0, .slice A i cA, .slice E j cE, .int .u64 o.f3.f0, .bool o.f3.f1, .int .u64 o.f4.f0, .bool o.f4.f1, .int .u64 o.f5.f0, .bool o.f5.f1] 51 (0, 0)) (xC 0 (.slice none 0 0) (.slice none 0 0) 0 false 0 false 0 false) A7 A8 rows (fX o (.slice A7 i c7) (.slice A8 j c8) q) wr)) (fun qv _ => 3 - (intOf qv).toNat)
          case atStart => exact ⟨0, rfl, Nat.zero_le _, H8.out⟩
          case round =>
            obtain ⟨q, rfl, hq, HF⟩ := hrel
            have b3 : wr.cell? ⟨R, 3, none⟩ = some (.int .u64 o.f3.f0) := by rw [cellB HF.out.1]; rfl
            have b4 : wr.cell? ⟨R, 4, none⟩ = some (.bool o.f3.f1) := by rw [cellB HF.out.1]; rfl
            have b5 : wr.cell? ⟨R, 5, none⟩ = some (.int .u64 o.f4.f0) := by rw [cellB HF.out.1]; rfl
            have b6 : wr.cell? ⟨R, 6, none⟩ = some (.bool o.f4.f1) := by rw [cellB HF.out.1]; rfl
            have b7 : wr.cell? ⟨R, 7, none⟩ = some (.int .u64 o.f5.f0) := by rw [cellB HF.out.1]; rfl
            have b8 : wr.cell? ⟨R, 8, none⟩ = some (.bool o.f5.f1) := by rw [cellB HF.out.1]; rfl
            rcases (by omega : q = 0 ∨ q = 1 ∨ q = 2 ∨ q = 3) with rfl | rfl | rfl | rfl
            · have hki : ((0 : Nat) : Int) < 3 := by omega
              have hx := HF.out.2.2.1
              simp only [fX, xC] at hx
              have p1 : wr.cell? ⟨RX, 3, none⟩ = some (.int .u64 0) := by rw [cellB hx]; rfl
              have p2 : wr.cell? ⟨RX, 4, none⟩ = some (.bool false) := by rw [cellB hx]; rfl
              have z1 : wr.frozen? ⟨RX, 3, none⟩ = false := frozenB hx _
              have z2 : wr.frozen? ⟨RX, 4, none⟩ = false := frozenB hx _
              clear hx
              have hq := HF.out.set (by have := HRr.out.2; omega) (by have := HRr.out.2.2; omega) (by have := HRr.out; omega) 3 (.int .u64 o.f3.f0)
              have hq2 : FB o w R R1 RX (.cells #[.int .u64 o.f0, .slice A i cA, .slice E j cE, .int .u64 o.f3.f0, .bool o.f3.f1, .int .u64 o.f4.f0, .bool o.f4.f1, .int .u64 o.f5.f0, .bool o.f5.f1] 51 (0, 0)) (xC 0 (.slice none 0 0) (.slice none 0 0) 0 false 0 false 0 false) A7 A8 rows (fX o (.slice A7 i c7) (.slice A8 j c8) 1) ((wr.setCell ⟨RX, 3, none⟩ (.int .u64 o.f3.f0)).setCell ⟨RX, 4, none⟩ (.bool o.f3.f1)) := hq.set (by have := HRr.out.2; omega) (by have := HRr.out.2.2; omega) (by have := HRr.out; omega) 4 (.bool o.f3.f1)
              have HQ := Lib.hid hq2; clear hq hq2
              go_wp2_with fail
              go_roundw
              case rel => exact ⟨1, by go_num, by omega, HQ.out⟩
              case measure => simp [intOf]
            · have hki : ((1 : Nat) : Int) < 3 := by omega
              have hx := HF.out.2.2.1
              simp only [fX, xC] at hx
              have p1 : wr.cell? ⟨RX, 5, none⟩ = some (.int .u64 0) := by rw [cellB hx]; rfl
              have p2 : wr.cell? ⟨RX, 6, none⟩ = some (.bool false) := by rw [cellB hx]; rfl
              have z1 : wr.frozen? ⟨RX, 5, none⟩ = false := frozenB hx _
              have z2 : wr.frozen? ⟨RX, 6, none⟩ = false := frozenB hx _
              clear hx
              have hq := HF.out.set (by have := HRr.out.2; omega) (by have := HRr.out.2.2; omega) (by have := HRr.out; omega) 5 (.int .u64 o.f4.f0)
              have hq2 : FB o w R R1 RX (.cells #[.int .u64 o.f0, .slice A i cA, .slice E j cE, .int .u64 o.f3.f0, .bool o.f3.f1, .int .u64 o.f4.f0, .bool o.f4.f1, .int .u64 o.f5.f0, .bool o.f5.f1] 51 (0, 0)) (xC 0 (.slice none 0 0) (.slice none 0 0) 0 false 0 false 0 false) A7 A8 rows (fX o (.slice A7 i c7) (.slice A8 j c8) 2) ((wr.setCell ⟨RX, 5, none⟩ (.int .u64 o.f4.f0)).setCell ⟨RX, 6, none⟩ (.bool o.f4.f1)) := hq.set (by have := HRr.out.2; omega) (by have := HRr.out.2.2; omega) (by have := HRr.out; omega) 6 (.bool o.f4.f1)
              have HQ := Lib.hid hq2; clear hq hq2
              go_wp2_with fail
              go_roundw
              case rel => exact ⟨2, by go_num, by omega, HQ.out⟩
              case measure => simp [intOf]
            · have hki : ((2 : Nat) : Int) < 3 := by omega
              have hx := HF.out.2.2.1
              simp only [fX, xC] at hx
              have p1 : wr.cell? ⟨RX, 7, none⟩ = some (.int .u64 0) := by rw [cellB hx]; rfl
              have p2 : wr.cell? ⟨RX, 8, none⟩ = some (.bool false) := by rw [cellB hx]; rfl
              have z1 : wr.frozen? ⟨RX, 7, none⟩ = false := frozenB hx _
              have z2 : wr.frozen? ⟨RX, 8, none⟩ = false := frozenB hx _
              clear hx
              have hq := HF.out.set (by have := HRr.out.2; omega) (by have := HRr.out.2.2; omega) (by have := HRr.out; omega) 7 (.int .u64 o.f5.f0)
              have hq2 : FB o w R R1 RX (.cells #[.int .u64 o.f0, .slice A i cA, .slice E j cE, .int .u64 o.f3.f0, .bool o.f3.f1, .int .u64 o.f4.f0, .bool o.f4.f1, .int .u64 o.f5.f0, .bool o.f5.f1] 51 (0, 0)) (xC 0 (.slice none 0 0) (.slice none 0 0) 0 false 0 false 0 false) A7 A8 rows (fX o (.slice A7 i c7) (.slice A8 j c8) 3) ((wr.setCell ⟨RX, 7, none⟩ (.int .u64 o.f5.f0)).setCell ⟨RX, 8, none⟩ (.bool o.f5.f1)) := hq.set (by have := HRr.out.2; omega) (by have := HRr.out.2.2; omega) (by have := HRr.out; omega) 8 (.bool o.f5.f1)
              have HQ := Lib.hid hq2; clear hq hq2
              go_wp2_with fail
              go_roundw
              case rel => exact ⟨3, by go_num, by omega, HQ.out⟩
              case measure => simp [intOf]
            · have hki : ¬ (((3 : Nat) : Int) < 3) := by omega
              clear b3 b4 b5 b6 b7 b8
              have hx := HF.out.2.2.1
              simp only [fX, xC] at hx
              have y0 : wr.cell? ⟨RX, 0, none⟩ = some (.int .u64 o.f0) := by rw [cellB hx]; rfl
              have y1 : wr.cell? ⟨RX, 1, none⟩ = some (.slice A7 i c7) := by rw [cellB hx]; rfl
              have y2 : wr.cell? ⟨RX, 2, none⟩ = some (.slice A8 j c8) := by rw [cellB hx]; rfl
              have y3 : wr.cell? ⟨RX, 3, none⟩ = some (.int .u64 o.f3.f0) := by rw [cellB hx]; rfl
              have y4 : wr.cell? ⟨RX, 4, none⟩ = some (.bool o.f3.f1) := by rw [cellB hx]; rfl
              have y5 : wr.cell? ⟨RX, 5, none⟩ = some (.int .u64 o.f4.f0) := by rw [cellB hx]; rfl
              have y6 : wr.cell? ⟨RX, 6, none⟩ = some (.bool o.f4.f1) := by rw [cellB hx]; rfl
              have y7 : wr.cell? ⟨RX, 7, none⟩ = some (.int .u64 o.f5.f0) := by rw [cellB hx]; rfl
              have y8 : wr.cell? ⟨RX, 8, none⟩ = some (.bool o.f5.f1) := by rw [cellB hx]; rfl
              clear hx
              have hz := HF.out.2.1
              simp only [xC] at hz
              have r0 : wr.cell? ⟨R1, 0, none⟩ = some (.int .u64 0) := by rw [cellB hz]; rfl
              have r1 : wr.cell? ⟨R1, 1, none⟩ = some (.slice none 0 0) := by rw [cellB hz]; rfl
              have r2 : wr.cell? ⟨R1, 2, none⟩ = some (.slice none 0 0) := by rw [cellB hz]; rfl
              have r3 : wr.cell? ⟨R1, 3, none⟩ = some (.int .u64 0) := by rw [cellB hz]; rfl
              have r4 : wr.cell? ⟨R1, 4, none⟩ = some (.bool false) := by rw [cellB hz]; rfl
              have r5 : wr.cell? ⟨R1, 5, none⟩ = some (.int .u64 0) := by rw [cellB hz]; rfl
              have r6 : wr.cell? ⟨R1, 6, none⟩ = some (.bool false) := by rw [cellB hz]; rfl
              have r7 : wr.cell? ⟨R1, 7, none⟩ = some (.int .u64 0) := by rw [cellB hz]; rfl
              have r8 : wr.cell? ⟨R1, 8, none⟩ = some (.bool false) := by rw [cellB hz]; rfl
              have z0 : wr.frozen? ⟨R1, 0, none⟩ = false := frozenB hz _
              have z1 : wr.frozen? ⟨R1, 1, none⟩ = false := frozenB hz _
              have z2 : wr.frozen? ⟨R1, 2, none⟩ = false := frozenB hz _
              have z3 : wr.frozen? ⟨R1, 3, none⟩ = false := frozenB hz _
              have z4 : wr.frozen? ⟨R1, 4, none⟩ = false := frozenB hz _
              have z5 : wr.frozen? ⟨R1, 5, none⟩ = false := frozenB hz _
              have z6 : wr.frozen? ⟨R1, 6, none⟩ = false := frozenB hz _
              have z7 : wr.frozen? ⟨R1, 7, none⟩ = false := frozenB hz _
              have z8 : wr.frozen? ⟨R1, 8, none⟩ = false := frozenB hz _
              clear hz
              have n1 : R ≠ R1 := by have := HRr.out.2.1; omega
              have n2 : RX ≠ R1 := by have := HRr.out.2.2; omega
              have n3 : w.heap.size ≤ R1 := by have := HRr.out; omega
              have s0 := FB.set1 HF.out n1 n2 n3 0 (.int .u64 o.f0)
              have s1 := FB.set1 s0 n1 n2 n3 1 (.slice A7 i c7)
              have s2 := FB.set1 s1 n1 n2 n3 2 (.slice A8 j c8)
              have s3 := FB.set1 s2 n1 n2 n3 3 (.int .u64 o.f3.f0)
              have s4 := FB.set1 s3 n1 n2 n3 4 (.bool o.f3.f1)
              have s5 := FB.set1 s4 n1 n2 n3 5 (.int .u64 o.f4.f0)
              have s6 := FB.set1 s5 n1 n2 n3 6 (.bool o.f4.f1)
              have s7 := FB.set1 s6 n1 n2 n3 7 (.int .u64 o.f5.f0)
              have s8 := FB.set1 s7 n1 n2 n3 8 (.bool o.f5.f1)
              obtain ⟨wf, hwf⟩ : ∃ wf, Hid ((((((((((wr.setCell ⟨R1, 0, none⟩ (.int .u64 o.f0)).setCell ⟨R1, 1, none⟩ (.slice A7 i c7)).setCell ⟨R1, 2, none⟩ (.slice A8 j c8)).setCell ⟨R1, 3, none⟩ (.int .u64 o.f3.f0)).setCell ⟨R1, 4, none⟩ (.bool o.f3.f1)).setCell ⟨R1, 5, none⟩ (.int .u64 o.f4.f0)).setCell ⟨R1, 6, none⟩ (.bool o.f4.f1)).setCell ⟨R1, 7, none⟩ (.int .u64 o.f5.f0)).setCell ⟨R1, 8, none⟩ (.bool o.f5.f1)) = wf) := ⟨_, Lib.hid rfl⟩
              have hF : FB o w R R1 RX (.cells #[.int .u64 o.f0, .slice A i cA, .slice E j cE, .int .u64 o.f3.f0, .bool o.f3.f1, .int .u64 o.f4.f0, .bool o.f4.f1, .int .u64 o.f5.f0, .bool o.f5.f1] 51 (0, 0)) (xC o.f0 (.slice A7 i c7) (.slice A8 j c8) o.f3.f0 o.f3.f1 o.f4.f0 o.f4.f1 o.f5.f0 o.f5.f1) A7 A8 rows (fX o (.slice A7 i c7) (.slice A8 j c8) 3) wf := by rw [← hwf.out]; exact s8
              have HE9 := Lib.hid hF
              clear n1 n2 n3 s0 s1 s2 s3 s4 s5 s6 s7 s8 hF
              go_wp2_with fail
              rw [hwf.out]
              have hz := HE9.out.2.1
              simp only [xC] at hz
              have r0 : wf.cell? ⟨R1, 0, none⟩ = some (.int .u64 o.f0) := by rw [cellB hz]; rfl
              have r1 : wf.cell? ⟨R1, 1, none⟩ = some (.slice A7 i c7) := by rw [cellB hz]; rfl
              have r2 : wf.cell? ⟨R1, 2, none⟩ = some (.slice A8 j c8) := by rw [cellB hz]; rfl
              have r3 : wf.cell? ⟨R1, 3, none⟩ = some (.int .u64 o.f3.f0) := by rw [cellB hz]; rfl
              have r4 : wf.cell? ⟨R1, 4, none⟩ = some (.bool o.f3.f1) := by rw [cellB hz]; rfl
              have r5 : wf.cell? ⟨R1, 5, none⟩ = some (.int .u64 o.f4.f0) := by rw [cellB hz]; rfl
              have r6 : wf.cell? ⟨R1, 6, none⟩ = some (.bool o.f4.f1) := by rw [cellB hz]; rfl
              have r7 : wf.cell? ⟨R1, 7, none⟩ = some (.int .u64 o.f5.f0) := by rw [cellB hz]; rfl
              have r8 : wf.cell? ⟨R1, 8, none⟩ = some (.bool o.f5.f1) := by rw [cellB hz]; rfl
              refine bodyPost_ret (v := .agg #[.int .u64 o.f0, .slice A7 i c7, .slice A8 j c8, .int .u64 o.f3.f0, .bool o.f3.f1, .int .u64 o.f4.f0, .bool o.f4.f1, .int .u64 o.f5.f0, .bool o.f5.f1]) (by simp [results, Tryd.results16, go_sem, r0, r1, r2, r3, r4, r5, r6, r7, r8]; try rfl) rfl ?_
              rw [← hP.out]
              have hcr : (Kd.raw 10).C wf A7 i rows := by have h := HE9.out.2.2.2.1.1; rw [HRL.out] at h; exact h
              have hce : Kd.C k94 wf A8 o.f2.length (o.f2.map cvE) := by have h := HE9.out.2.2.2.2.2.1.1; rw [List.length_map] at h; exact h
              exact ⟨A7, c7, A8, c8, by rw [hn.out.1, hm.out.1], by rw [hn.out.1]; exact rows_C hcr HE9.out.2.2.2.2.1 HE9.out.2.2.2.2.2.2, hce, HE9.out.2.2.2.2.2.2⟩
end Go.Proofs.YtdbmcikoiilanaaDoor.Xp
set_option linter.unusedVariables false
set_option linter.unusedSimpArgs false
namespace Go.Proofs.YtdbmcikoiilanaaDoor.Xp
open Go.RowKit Go.Proofs.YtdbmcikoiilanaaDoor.B0 Go.Proofs.YtdbmcikoiilanaaDoorW.PrintWords Go.Proofs.YtdbmcikoiilanaaDoor.Bld Go.Proofs.YtdbmcikoiilanaaDoor.Pp Go.Proofs.YtdbmcikoiilanaaDoor.Kn Go.Proofs.YtdbmcikoiilanaaDoor.Ko

set_option maxHeartbeats 4000000 in
set_option maxRecDepth 100000 in
theorem Out_c (w : World) (hP : LP w) (o : ROut) (h : NOk o) (A : Option Addr) (cA : Nat) (E : Option Addr) (cE : Nat)
    (hA : Kd.C k70 w A o.f1.length (o.f1.map cvR)) (hE : Kd.C k94 w E o.f2.length (o.f2.map cvE)) :
    Calls Tryd.prog 17 #[.agg #[.int .u64 o.f0, .slice A o.f1.length cA, .slice E o.f2.length cE, .int .u64 o.f3.f0, .bool o.f3.f1, .int .u64 o.f4.f0, .bool o.f4.f1, .int .u64 o.f5.f0, .bool o.f5.f1]] w fun e w' =>
      e = .returned (strV (printP ((xO o).map lnM))) ∧ Below w.heap.size w w' := by
  have HP := Lib.hid hP; clear hP
  have HO := Lib.hid h; clear h
  obtain ⟨n, hn⟩ : ∃ n, Hid (o.f1.length = n) := ⟨_, Lib.hid rfl⟩
  obtain ⟨m, hm⟩ : ∃ m, Hid (o.f2.length = m) := ⟨_, Lib.hid rfl⟩
  obtain ⟨S, hS⟩ : ∃ S, Hid (strV (printP ((xO o).map lnM)) = S) := ⟨_, Lib.hid rfl⟩
  rw [hS.out]
  obtain ⟨R, hR⟩ : ∃ R, Hid (w.heap.size = R) := ⟨_, Lib.hid rfl⟩
  rw [hn.out] at hA ⊢
  rw [hm.out] at hE ⊢
  obtain ⟨w1, hw1⟩ : ∃ w1, Hid (w.alloc (.cells #[.int .u64 o.f0, .slice A n cA, .slice E m cE, .int .u64 o.f3.f0, .bool o.f3.f1, .int .u64 o.f4.f0, .bool o.f4.f1, .int .u64 o.f5.f0, .bool o.f5.f1] 64) = w1) := ⟨_, Lib.hid rfl⟩
  have h1 : w1.heap[R]? = some (.cells #[.int .u64 o.f0, .slice A n cA, .slice E m cE, .int .u64 o.f3.f0, .bool o.f3.f1, .int .u64 o.f4.f0, .bool o.f4.f1, .int .u64 o.f5.f0, .bool o.f5.f1] 64 (0, 0)) := by rw [← hw1.out, ← hR.out]; exact allocN _ _
  have HB1 : Hid (Below w.heap.size w w1) := by rw [← hw1.out]; exact (Below.refl _ _).alloc (Nat.le_refl _) _
  have c0 : w1.cell? ⟨R, 0, none⟩ = some (.int .u64 o.f0) := by rw [cellB h1]; rfl
  have c1 : w1.cell? ⟨R, 1, none⟩ = some (.slice A n cA) := by rw [cellB h1]; rfl
  have c2 : w1.cell? ⟨R, 2, none⟩ = some (.slice E m cE) := by rw [cellB h1]; rfl
  have c3 : w1.cell? ⟨R, 3, none⟩ = some (.int .u64 o.f3.f0) := by rw [cellB h1]; rfl
  have c4 : w1.cell? ⟨R, 4, none⟩ = some (.bool o.f3.f1) := by rw [cellB h1]; rfl
  have c5 : w1.cell? ⟨R, 5, none⟩ = some (.int .u64 o.f4.f0) := by rw [cellB h1]; rfl
  have c6 : w1.cell? ⟨R, 6, none⟩ = some (.bool o.f4.f1) := by rw [cellB h1]; rfl
  have c7 : w1.cell? ⟨R, 7, none⟩ = some (.int .u64 o.f5.f0) := by rw [cellB h1]; rfl
  have c8 : w1.cell? ⟨R, 8, none⟩ = some (.bool o.f5.f1) := by rw [cellB h1]; rfl
  have HLN : Hid (Calls Tryd.prog 15 #[.agg #[.int .u64 o.f0, .slice A n cA, .slice E m cE, .int .u64 o.f3.f0, .bool o.f3.f1, .int .u64 o.f4.f0, .bool o.f4.f1, .int .u64 o.f5.f0, .bool o.f5.f1]] w1 fun e w' =>
      ∃ v, e = .returned v ∧ LW w' w1.heap.size v (xO o) ∧ Below w1.heap.size w1 w') := by
    have hl1 : (o.f1.map cvR).length = n := by rw [List.length_map]; exact hn.out
    have hl2 : (o.f2.map cvE).length = m := by rw [List.length_map]; exact hm.out
    have h := Lines_c w1 (HP.out.below HB1.out) o.f0 A cA (o.f1.map cvR) E cE (o.f2.map cvE) o.f3.f0 o.f4.f0 o.f5.f0 o.f3.f1 o.f4.f1 o.f5.f1 (by rw [hl1]; exact Kd.C_below hA HB1.out) (by rw [hl2]; exact Kd.C_below hE HB1.out) (by rw [hl1, ← hn.out]; have := HO.out.ok.1; omega) (by rw [hl2, ← hm.out]; have := HO.out.ok.2.1; omega) (fun r hr => by
      obtain ⟨q, hq, rfl⟩ := List.mem_map.1 hr
      have := HO.out.ok.2.2 q hq
      exact ⟨by show q.f0.length ≤ 1000; omega, by show (q.f5.map cvC).length ≤ 1000; rw [List.length_map]; omega⟩)
    rw [hl1, hl2] at h; exact h
  clear h1 hA hE
  go_enter Tryd.func17, Tryd.ntmps17
  go_upto_region 1 with fail
  rw [hw1.out, hR.out]
  go_wp2_with fail
  refine HLN.out.mono ?_
  rintro e w2 ⟨v2, rfl, hS2, hb2⟩
  obtain ⟨A2, k2, e2, hc2, hC2⟩ := hS2.reads
  obtain ⟨N, hN⟩ : ∃ N, Hid ((xO o).length = N) := ⟨_, Lib.hid rfl⟩
  rw [hN.out] at e2
  subst e2
  have HB2 : Hid (Below w.heap.size w w2) := HB1.out.trans (hb2.mono HB1.out.size)
  have HPR := Lib.hid (Print_c w2 (HP.out.below HB2.out) A2 k2 (xO o) hC2 (xO_v HO.out) (by have := xO_size HO.out; omega))
  rw [hN.out, hS.out] at HPR
  clear hS2 hb2 hc2 hC2 HLN c0 c1 c2 c3 c4 c5 c6 c7 c8
  go_wp2_with fail
  refine HPR.out.mono ?_
  rintro e w3 ⟨rfl, hb3⟩
  have HB3 : Hid (Below w.heap.size w w3) := HB2.out.trans (hb3.mono HB2.out.size)
  clear hb3 HPR
  go_wp2_with fail
  go_ret
  exact ⟨rfl, HB3.out⟩
end Go.Proofs.YtdbmcikoiilanaaDoor.Xp
set_option linter.unusedVariables false
set_option linter.unusedSimpArgs false
namespace Go.Proofs.YtdbmcikoiilanaaDoor.expoNames
open Go.RowKit Go.Proofs.YtdbmcikoiilanaaDoor.B0 Go.Proofs.YtdbmcikoiilanaaDoor.Pp Go.Proofs.YtdbmcikoiilanaaDoorW.PrintWords Go.Proofs.YtdbmcikoiilanaaDoorW.PrintLast Go.Proofs.YtdbmcikoiilanaaDoor.Bld Go.Proofs.YtdbmcikoiilanaaDoor.Xp Go.Proofs.YtdbmcikoiilanaaDoor.Kn Go.Proofs.YtdbmcikoiilanaaDoor.Ko

set_option maxHeartbeats 8000000 in
set_option maxRecDepth 100000 in
theorem expoNames_walk (w : World) (hP : LP w) (o : ROut) (cs : Array Value) (K : k51.K w o cs.toList) (hW : Ob.WB51 o) :
    Calls Tryd.prog 6 #[.agg cs] w fun e w' => e = .returned (.bool true) ∧ Below w.heap.size w w' := by
  have HL := Lib.hid hP; clear hP
  obtain ⟨A, cA, E, cE, eK, ⟨hcA, hA⟩, ⟨hcE, hE⟩⟩ := k51_open K
  obtain rfl : cs = #[.int .u64 o.f0, .slice A o.f1.length cA, .slice E o.f2.length cE, .int .u64 o.f3.f0, .bool o.f3.f1, .int .u64 o.f4.f0, .bool o.f4.f1, .int .u64 o.f5.f0, .bool o.f5.f1] := by cases cs; simpa using eK
  have HW := Lib.hid hW
  have HA0 := Lib.hid hA; have HE0 := Lib.hid hE
  clear K eK hW hcA hcE hA hE
  obtain ⟨n, hn⟩ : ∃ n, Hid (o.f1.length = n) := ⟨_, Lib.hid rfl⟩
  obtain ⟨m, hm⟩ : ∃ m, Hid (o.f2.length = m) := ⟨_, Lib.hid rfl⟩
  rw [hn.out, hm.out]
  obtain ⟨R, hR⟩ : ∃ R, Hid (w.heap.size = R) := ⟨_, Lib.hid rfl⟩
  obtain ⟨w1, hw1⟩ : ∃ w1, Hid (w.alloc (.cells #[.int .u64 o.f0, .slice A n cA, .slice E m cE, .int .u64 o.f3.f0, .bool o.f3.f1, .int .u64 o.f4.f0, .bool o.f4.f1, .int .u64 o.f5.f0, .bool o.f5.f1] 51) = w1) := ⟨_, Lib.hid rfl⟩
  have H1 : Hid (w1.heap[R]? = some (.cells #[.int .u64 o.f0, .slice A n cA, .slice E m cE, .int .u64 o.f3.f0, .bool o.f3.f1, .int .u64 o.f4.f0, .bool o.f4.f1, .int .u64 o.f5.f0, .bool o.f5.f1] 51 (0, 0)) ∧ Below w.heap.size w w1) := ⟨by rw [← hw1.out, ← hR.out]; exact allocN _ _, by rw [← hw1.out]; exact (Below.refl _ _).alloc (Nat.le_refl _) _⟩
  have EC : Hid (∀ w', Below w1.heap.size w1 w' → w'.cell? ⟨R, 0, none⟩ = some (.int .u64 o.f0) ∧ w'.cell? ⟨R, 1, none⟩ = some (.slice A n cA) ∧ w'.cell? ⟨R, 2, none⟩ = some (.slice E m cE) ∧ w'.cell? ⟨R, 3, none⟩ = some (.int .u64 o.f3.f0) ∧ w'.cell? ⟨R, 4, none⟩ = some (.bool o.f3.f1) ∧ w'.cell? ⟨R, 5, none⟩ = some (.int .u64 o.f4.f0) ∧ w'.cell? ⟨R, 6, none⟩ = some (.bool o.f4.f1) ∧ w'.cell? ⟨R, 7, none⟩ = some (.int .u64 o.f5.f0) ∧ w'.cell? ⟨R, 8, none⟩ = some (.bool o.f5.f1)) := fun w' hb => by
    have h := (hb.block R (lt_of_get H1.out.1)).trans H1.out.1
    exact ⟨by rw [cellB h]; rfl, by rw [cellB h]; rfl, by rw [cellB h]; rfl, by rw [cellB h]; rfl, by rw [cellB h]; rfl, by rw [cellB h]; rfl, by rw [cellB h]; rfl, by rw [cellB h]; rfl, by rw [cellB h]; rfl⟩
  have HAn : Hid (Kd.C k57 w A n o.f1) := by rw [← hn.out]; exact HA0.out
  have BW : Hid (∀ W, Below w1.heap.size w1 W → Below w.heap.size w W) := fun W hb => H1.out.2.trans (hb.mono H1.out.2.size)
  have hal := Lib.hid (alive_c w1 (HL.out.below H1.out.2))
  go_enter Tryd.func6, Tryd.ntmps6
  go_upto_region 1 with fail
  rw [hw1.out, hR.out]
  go_wp2_with fail
  refine hal.out.mono ?_
  rintro e w2 ⟨rfl, hb2⟩
  have HB2 := Lib.hid hb2; clear hb2 hal
  have HRT : Hid (Calls Tryd.prog 14 #[.agg #[.int .u64 o.f0, .slice A n cA, .slice E m cE, .int .u64 o.f3.f0, .bool o.f3.f1, .int .u64 o.f4.f0, .bool o.f4.f1, .int .u64 o.f5.f0, .bool o.f5.f1]] w2 (BPost (okO o) w2)) := by
    have h := Right_c w2 o A cA E cE (Kd.C_below HA0.out (BW.out w2 HB2.out)) (Kd.C_below HE0.out (BW.out w2 HB2.out))
    rw [hn.out, hm.out] at h; exact h
  obtain ⟨c0, c1, c2, c3, c4, c5, c6, c7, c8⟩ := EC.out w2 HB2.out
  go_wp2_with fail
  refine HRT.out.mono ?_
  rintro e w3 ⟨rb, rfl, hrb, hb3⟩
  have HB3 : Hid (Below w1.heap.size w1 w3) := HB2.out.trans (hb3.mono HB2.out.size)
  clear hb3 HRT c0 c1 c2 c3 c4 c5 c6 c7 c8
  cases rb
  · go_wp2_with fail
    go_ret
    exact ⟨rfl, BW.out w3 HB3.out⟩
  have HOK := Lib.hid (hrb rfl); clear hrb
  have hn12 : n ≤ 12 := by rw [← hn.out]; exact HOK.out.1
  have hm12 : m ≤ 12 := by rw [← hm.out]; exact HOK.out.2.1
  obtain ⟨c0, c1, c2, c3, c4, c5, c6, c7, c8⟩ := EC.out w3 HB3.out
  go_wp2_with fail
  clear c0 c1 c2 c3 c4 c5 c6 c7 c8
  obtain ⟨wo, hwo⟩ : ∃ wo, wo = w3 := ⟨_, rfl⟩
  go_loopw [4, 3] (fun iv nv wr => ∃ (i q : Nat), iv = .int .i64 i ∧ nv = .int .i64 q ∧ i ≤ n ∧ q = 4 + 3 * n + 3 * m + bsum o i ∧ Hid (bsum o i ≤ 40 * i ∧ Below w1.heap.size w1 wr ∧ ∀ (j : Nat) (r : RRow), j < i → o.f1[j]? = some r → ∀ s ∈ r.f0, s.size ≤ 300)) (fun iv _ _ => n - (intOf iv).toNat)
  case atStart => exact ⟨0, 4 + 3 * n + 3 * m, rfl, by first | rfl | (congr 1; push_cast; omega) | (congr 1; omega), Nat.zero_le _, rfl, Nat.le_refl _, HB3.out, fun j r h => absurd h (Nat.not_lt_zero _)⟩
  case round =>
    obtain ⟨i, q, rfl, rfl, hi, hq, HX⟩ := hrel
    have HQ := Lib.hid hq; clear hq
    have hqb : q ≤ 600 := by have h1 := HQ.out; have h2 := HX.out.1; omega
    obtain ⟨c0, c1, c2, _, _, _, _, _, _⟩ := EC.out wr HX.out.2.1
    clear c0
    by_cases hlt : i < n
    · have hki : (i : Int) < (n : Int) := by omega
      have hilt : i < o.f1.length := by rw [hn.out]; exact hlt
      obtain ⟨ad, rfl, A0, a0, A1, a1, A2, a2, d0, d1, d2, d3, d4, d5, d6, d7, d8, d9, ⟨_, hC0⟩, _, _⟩ := at_T57 HAn.out i (by omega) hki
      obtain ⟨r, hr⟩ : ∃ r, Hid (rd_T57 o.f1 i = r ∧ o.f1[i]? = some r ∧ bsum o (i + 1) = bsum o i + r.f5.length ∧ r.f0.length ≤ 20 ∧ r.f5.length ≤ 40) := ⟨_, rfl, by rw [rdRR_at _ _ hilt, List.getElem?_eq_getElem hilt], by rw [rdRR_at _ _ hilt]; exact bsum_succ o i hilt, by rw [rdRR_at _ _ hilt]; have := HOK.out.2.2 _ (List.getElem_mem hilt); exact ⟨this.1, this.2.1⟩⟩
      rw [hr.out.1] at d0 d8 hC0
      rw [show ((i : Int)).toNat = i from by omega] at d0 d8
      obtain ⟨l0, hl0⟩ : ∃ l0, Hid (r.f0.length = l0 ∧ l0 ≤ 20) := ⟨_, rfl, hr.out.2.2.2.1⟩
      obtain ⟨l5, hl5⟩ : ∃ l5, Hid (r.f5.length = l5 ∧ l5 ≤ 40) := ⟨_, rfl, hr.out.2.2.2.2⟩
      rw [hl0.out.1] at d0 hC0
      rw [hl5.out.1] at d8
      have HC0 := Lib.hid hC0
      have hl5b := hl5.out.2
      have hl0b := hl0.out.2
      have HD : Hid (∀ W, Below w1.heap.size w1 W → W.cell? (ad.add (i * 10)) = some (.slice A0 l0 a0) ∧ W.cell? ⟨(ad.add (i * 10)).block, (ad.add (i * 10)).off + 8, none⟩ = some (.slice A1 l5 a1)) := fun W hb => ⟨pw_cell_below (BW.out W hb) d0, pw_cell_below (BW.out W hb) d8⟩
      clear d0 d1 d2 d3 d4 d5 d6 d7 d8 d9 hC0
      obtain ⟨q0, q8⟩ := HD.out wr HX.out.2.1
      go_wp2_with fail
      clear q0 q8 c1 c2
      obtain ⟨wo2, hwo2⟩ : ∃ wo2, wo2 = wr := ⟨_, rfl⟩
      subst hwo2
      go_loopw [5] (fun kv wx => ∃ k : Nat, kv = .int .i64 k ∧ k ≤ l0 ∧ Hid (Below w1.heap.size w1 wx ∧ ∀ (j : Nat) (s : ByteArray), j < k → r.f0[j]? = some s → s.size ≤ 300)) (fun kv _ => l0 - (intOf kv).toNat)
      case atStart => exact ⟨0, rfl, Nat.zero_le _, HX.out.2.1, fun j s h => absurd h (Nat.not_lt_zero _)⟩
      case round =>
        obtain ⟨k, rfl, hk, HK⟩ := hrel
        obtain ⟨_, c1, c2, _, _, _, _, _, _⟩ := EC.out wr HK.out.1
        obtain ⟨q0, q8⟩ := HD.out wr HK.out.1
        by_cases hltk : k < l0
        · have hkk : (k : Int) < (l0 : Int) := by omega
          obtain ⟨ad2, rfl, d0⟩ := Kd.at_string (Kd.C_below HC0.out (BW.out wr HK.out.1)) k (by omega) (by omega)
          have hklt : k < r.f0.length := by rw [hl0.out.1]; exact hltk
          obtain ⟨s, hs⟩ : ∃ s, Hid (rdOf ByteArray.empty r.f0 (k : Int) = s ∧ r.f0[k]? = some s) := ⟨_, rfl, by unfold rdOf; rw [show ((k : Int)).toNat = k from by omega, List.getD_eq_getElem?_getD, List.getElem?_eq_getElem hklt]; rfl⟩
          rw [hs.out.1, show ((k : Int)).toNat = k from by omega] at d0
          by_cases h9 : s.size > 300
          · have hr1 : decide ((300 : Int) < (s.size : Int)) = true := decide_eq_true (by omega)
            have hr2 : decide (300 < s.size) = true := decide_eq_true (by omega)
            go_wp2_with fail
            go_ret
            exact ⟨rfl, BW.out wr HK.out.1⟩
          · have hr1 : decide ((300 : Int) < (s.size : Int)) = false := decide_eq_false (by omega)
            have hr2 : decide (300 < s.size) = false := decide_eq_false (by omega)
            have HSZ : Hid (s.size ≤ 300) := by show _ ≤ _; omega
            go_wp2_with fail
            go_roundw
            case rel =>
              refine ⟨k + 1, by go_num, by omega, HK.out.1, fun j z hj hz => ?_⟩
              rcases Nat.lt_or_ge j k with h | h
              · exact HK.out.2 j z h hz
              · obtain rfl : j = k := by omega
                rw [hs.out.2] at hz
                obtain rfl := Option.some.inj hz
                exact HSZ.out
            case measure => simp [intOf]; omega
        · obtain rfl : k = l0 := by omega
          have HLB : Hid (∀ s ∈ r.f0, s.size ≤ 300) := fun s hs => by
            obtain ⟨j, hj, e⟩ := List.mem_iff_getElem.1 hs
            exact HK.out.2 j s (by rw [hl0.out.1] at hj; exact hj) (by rw [List.getElem?_eq_getElem hj, e])
          go_wp2_with fail
          go_roundw
          case rel =>
            refine ⟨i + 1, q + l5, by go_num, by go_num, by omega, ?_, ?_, HK.out.1, fun j z hj hz => ?_⟩
            · rw [hr.out.2.2.1, hl5.out.1]; have := HQ.out; omega
            · rw [hr.out.2.2.1, hl5.out.1]; have := HX.out.1; omega
            · rcases Nat.lt_or_ge j i with h | h
              · exact HX.out.2.2 j z h hz
              · obtain rfl : j = i := by omega
                rw [hr.out.2.1] at hz
                obtain rfl := Option.some.inj hz
                exact HLB.out
          case measure => simp [intOf]; omega
    · obtain rfl : i = n := by omega
      have HN : Hid (NOk o) := ⟨HOK.out, fun r hr => by
        obtain ⟨j, hj, e⟩ := List.mem_iff_getElem.1 hr
        exact HX.out.2.2 j r (by rw [hn.out] at hj; exact hj) (by rw [List.getElem?_eq_getElem hj, e]), HW.out⟩
      have HXL : Hid ((xO o).length = q) := by show _ = _; rw [xO_len, hn.out, hm.out]; exact HQ.out.symm
      have HB4 : Hid (Below w1.heap.size w1 wr) := HX.out.2.1
      clear HX
      have HCA : Hid (Kd.C k57 wr A o.f1.length o.f1 ∧ Kd.C k91 wr E o.f2.length o.f2) := ⟨Kd.C_below HA0.out (BW.out wr HB4.out), Kd.C_below HE0.out (BW.out wr HB4.out)⟩
      have HOF : Hid (∀ W, Below w1.heap.size w1 W → Calls Tryd.prog 16 #[.agg #[.int .u64 o.f0, .slice A i cA, .slice E m cE, .int .u64 o.f3.f0, .bool o.f3.f1, .int .u64 o.f4.f0, .bool o.f4.f1, .int .u64 o.f5.f0, .bool o.f5.f1]] W (OPost o W)) := fun W hb => by
        have h := OfO_c W o A cA E cE (Kd.C_below HA0.out (BW.out W hb)) (Kd.C_below HE0.out (BW.out W hb)) HOK.out
        rw [hn.out, hm.out] at h; exact h
      obtain ⟨c0, c1, c2, c3, c4, c5, c6, c7, c8⟩ := EC.out wr HB4.out
      go_wp2_with fail
      refine (HOF.out wr HB4.out).mono ?_
      rintro e w5 ⟨A5, k5, E5, j5, he, hR5, hE5, hb5⟩
      rw [hn.out, hm.out] at he
      subst he
      have H5 : Hid (Kd.C k70 w5 A5 o.f1.length (o.f1.map cvR) ∧ Kd.C k94 w5 E5 o.f2.length (o.f2.map cvE) ∧ Below w1.heap.size w1 w5) := ⟨hR5, hE5, HB4.out.trans (hb5.mono HB4.out.size)⟩
      clear hR5 hE5 hb5 c0 c1 c2 c3 c4 c5 c6 c7 c8 HCA
      have HLN : Hid (Calls Tryd.prog 15 #[.agg #[.int .u64 o.f0, .slice A5 i k5, .slice E5 m j5, .int .u64 o.f3.f0, .bool o.f3.f1, .int .u64 o.f4.f0, .bool o.f4.f1, .int .u64 o.f5.f0, .bool o.f5.f1]] w5 fun e w' =>
          ∃ v, e = .returned v ∧ LW w' w5.heap.size v (xO o) ∧ Below w5.heap.size w5 w') := by
        have hl1 : (o.f1.map cvR).length = i := by rw [List.length_map]; exact hn.out
        have hl2 : (o.f2.map cvE).length = m := by rw [List.length_map]; exact hm.out
        have h := Lines_c w5 (HL.out.below (BW.out w5 H5.out.2.2)) o.f0 A5 k5 (o.f1.map cvR) E5 j5 (o.f2.map cvE) o.f3.f0 o.f4.f0 o.f5.f0 o.f3.f1 o.f4.f1 o.f5.f1 (by rw [hl1, ← hn.out]; exact H5.out.1) (by rw [hl2, ← hm.out]; exact H5.out.2.1) (by rw [hl1]; omega) (by rw [hl2]; omega) (fun r hr => by
          obtain ⟨q, hq, rfl⟩ := List.mem_map.1 hr
          have := HOK.out.2.2 q hq
          exact ⟨by show q.f0.length ≤ 1000; omega, by show (q.f5.map cvC).length ≤ 1000; rw [List.length_map]; omega⟩)
        rw [hl1, hl2] at h; exact h
      go_wp2_with fail
      refine HLN.out.mono ?_
      rintro e w6 ⟨v6, rfl, hS6, hb6⟩
      obtain ⟨A6, k6, e6, hc6, hC6⟩ := hS6.reads
      rw [HXL.out] at e6 hC6
      subst e6
      have H6 : Hid (Kd.C k43 w6 A6 q (xO o) ∧ Below w1.heap.size w1 w6) := ⟨hC6, H5.out.2.2.trans (hb6.mono H5.out.2.2.size)⟩
      clear hS6 hb6 hc6 hC6 HLN H5
      obtain ⟨c0, c1, c2, c3, c4, c5, c6, c7, c8⟩ := EC.out w6 H6.out.2
      go_wp2_with fail
      refine (HOF.out w6 H6.out.2).mono ?_
      rintro e w7 ⟨A7, k7, E7, j7, he, hR7, hE7, hb7⟩
      rw [hn.out, hm.out] at he
      subst he
      have H7 : Hid (Kd.C k43 w7 A6 q (xO o) ∧ Below w1.heap.size w1 w7) := ⟨Kd.C_below H6.out.1 hb7, H6.out.2.trans (hb7.mono H6.out.2.size)⟩
      obtain ⟨s1, hs1⟩ : ∃ s1 : ByteArray, Hid (strV (printP ((xO o).map lnM)) = .string s1 ∧ s1.data.toList = printP ((xO o).map lnM) ∧ s1.size ≤ 170000000 ∧ (printP ((xO o).map lnM)).count 10 = q) := ⟨⟨(printP ((xO o).map lnM)).toArray⟩, rfl, rfl, Nat.le_trans (filter_len _) (xO_size HN.out), by
        rw [print_10 _ (fun x hx => by obtain ⟨y, hy, rfl⟩ := List.mem_map.1 hx; exact xO_right HN.out y hy), List.length_map]; exact HXL.out⟩
      have HOT : Hid (Calls Tryd.prog 17 #[.agg #[.int .u64 o.f0, .slice A7 i k7, .slice E7 m j7, .int .u64 o.f3.f0, .bool o.f3.f1, .int .u64 o.f4.f0, .bool o.f4.f1, .int .u64 o.f5.f0, .bool o.f5.f1]] w7 fun e w' => e = .returned (.string s1) ∧ Below w7.heap.size w7 w') := by
        have h := Out_c w7 (HL.out.below (BW.out w7 H7.out.2)) o HN.out A7 k7 E7 j7 hR7 hE7
        rw [hn.out, hm.out, hs1.out.1] at h; exact h
      clear hR7 hE7 hb7 c0 c1 c2 c3 c4 c5 c6 c7 c8 H6 HOF
      go_wp2_with fail
      refine HOT.out.mono ?_
      rintro e w8 ⟨rfl, hb8⟩
      have H8 : Hid (Kd.C k43 w8 A6 q (xO o) ∧ Below w1.heap.size w1 w8) := ⟨Kd.C_below H7.out.1 hb8, H7.out.2.trans (hb8.mono H7.out.2.size)⟩
      clear hb8 HOT H7
      go_wp2_with fail
      go_loopw [9, 8] (fun iv nv wr => ∃ (k c : Nat), iv = .int .i64 k ∧ nv = .int .i64 c ∧ k ≤ s1.size ∧ Hid (c = (s1.data.toList.take k).count 10 ∧ c ≤ k ∧ Kd.C k43 wr A6 q (xO o) ∧ Below w1.heap.size w1 wr)) (fun iv _ _ => s1.size - (intOf iv).toNat)
      case atStart => exact ⟨0, 0, rfl, rfl, Nat.zero_le _, rfl, Nat.le_refl _, H8.out⟩
      case round =>
        obtain ⟨k, c, rfl, rfl, hk, HK⟩ := hrel
        have hsz := hs1.out.2.2.1
        by_cases hltk : k < s1.size
        · have hkk : (k : Int) < (s1.size : Int) := by omega
          have hkl : k < s1.data.toList.length := hltk
          obtain ⟨b, hb⟩ : ∃ b, Hid (s1.data.toList.take (k + 1) = s1.data.toList.take k ++ [b] ∧ ∀ h : k < s1.size, s1[k]'h = b) := ⟨s1.data.toList[k], by rw [List.take_succ_eq_append_getElem hkl], fun h => rfl⟩
          have hcc : ∀ h : k < s1.size, s1[k]'h = b := hb.out.2
          have hck := HK.out.2.1
          by_cases h10 : b = 10
          · have f1 : ((b.toNat : Int) == 10) = true := by rw [h10]; rfl
            have HC : Hid (c + 1 = (s1.data.toList.take (k + 1)).count 10) := by show _ = _; rw [hb.out.1, List.count_append, h10, ← HK.out.1]; rfl
            go_wp2_with fail
            go_roundw
            case rel => exact ⟨k + 1, c + 1, by go_num, by go_num, by omega, HC.out, by omega, HK.out.2.2.1, HK.out.2.2.2⟩
            case measure => simp [intOf]; omega
          · have f1 : ((b.toNat : Int) == 10) = false := by
              rw [beq_eq_false_iff_ne]
              intro e
              have e2 : b.toNat = 10 := by omega
              exact h10 (by rw [← UInt8.ofNat_toNat (x := b), e2]; rfl)
            have HC : Hid (c = (s1.data.toList.take (k + 1)).count 10) := by
              show _ = _
              rw [hb.out.1, List.count_append, ← HK.out.1, List.count_singleton]
              have : (b == 10) = false := beq_eq_false_iff_ne.2 h10
              simp [this]
            go_wp2_with fail
            go_roundw
            case rel => exact ⟨k + 1, c, by go_num, rfl, by omega, HC.out, by omega, HK.out.2.2.1, HK.out.2.2.2⟩
            case measure => simp [intOf]; omega
        · obtain rfl : k = s1.size := by omega
          have hcq : c = q := by
            have h1 := HK.out.1
            rw [show s1.data.toList.take s1.size = s1.data.toList from List.take_of_length_le (Nat.le_refl _), hs1.out.2.1, hs1.out.2.2.2] at h1
            exact h1
          subst hcq
          have hq0 : (0 : Int) < (c : Int) := by have h1 := HQ.out; omega
          obtain ⟨ad, A9, c9, rfl, d0, _, d2, _, _⟩ := at_T43 HK.out.2.2.1 0 (by omega) hq0
          have ex : rd_T43 (xO o) 0 = winL o.f0 := rfl
          rw [ex] at d0 d2
          have e0 : wr.cell? ad = some (.string ⟨#[119, 105, 110, 100, 111, 119]⟩) := by
            have : ad.add ((0 : Int).toNat * 3) = ad := rfl
            rw [this] at d0; exact d0
          have e2 : wr.cell? ⟨ad.block, ad.off + 2, none⟩ = some (.int .u64 o.f0) := d2
          obtain ⟨x0, _, _, _, _, _, _, _, _⟩ := EC.out wr HK.out.2.2.2
          have HBF := Lib.hid (BW.out wr HK.out.2.2.2)
          clear d0 d2 ex
          go_upto_region 23 with fail
          go_quiet (fail)
          go_wp2_with fail
          go_ret
          first | exact ⟨rfl, HBF.out⟩ | exact ⟨rfl, Below_drewN HBF.out _⟩
end Go.Proofs.YtdbmcikoiilanaaDoor.expoNames
