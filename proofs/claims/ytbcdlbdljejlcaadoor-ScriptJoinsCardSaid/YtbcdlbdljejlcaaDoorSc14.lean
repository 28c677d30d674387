/- script: what Of and same answer, a kind whose elements read at an older world, sizes. -/
import Derived.Test.YtbcdlbdljejlcaaDoorSc13
import Derived.Test.YtbcdlbdljejlcaaDoorPsOp
set_option linter.unusedVariables false
set_option linter.unusedSimpArgs false
namespace Go.Proofs.YtbcdlbdljejlcaaDoor.Sc
open Go.RowKit Go.Proofs.YtbcdlbdljejlcaaDoor.B0 Go.Proofs.YtbcdlbdljejlcaaDoor.Ps Go.Proofs.YtbcdlbdljejlcaaDoorW.PrintWords Go.Proofs.YtbcdlbdljejlcaaDoor.Bld

theorem wrap64_small (n : Int) (h0 : 0 ≤ n) (h1 : n ≤ 1000000) : Go.RowKit.wrap64 n = n := by rw [Go.RowKit.wrap64]; omega
theorem of_l (l : List RStp) (hl : l.length ≤ 1000) (hb : ∀ x ∈ l, x.f3.length ≤ 65536) : ∀ (k i : Nat), i ≤ l.length → l.length - i < k → tallyroomlaw29_Of.l0 k l ((l.take i).map toS) (i : Int) = some (l.map toS)
  | 0, i, _, h => by omega
  | k + 1, i, hi, h => by
    rw [tallyroomlaw29_Of.l0]
    by_cases hlt : i < l.length
    · rw [if_pos (by omega), if_pos (by omega)]
      have hrd : rd_T35 l (i : Int) = l[i] := by unfold rd_T35; rw [show ((i : Int)).toNat = i from by omega, List.getD_eq_getElem?_getD, List.getElem?_eq_getElem hlt]; rfl
      rw [hrd]
      have h3 := hb _ (List.getElem_mem hlt)
      show (if ([] : List Int).length + _ < _ then _ else _) = _
      rw [if_pos (by simp; omega), if_pos (by rw [List.length_map, List.length_take]; omega), wrap64_small _ (by omega) (by omega)]
      have e : ((l.take i).map toS) ++ [(⟨l[i].f0, l[i].f1, l[i].f2, [] ++ l[i].f3⟩ : Stp)] = (l.take (i + 1)).map toS := by
        rw [List.take_succ_eq_append_getElem hlt, List.map_append]; rfl
      rw [e, show ((i : Int) + 1) = ((i + 1 : Nat) : Int) from by omega]
      exact of_l l hl hb k (i + 1) (by omega) (by omega)
    · rw [if_neg (by omega), List.take_of_length_le (by omega)]
theorem of_f (l : List RStp) (hl : l.length ≤ 1000) (hb : ∀ x ∈ l, x.f3.length ≤ 65536) : tallyroomlaw29_Of.f 1001 l = some (l.map toS) :=
  of_l l hl hb 1001 0 (by omega) (by omega)
theorem same_l (l : List RStp) (hl : l.length ≤ 1000) : ∀ (k i : Nat), i ≤ l.length → l.length - i < k → tallyroomlaw29_same.l0 k (l.map toS) l (i : Int) = some true
  | 0, i, _, h => by omega
  | k + 1, i, hi, h => by
    rw [tallyroomlaw29_same.l0, List.length_map]
    by_cases hlt : i < l.length
    · have hrd : rd_T35 l (i : Int) = l[i] := by unfold rd_T35; rw [show ((i : Int)).toNat = i from by omega, List.getD_eq_getElem?_getD, List.getElem?_eq_getElem hlt]; rfl
      have hrd2 : rd_T32 (l.map toS) (i : Int) = toS l[i] := by unfold rd_T32; rw [show ((i : Int)).toNat = i from by omega, List.getD_eq_getElem?_getD, List.getElem?_map, List.getElem?_eq_getElem hlt]; rfl
      rw [hrd, hrd2, if_pos (by omega), if_pos (by omega), if_pos (by omega), if_pos (show (toS l[i]).f0 = l[i].f0 from rfl), if_pos (show (toS l[i]).f1 = l[i].f1 from rfl), if_pos (show (toS l[i]).f2 = l[i].f2 from rfl)]
      have hbb : tallyroomref01_Bytes.f (toS l[i]).f3 l[i].f3 = some true := by unfold tallyroomref01_Bytes.f; simp [toS]
      rw [hbb, Option.bind_some, if_pos rfl, wrap64_small _ (by omega) (by omega), show ((i : Int) + 1) = ((i + 1 : Nat) : Int) from by omega]
      exact same_l l hl k (i + 1) (by omega) (by omega)
    · rw [if_neg (by omega)]
theorem same_f (l : List RStp) (hl : l.length ≤ 1000) : tallyroomlaw29_same.f 1001 (l.map toS) l = some true := by
  unfold tallyroomlaw29_same.f
  rw [List.length_map, if_pos rfl]
  exact same_l l hl 1001 0 (by omega) (by omega)

theorem info35 : (Tryd.prog.info? 35).map (fun i => (i.zero, i.size, i.bytes)) = some (some (.agg #[(.int .i64 0), (.int .i64 0), (.int .i64 0), (.slice none 0 0)]), 4, 48) := by kernel_rfl
/-- elements as they read at an older world. -/
def atK {α : Type} (d : Kd α) (w0 : World) : Kd α where
  sz := d.sz
  E := []
  K := fun _ x cs => d.K w0 x cs
  M := fun _ _ _ x cs => d.K w0 x cs
  K_len := d.K_len
  K_one := d.K_one
  K_below := fun _ h => h
  K_of_M := fun h => h
  M_mono := fun _ h => h
  M_bound := fun h => h
  M_move := fun _ h => h
  M_lower := fun _ h => h
theorem atK_C {α : Type} {d : Kd α} {w0 w : World} {A : Option Addr} {n : Nat} {xs : List α} (h : (atK d w0).C w A n xs) (hb : Below w0.heap.size w0 w) : d.C w A n xs :=
  ReadsRow.imp_ (size := d.sz) (R := fun x cs => d.K w0 x cs) h (Below.refl _ _) (fun _ _ hp => d.K_below hb hp)
theorem atK_of {α : Type} {d : Kd α} {w0 w : World} {A : Option Addr} {n : Nat} {xs : List α} (h : d.C w0 A n xs) (hb : Below w0.heap.size w0 w) : ReadsRow (d.K w0) d.sz w A n xs := ReadsRow.imp_ h hb (fun _ _ hp => hp)
/-- a new, empty row. -/
theorem R_new {α : Type} (d : Kd α) (e base : Nat) (W : World) (hb : base ≤ W.heap.size) : d.R e (W.alloc (.cells #[] e)) base (fun _ => True) (.slice (some ⟨W.heap.size, 0, none⟩) 0 0) [] := by
  refine ⟨fun _ _ => trivial, [], ?_, Reps.none _ _⟩
  have h2 := World.ownsRow_lit (base := base) (e := e) (size := d.sz) W #[] 0 hb (by simp) (by simp)
  simpa using h2

theorem lineL_len (x : Stp) (h : okS x) (hb : isB x.f3) (hl : x.f3.length ≤ 3000) : (lineL x ++ [10]).length ≤ 6100 := by
  have h3 : (hexL x.f3).length ≤ 6001 := by
    unfold hexL
    split
    · decide
    · have := (unL_hexR x.f3 hb).2.2; omega
  obtain ⟨k, a, b, l⟩ := x
  have i1 : (Lib.itoa a).length ≤ 21 ∧ (Lib.itoa b).length ≤ 21 := by
    dsimp only [okS] at h
    exact ⟨Lib.itoa_length_le a (by omega) (by omega), Lib.itoa_length_le b (by omega) (by omega)⟩
  dsimp only at h3
  unfold lineL
  dsimp only
  repeat' split
  all_goals simp only [List.length_append, List.length_cons, List.length_nil, sDeliver, sTick, sClose, sFlush, sEnd]
  all_goals omega
theorem printL_bound : ∀ (xs : List Stp), (∀ x ∈ xs, okS x ∧ isB x.f3 ∧ x.f3.length ≤ 3000) → (printL xs).length ≤ 6100 * xs.length
  | [], _ => by simp [printL]
  | x :: xs, h => by
    have h1 := printL_bound xs (fun y hy => h y (List.mem_cons_of_mem _ hy))
    obtain ⟨a, b, c⟩ := h x List.mem_cons_self
    have h2 := lineL_len x a b c
    have e : printL (x :: xs) = (lineL x ++ [10]) ++ printL xs := by simp [printL]
    rw [e, List.length_append, List.length_cons]
    omega
theorem ends_f (l : List RStp) (hl : l.length ≤ 1000) : script_Ends.f (l.map toS) = some (decide (0 < l.length) && ((rd_T35 l ((l.length : Int) - 1)).f0 == 4)) := by
  unfold script_Ends.f
  rw [List.length_map]
  by_cases h : l.length = 0
  · rw [if_neg (by omega)]; simp [h]
  · have e : Go.RowKit.wrap64 ((l.length : Int) - 1) = (l.length : Int) - 1 := wrap64_small _ (by omega) (by omega)
    rw [if_pos (by omega), e, if_pos (by omega), if_pos (by omega)]
    have hrd : (rd_T32 (l.map toS) ((l.length : Int) - 1)).f0 = (rd_T35 l ((l.length : Int) - 1)).f0 := by
      unfold rd_T32 rd_T35
      rw [show ((l.length : Int) - 1).toNat = l.length - 1 from by omega, List.getD_eq_getElem?_getD, List.getD_eq_getElem?_getD, List.getElem?_map, List.getElem?_eq_getElem (by omega : l.length - 1 < l.length)]; rfl
    rw [hrd, decide_eq_true (by omega : 0 < l.length), Bool.true_and]
end Go.Proofs.YtbcdlbdljejlcaaDoor.Sc
