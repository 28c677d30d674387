/- ValueOrder: the law's walk. -/
import Derived.Test.YtcglhpagimkajaaDoorVlO
set_option linter.unusedVariables false
set_option linter.unusedSimpArgs false
namespace Go.Proofs.YtcglhpagimkajaaDoor.valueOrder
open Go.RowKit Go.Proofs.YtcglhpagimkajaaDoor.B0 Go.Proofs.YtcglhpagimkajaaDoor.Pv Go.Proofs.YtcglhpagimkajaaDoorW.PrintWords Go.Proofs.YtcglhpagimkajaaDoor.Vl Go.Proofs.YtcglhpagimkajaaDoor.Kn

def va (y : S23) : Va := ⟨y.f0, y.f1, y.f2⟩
theorem box3 {w wa : World} {o0 o1 o2 : Obj} (h : Below (((w.alloc o0).alloc o1).alloc o2).heap.size (((w.alloc o0).alloc o1).alloc o2) wa) :
    wa.heap[w.heap.size]? = some o0 ∧ wa.heap[w.heap.size + 1]? = some o1 ∧ wa.heap[w.heap.size + 2]? = some o2 := by
  have s0 := size_alloc w o0
  have s1 := size_alloc (w.alloc o0) o1
  have s2 := size_alloc ((w.alloc o0).alloc o1) o2
  refine ⟨?_, ?_, ?_⟩
  · rw [h.block _ (by omega), allocO _ _ (by omega), allocO _ _ (by omega), allocN]
  · rw [h.block _ (by omega), allocO _ _ (by omega), ← s0, allocN]
  · rw [h.block _ (by omega), show w.heap.size + 2 = ((w.alloc o0).alloc o1).heap.size from by omega, allocN]

set_option maxRecDepth 100000 in
set_option maxHeartbeats 2000000 in
theorem valueOrder_walk (w : World) (ht : tabP w) (a : S23) (csa : Array Value) (Ka : k23.K w a csa.toList) (Wa : W23 a) (b : S23) (csb : Array Value) (Kb : k23.K w b csb.toList) (Wb : W23 b) (c : S23) (csc : Array Value) (Kc : k23.K w c csc.toList) (Wc : W23 c) :
    Calls Tryd.prog 4 #[.agg csa, .agg csb, .agg csc] w fun e w' => e = .returned (.bool true) ∧ Below w.heap.size w w' := by
  have ea := k23_open Ka
  have eb := k23_open Kb
  have ec := k23_open Kc
  obtain rfl : csa = #[.int .i64 a.f0, .int .i64 a.f1, .string a.f2] := by cases csa; simpa using ea
  obtain rfl : csb = #[.int .i64 b.f0, .int .i64 b.f1, .string b.f2] := by cases csb; simpa using eb
  obtain rfl : csc = #[.int .i64 c.f0, .int .i64 c.f1, .string c.f2] := by cases csc; simpa using ec
  clear Ka Kb Kc Wa Wb Wc ea eb ec
  have HT := Lib.hid ht; clear ht
  obtain ⟨x, hx⟩ : ∃ x, Hid (cmpV (va a) (va b) = x) := ⟨_, rfl⟩
  obtain ⟨y, hy⟩ : ∃ x, Hid (cmpV (va b) (va c) = x) := ⟨_, rfl⟩
  obtain ⟨z, hz⟩ : ∃ x, Hid (cmpV (va a) (va c) = x) := ⟨_, rfl⟩
  have hn : Hid (cmpV (va b) (va a) = -x) := by rw [← hx.out]; exact cmpV_neg _ _
  have vx : x = -1 ∨ x = 0 ∨ x = 1 := by rw [← hx.out]; exact cmpV_val _ _
  have vy : y = -1 ∨ y = 0 ∨ y = 1 := by rw [← hy.out]; exact cmpV_val _ _
  have ht : x ≤ 0 → y ≤ 0 → z ≤ 0 ∧ (z = 0 → x = 0 ∧ y = 0) := by rw [← hx.out, ← hy.out, ← hz.out]; exact cmpV_tr
  have vz : z = -1 ∨ z = 0 ∨ z = 1 := by rw [← hz.out]; exact cmpV_val _ _
  have h00 : x = 0 → y = 0 → z = 0 := by
    rw [← hx.out, ← hy.out, ← hz.out]
    intro h1 h2
    rw [cmpV_eq] at *
    rw [h1, h2]
  have cases7 : (x = 1) ∨ (x ≤ 0 ∧ y = 1 ∧ (x = 0 ∨ x = -1)) ∨ (x = 0 ∧ y = 0 ∧ z = 0) ∨ (x = -1 ∧ y = 0 ∧ z = -1) ∨ (x = 0 ∧ y = -1 ∧ z = -1) ∨ (x = -1 ∧ y = -1 ∧ z = -1) := by omega
  clear vx vy vz ht h00
  rcases cases7 with rfl | ⟨_, rfl, rfl | rfl⟩ | ⟨rfl, rfl, rfl⟩ | ⟨rfl, rfl, rfl⟩ | ⟨rfl, rfl, rfl⟩ | ⟨rfl, rfl, rfl⟩
  all_goals
    go_enter Tryd.func4, Tryd.ntmps4
    go_wp2_with fail
    refine (alive04 _ (HT.out.below ((((Below.refl _ w).alloc (Nat.le_refl _) _).alloc (by simp) _).alloc (by simp; omega) _) (Nat.le_refl _))).mono ?_
    rintro e wa ⟨rfl, hBa⟩
    obtain ⟨x0, x1, x2⟩ := box3 hBa
    have HB0 := Lib.hid x0; have HB1 := Lib.hid x1; have HB2 := Lib.hid x2
    have HBa : Hid (Below w.heap.size w wa) := ((((Below.refl _ w).alloc (Nat.le_refl _) _).alloc (by simp) _).alloc (by simp; omega) _) |>.trans (hBa.mono (by simp; omega))
    clear x0 x1 x2 hBa
    have EC : Hid (∀ w', Below wa.heap.size wa w' → w'.cell? ⟨w.heap.size, 0, none⟩ = some (.int .i64 a.f0) ∧ w'.cell? ⟨w.heap.size, 1, none⟩ = some (.int .i64 a.f1) ∧ w'.cell? ⟨w.heap.size, 2, none⟩ = some (.string a.f2) ∧ w'.cell? ⟨w.heap.size + 1, 0, none⟩ = some (.int .i64 b.f0) ∧ w'.cell? ⟨w.heap.size + 1, 1, none⟩ = some (.int .i64 b.f1) ∧ w'.cell? ⟨w.heap.size + 1, 2, none⟩ = some (.string b.f2) ∧ w'.cell? ⟨w.heap.size + 2, 0, none⟩ = some (.int .i64 c.f0) ∧ w'.cell? ⟨w.heap.size + 2, 1, none⟩ = some (.int .i64 c.f1) ∧ w'.cell? ⟨w.heap.size + 2, 2, none⟩ = some (.string c.f2)) := fun w' h => ⟨pw_cell_below h (cellB HB0.out 0), pw_cell_below h (cellB HB0.out 1), pw_cell_below h (cellB HB0.out 2), pw_cell_below h (cellB HB1.out 0), pw_cell_below h (cellB HB1.out 1), pw_cell_below h (cellB HB1.out 2), pw_cell_below h (cellB HB2.out 0), pw_cell_below h (cellB HB2.out 1), pw_cell_below h (cellB HB2.out 2)⟩
    obtain ⟨a0, a1, a2, b0, b1, b2, c0, c1, c2⟩ := EC.out wa (Below.refl _ _)
    go_wp2_with fail
    refine (Cmp_c (va a) (va b) _).mono ?_
    rintro e v1 ⟨rfl, hb⟩
    rw [hx.out]
    have Gv1 : Hid (Below wa.heap.size wa v1) := hb
    clear hb a0 a1 a2 b0 b1 b2 c0 c1 c2
    obtain ⟨a0, a1, a2, b0, b1, b2, c0, c1, c2⟩ := EC.out v1 Gv1.out
    go_wp2_with fail
    refine (Cmp_c (va b) (va c) _).mono ?_
    rintro e v2 ⟨rfl, hb⟩
    rw [hy.out]
    have Gv2 : Hid (Below wa.heap.size wa v2) := (Gv1.out).trans (hb.mono (Gv1.out).size)
    clear hb a0 a1 a2 b0 b1 b2 c0 c1 c2
    obtain ⟨a0, a1, a2, b0, b1, b2, c0, c1, c2⟩ := EC.out v2 Gv2.out
    go_wp2_with fail
    refine (Cmp_c (va a) (va c) _).mono ?_
    rintro e v3 ⟨rfl, hb⟩
    rw [hz.out]
    have Gv3 : Hid (Below wa.heap.size wa v3) := (Gv2.out).trans (hb.mono (Gv2.out).size)
    clear hb a0 a1 a2 b0 b1 b2 c0 c1 c2
    obtain ⟨a0, a1, a2, b0, b1, b2, c0, c1, c2⟩ := EC.out v3 Gv3.out
    go_wp2_with fail
    refine (Ref_c (va a) (va b) _).mono ?_
    rintro e v4 ⟨rfl, hb⟩
    rw [hx.out]
    have Gv4 : Hid (Below wa.heap.size wa v4) := (Gv3.out).trans (hb.mono (Gv3.out).size)
    clear hb a0 a1 a2 b0 b1 b2 c0 c1 c2
    obtain ⟨a0, a1, a2, b0, b1, b2, c0, c1, c2⟩ := EC.out v4 Gv4.out
    go_wp2_with fail
    refine (Cmp_c (va b) (va a) _).mono ?_
    rintro e v5 ⟨rfl, hb⟩
    rw [hn.out]
    have Gv5 : Hid (Below wa.heap.size wa v5) := (Gv4.out).trans (hb.mono (Gv4.out).size)
    clear hb a0 a1 a2 b0 b1 b2 c0 c1 c2
    obtain ⟨a0, a1, a2, b0, b1, b2, c0, c1, c2⟩ := EC.out v5 Gv5.out
    go_wp2_with fail
    go_ret
    exact ⟨rfl, HBa.out.trans (Gv5.out.mono HBa.out.size)⟩
end Go.Proofs.YtcglhpagimkajaaDoor.valueOrder
