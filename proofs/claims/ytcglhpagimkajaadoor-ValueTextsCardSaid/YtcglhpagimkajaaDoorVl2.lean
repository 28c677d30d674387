/- value: Of, Text, Any; the chapter's example. -/
import Derived.Test.YtcglhpagimkajaaDoorVl1
import Derived.Test.YtcglhpagimkajaaDoorLayF
set_option linter.unusedVariables false
set_option linter.unusedSimpArgs false
namespace Go.Proofs.YtcglhpagimkajaaDoor.Vl
open Go.RowKit Go.Sort Go.Proofs.YtcglhpagimkajaaDoor.B0 Go.Proofs.YtcglhpagimkajaaDoor.Pv Go.Proofs.YtcglhpagimkajaaDoorW.PrintWords

def tabP (w : World) : Prop := Lib.TabIs Tryd.prog w "internal/strconv.uint64pow10" .u64 Lib.pow10Tab
def itoaS (n : Int) : ByteArray := ⟨(Lib.itoa n).toArray⟩
theorem grow_below (w : World) (k : Nat) (os : Array Obj) : Below w.heap.size w (grow (w.drewN k) os) :=
  ⟨rfl, rfl, rfl, by simp [grow], fun i hi => by simp [grow, Array.getElem?_append_left hi]⟩
theorem fmt_c (n : Int) (h0 : -9223372036854775808 ≤ n) (h1 : n ≤ 9223372036854775807) (w : World) (ht : tabP w) :
    Calls Tryd.prog 23 #[.int .i64 n, .int .i64 10] w fun e w' => e = .returned (.string (itoaS n)) ∧ Below w.heap.size w w' :=
  (Any.strconv_FormatInt_10 Tryd.layF n h0 h1 w ht).mono fun e w' ⟨he, k, os, hw⟩ => ⟨he, by rw [hw]; exact grow_below w k os⟩
def bS (b : Bool) : ByteArray := if b = true then ⟨#[116, 114, 117, 101]⟩ else ⟨#[102, 97, 108, 115, 101]⟩
theorem bool_c (b : Bool) (w : World) : Calls Tryd.prog 24 #[.bool b] w fun e w' => e = .returned (.string (bS b)) ∧ Below w.heap.size w w' :=
  (strconv_FormatBool_24.calls b _ w (by cases b <;> rfl)).mono fun e w' ⟨he, hd⟩ => ⟨he, hd.below⟩
def textA : An → ByteArray
  | .int n => itoaS n
  | .bool b => bS b
  | .str s => s
  | _ => ByteArray.empty
def okA : An → Prop
  | .int n => -9223372036854775808 ≤ n ∧ n ≤ 9223372036854775807
  | _ => True
set_option maxRecDepth 100000 in
set_option maxHeartbeats 1000000 in
theorem Text_c (x : An) (hx : okA x) (w : World) (ht : tabP w) : Calls Tryd.prog 13 #[x.v] w fun e w' => e = .returned (.string (textA x)) ∧ Below w.heap.size w w' := by
  have HT := Lib.hid ht; clear ht
  have h2 := ta2 x
  have h4 := ta4 x
  have h9 := ta9 x
  have k2 := tb2
  have k4 := tb4
  have k9 := tb9
  cases x with
  | int n =>
    obtain ⟨hx0, hx1⟩ := hx
    simp only at h2 h4 h9
    unfold An.v at *
    go_enter Tryd.func13, Tryd.ntmps13
    go_wp2_with fail
    refine (fmt_c n hx0 hx1 w HT.out).mono ?_
    rintro e w1 ⟨rfl, hb⟩
    have HB := Lib.hid hb; clear hb
    go_wp2_with fail
    go_ret
    exact ⟨rfl, HB.out⟩
  | bool b =>
    simp only at h2 h4 h9
    unfold An.v at *
    go_enter Tryd.func13, Tryd.ntmps13
    go_wp2_with fail
    refine (bool_c b w).mono ?_
    rintro e w1 ⟨rfl, hb⟩
    have HB := Lib.hid hb; clear hb
    go_wp2_with fail
    go_ret
    exact ⟨rfl, HB.out⟩
  | _ =>
    simp only at h2 h4 h9
    unfold An.v at *
    go_enter Tryd.func13, Tryd.ntmps13
    go_wp2_with fail
    go_ret
    exact ⟨rfl, Below.refl _ _⟩

/-- an api.Value. -/
structure Va where
  k : Int
  n : Int
  s : ByteArray
def Va.c (x : Va) : Value := .agg #[.int .i64 x.k, .int .i64 x.n, .string x.s]
def ofA : An → Va × Int
  | .str s => if (s.size : Int) ≤ 4096 then (⟨3, 0, s⟩, 0) else (⟨0, 0, ByteArray.empty⟩, 20)
  | .int n => (⟨1, n, ByteArray.empty⟩, 0)
  | .bool b => (⟨2, if b = true then 1 else 0, ByteArray.empty⟩, 0)
  | _ => (⟨0, 0, ByteArray.empty⟩, 20)
set_option maxRecDepth 100000 in
set_option maxHeartbeats 1000000 in
theorem Of_c (x : An) (w : World) : Calls Tryd.prog 11 #[x.v] w fun e w' => e = .returned (.tuple #[(ofA x).1.c, .int .i64 (ofA x).2]) ∧ Below w.heap.size w w' := by
  have h2 := ta2 x
  have h4 := ta4 x
  have h9 := ta9 x
  cases x with
  | str s =>
    simp only at h2 h4 h9
    unfold An.v at *
    by_cases hs : (s.size : Int) ≤ 4096
    · have e1 : ofA (.str s) = (⟨3, 0, s⟩, 0) := if_pos hs
      rw [e1]
      clear e1
      go_enter Tryd.func11, Tryd.ntmps11
      go_wp2_with fail
      exact bodyPost_ret (v := .tuple #[Va.c ⟨3, 0, s⟩, .int .i64 0]) (by simp [results, Tryd.results11, go_sem, Va.c] <;> rfl) rfl ⟨rfl, (Below.refl _ _).alloc (Nat.le_refl _) _⟩
    · have e1 : ofA (.str s) = (⟨0, 0, ByteArray.empty⟩, 20) := if_neg hs
      rw [e1]
      clear e1
      go_enter Tryd.func11, Tryd.ntmps11
      go_wp2_with fail
      exact bodyPost_ret (v := .tuple #[Va.c ⟨0, 0, ByteArray.empty⟩, .int .i64 20]) (by simp [results, Tryd.results11, go_sem, Va.c] <;> rfl) rfl ⟨rfl, (Below.refl _ _).alloc (Nat.le_refl _) _⟩
  | bool b =>
    simp only at h2 h4 h9
    have hv : (An.bool b).v = .iface 4 (.bool b) := rfl
    rw [hv] at h2 h4 h9 ⊢
    have hi := fun w => Int_c (.bool b) w
    rw [hv] at hi
    cases b <;> (
    go_enter Tryd.func11, Tryd.ntmps11
    go_wp2_with fail
    refine (hi _).mono ?_
    rintro e w1 ⟨rfl, rfl⟩
    unfold intA
    go_wp2_with fail
    refine bodyPost_ret (v := .tuple #[(ofA (.bool _)).1.c, .int .i64 0]) (by simp [results, Tryd.results11, go_sem, Va.c, ofA]; rfl) rfl ⟨rfl, (Below.refl _ _).alloc (Nat.le_refl _) _⟩)
  | int n =>
    simp only at h2 h4 h9
    unfold An.v at *
    go_enter Tryd.func11, Tryd.ntmps11
    go_wp2_with fail
    exact bodyPost_ret (v := .tuple #[Va.c ⟨1, n, ByteArray.empty⟩, .int .i64 0]) (by simp [results, Tryd.results11, go_sem, Va.c] <;> rfl) rfl ⟨rfl, (Below.refl _ _).alloc (Nat.le_refl _) _⟩
  | _ =>
    simp only at h2 h4 h9
    unfold An.v at *
    go_enter Tryd.func11, Tryd.ntmps11
    go_wp2_with fail
    exact bodyPost_ret (v := .tuple #[Va.c ⟨0, 0, ByteArray.empty⟩, .int .i64 20]) (by simp [results, Tryd.results11, go_sem, Va.c] <;> rfl) rfl ⟨rfl, (Below.refl _ _).alloc (Nat.le_refl _) _⟩
end Go.Proofs.YtcglhpagimkajaaDoor.Vl
