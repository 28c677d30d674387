/- value: Of, Text, Any; the chapter's example. value: Any; the chapter's example is true. -/
import Derived.Test.YtcglhpagimkajaaDoorMgValueBytes5
import Derived.Test.YtcglhpagimkajaaDoorMgValueBytes6
set_option linter.unusedVariables false
set_option linter.unusedSimpArgs false
namespace Go.Proofs.YtcglhpagimkajaaDoor.Vl
open Go.RowKit Go.Sort Go.Proofs.YtcglhpagimkajaaDoor.B0 Go.Proofs.YtcglhpagimkajaaDoor.Pv Go.Proofs.YtcglhpagimkajaaDoorW.PrintWords

def tabP (w : World) : Prop := Lib.TabIs Tryd.prog w "internal/strconv.uint64pow10" .u64 Lib.pow10Tab
def itoaS (n : Int) : ByteArray := ⟨(Lib.itoa n).toArray⟩
theorem grow_below (w : World) (k : Nat) (os : Array Obj) : Below w.heap.size w (grow (w.drewN k) os) :=
  ⟨rfl, rfl, rfl, by simp [grow], fun i hi => by simp [grow, Array.getElem?_append_left hi]⟩
theorem fmt_c (n : Int) (h0 : -9223372036854775808 ≤ n) (h1 : n ≤ 9223372036854775807) (w : World) (ht : tabP w) :
    Calls Tryd.prog 23 #[.int .i64 n, .int .i64 10] w fun e w' => e = .returned (.string (itoaS n)) ∧ Below w.heap.size w w' :=
  (Any.strconv_FormatInt_10 Tryd.layF n h0 h1 w ht).mono fun e w' ⟨he, k, os, hw⟩ => ⟨he, by rw [hw]; exact grow_below w k os⟩
def bS (b : Bool) : ByteArray := if b = true then ⟨#[116, 114, 117, 101]⟩ else ⟨#[102, 97, 108, 115, 101]⟩
theorem bool_c (b : Bool) (w : World) : Calls Tryd.prog 24 #[.bool b] w fun e w' => e = .returned (.string (bS b)) ∧ Below w.heap.size w w' :=
  (strconv_FormatBool_24.calls b _ w (by cases b <;> rfl)).mono fun e w' ⟨he, hd⟩ => ⟨he, hd.below⟩
def textA : An → ByteArray
  | .int n => itoaS n
  | .bool b => bS b
  | .str s => s
  | _ => ByteArray.empty
def okA : An → Prop
  | .int n => -9223372036854775808 ≤ n ∧ n ≤ 9223372036854775807
  | _ => True
set_option maxRecDepth 100000 in
set_option maxHeartbeats 1000000 in
theorem Text_c (x : An) (hx : okA x) (w : World) (ht : tabP w) : Calls Tryd.prog 13 #[x.v] w fun e w' => e = .returned (.string (textA x)) ∧ Below w.heap.size w w' := by
  have HT := Lib.hid ht; clear ht
  have h2 := ta2 x
  have h4 := ta4 x
  have h9 := ta9 x
  have k2 := tb2
  have k4 := tb4
  have k9 := tb9
  cases x with
  | int n =>
    obtain ⟨hx0, hx1⟩ := hx
    simp only at h2 h4 h9
    unfold An.v at *
    go_enter Tryd.func13, Tryd.ntmps13
    go_wp2_with fail
    refine (fmt_c n hx0 hx1 w HT.out).mono ?_
    rintro e w1 ⟨rfl, hb⟩
    have HB := Lib.hid hb; clear hb
    go_wp2_with fail
    go_ret
    exact ⟨rfl, HB.out⟩
  | bool b =>
    simp only at h2 h4 h9
    unfold An.v at *
    go_enter Tryd.func13, Tryd.ntmps13
    go_wp2_with fail
    refine (bool_c b w).mono ?_
    rintro e w1 ⟨rfl, hb⟩
    have HB := Lib.hid hb; clear hb
    go_wp2_with fail
    go_ret
    exact ⟨rfl, HB.out⟩
  | _ =>
    simp only at h2 h4 h9
    unfold An.v at *
    go_enter Tryd.func13, Tryd.ntmps13
    go_wp2_with fail
    go_ret
    exact ⟨rfl, Below.refl _ _⟩

/-- an api.Value. -/
structure Va where
  k : Int
  n : Int
  s : ByteArray
def Va.c (x : Va) : Value := .agg #[.int .i64 x.k, .int .i64 x.n, .string x.s]
def ofA : An → Va × Int
  | .str s => if (s.size : Int) ≤ 4096 then (⟨3, 0, s⟩, 0) else (⟨0, 0, ByteArray.empty⟩, 20)
  | .int n => (⟨1, n, ByteArray.empty⟩, 0)
  | .bool b => (⟨2, if b = true then 1 else 0, ByteArray.empty⟩, 0)
  | _ => (⟨0, 0, ByteArray.empty⟩, 20)
set_option maxRecDepth 100000 in
set_option maxHeartbeats 1000000 in
theorem Of_c (x : An) (w : World) : Calls Tryd.prog 11 #[x.v] w fun e w' => e = .returned (.tuple #[(ofA x).1.c, .int .i64 (ofA x).2]) ∧ Below w.heap.size w w' := by
  have h2 := ta2 x
  have h4 := ta4 x
  have h9 := ta9 x
  cases x with
  | str s =>
    simp only at h2 h4 h9
    unfold An.v at *
    by_cases hs : (s.size : Int) ≤ 4096
    · have e1 : ofA (.str s) = (⟨3, 0, s⟩, 0) := if_pos hs
      rw [e1]
      clear e1
      go_enter Tryd.func11, Tryd.ntmps11
      go_wp2_with fail
      exact bodyPost_ret (v := .tuple #[Va.c ⟨3, 0, s⟩, .int .i64 0]) (by simp [results, Tryd.results11, go_sem, Va.c] <;> rfl) rfl ⟨rfl, (Below.refl _ _).alloc (Nat.le_refl _) _⟩
    · have e1 : ofA (.str s) = (⟨0, 0, ByteArray.empty⟩, 20) := if_neg hs
      rw [e1]
      clear e1
      go_enter Tryd.func11, Tryd.ntmps11
      go_wp2_with fail
      exact bodyPost_ret (v := .tuple #[Va.c ⟨0, 0, ByteArray.empty⟩, .int .i64 20]) (by simp [results, Tryd.results11, go_sem, Va.c] <;> rfl) rfl ⟨rfl, (Below.refl _ _).alloc (Nat.le_refl _) _⟩
  | bool b =>
    simp only at h2 h4 h9
    have hv : (An.bool b).v = .iface 4 (.bool b) := rfl
    rw [hv] at h2 h4 h9 ⊢
    have hi := fun w => Int_c (.bool b) w
    rw [hv] at hi
    cases b <;> (
    go_enter Tryd.func11, Tryd.ntmps11
    go_wp2_with fail
    refine (hi _).mono ?_
    rintro e w1 ⟨rfl, rfl⟩
    unfold intA
    go_wp2_with fail
    refine bodyPost_ret (v := .tuple #[(ofA (.bool _)).1.c, .int .i64 0]) (by simp [results, Tryd.results11, go_sem, Va.c, ofA]; rfl) rfl ⟨rfl, (Below.refl _ _).alloc (Nat.le_refl _) _⟩)
  | int n =>
    simp only at h2 h4 h9
    unfold An.v at *
    go_enter Tryd.func11, Tryd.ntmps11
    go_wp2_with fail
    exact bodyPost_ret (v := .tuple #[Va.c ⟨1, n, ByteArray.empty⟩, .int .i64 0]) (by simp [results, Tryd.results11, go_sem, Va.c] <;> rfl) rfl ⟨rfl, (Below.refl _ _).alloc (Nat.le_refl _) _⟩
  | _ =>
    simp only at h2 h4 h9
    unfold An.v at *
    go_enter Tryd.func11, Tryd.ntmps11
    go_wp2_with fail
    exact bodyPost_ret (v := .tuple #[Va.c ⟨0, 0, ByteArray.empty⟩, .int .i64 20]) (by simp [results, Tryd.results11, go_sem, Va.c] <;> rfl) rfl ⟨rfl, (Below.refl _ _).alloc (Nat.le_refl _) _⟩
end Go.Proofs.YtcglhpagimkajaaDoor.Vl
set_option linter.unusedVariables false
set_option linter.unusedSimpArgs false
namespace Go.Proofs.YtcglhpagimkajaaDoor.Vl
open Go.RowKit Go.Proofs.YtcglhpagimkajaaDoor.B0 Go.Proofs.YtcglhpagimkajaaDoor.Pv Go.Proofs.YtcglhpagimkajaaDoorW.PrintWords

def rightB (x : Va) : Bool := if x.k = 1 then x.s.toList == [] else if x.k = 2 then (x.s.toList == [] && (x.n == 0 || x.n == 1)) else if x.k = 3 then (x.n == 0 && decide ((x.s.size : Int) ≤ 4096)) else false
theorem right_f (x : Va) : value_Right.f x.k x.n x.s = some (rightB x) := by
  unfold value_Right.f rightB
  split
  · rfl
  · split
    · split
      · rename_i h
        split
        · rename_i h2; simp [h, h2]
        · rename_i h2
          have : (x.n == 0) = false := by simpa using h2
          simp [h, this]
      · rename_i h
        have : (x.s.toList == []) = false := by simpa using h
        simp only [this, Bool.false_and]
    · split
      · split
        · rename_i h; simp [h]
        · rename_i h
          have : (x.n == 0) = false := by simpa using h
          simp [this]
      · rfl
theorem Right_c (x : Va) (w : World) : Calls Tryd.prog 17 #[x.c] w fun e w' => e = .returned (.bool (rightB x)) ∧ Below w.heap.size w w' :=
  value_Right.calls x.k x.n x.s _ w (right_f x)
def anyA (x : Va) : An := if rightB x = true then (if x.k = 1 then .int x.n else if x.k = 2 then .bool (x.n == 1) else .str x.s) else .nil

theorem kinds_of {x : Va} (h : rightB x = true) : x.k = 1 ∨ x.k = 2 ∨ x.k = 3 := by
  unfold rightB at h
  split at h
  · exact .inl ‹_›
  · split at h
    · exact .inr (.inl ‹_›)
    · split at h
      · exact .inr (.inr ‹_›)
      · cases h
set_option maxRecDepth 100000 in
set_option maxHeartbeats 1000000 in
theorem Any_c (x : Va) (w : World) : Calls Tryd.prog 9 #[x.c] w fun e w' => e = .returned (anyA x).v ∧ Below w.heap.size w w' := by
  obtain ⟨k, n, s⟩ := x
  have hbox : ∀ w1, Below (w.alloc (.cells #[.int .i64 k, .int .i64 n, .string s] 26)).heap.size (w.alloc (.cells #[.int .i64 k, .int .i64 n, .string s] 26)) w1 → w1.cell? ⟨w.heap.size, 0, none⟩ = some (.int .i64 k) ∧ w1.cell? ⟨w.heap.size, 1, none⟩ = some (.int .i64 n) ∧ w1.cell? ⟨w.heap.size, 2, none⟩ = some (.string s) := fun w1 h => by
    have hb : w1.heap[w.heap.size]? = some (.cells #[.int .i64 k, .int .i64 n, .string s] 26 (0, 0)) := (h.block _ (by rw [size_alloc]; omega)).trans (allocN w _)
    exact ⟨cellB hb 0, cellB hb 1, cellB hb 2⟩
  have HX := Lib.hid hbox; clear hbox
  cases hr : rightB ⟨k, n, s⟩ with
  | false =>
    have e1 : anyA ⟨k, n, s⟩ = .nil := by unfold anyA; rw [hr]; rfl
    rw [e1]
    have HR := Lib.hid hr; clear hr e1
    unfold Va.c
    go_enter Tryd.func9, Tryd.ntmps9
    go_wp2_with fail
    refine (Right_c ⟨k, n, s⟩ _).mono ?_
    rintro e w1 ⟨rfl, hb⟩
    rw [HR.out]
    have HB := Lib.hid hb; clear hb
    go_wp2_with fail
    go_ret
    exact ⟨rfl, ((Below.refl _ w).alloc (Nat.le_refl _) _).trans (HB.out.mono (by simp))⟩
  | true =>
    have hk := kinds_of hr
    simp only at hk
    rcases hk with rfl | rfl | rfl
    · have e1 : anyA ⟨1, n, s⟩ = .int n := by unfold anyA; rw [hr]; rfl
      rw [e1]
      have HR := Lib.hid hr; clear hr e1
      unfold Va.c An.v
      go_enter Tryd.func9, Tryd.ntmps9
      go_wp2_with fail
      refine (Right_c ⟨1, n, s⟩ _).mono ?_
      rintro e w1 ⟨rfl, hb⟩
      rw [HR.out]
      obtain ⟨c0, c1, c2⟩ := HX.out w1 hb
      have HB := Lib.hid hb; clear hb
      go_wp2_with fail
      go_ret
      exact ⟨rfl, ((Below.refl _ w).alloc (Nat.le_refl _) _).trans (HB.out.mono (by simp))⟩
    · have e1 : anyA ⟨2, n, s⟩ = .bool (n == 1) := by unfold anyA; rw [hr]; rfl
      rw [e1]
      have HR := Lib.hid hr; clear hr e1
      unfold Va.c An.v
      go_enter Tryd.func9, Tryd.ntmps9
      go_wp2_with fail
      refine (Right_c ⟨2, n, s⟩ _).mono ?_
      rintro e w1 ⟨rfl, hb⟩
      rw [HR.out]
      obtain ⟨c0, c1, c2⟩ := HX.out w1 hb
      have HB := Lib.hid hb; clear hb
      go_wp2_with fail
      go_ret
      exact ⟨rfl, ((Below.refl _ w).alloc (Nat.le_refl _) _).trans (HB.out.mono (by simp))⟩
    · have e1 : anyA ⟨3, n, s⟩ = .str s := by unfold anyA; rw [hr]; rfl
      rw [e1]
      have HR := Lib.hid hr; clear hr e1
      unfold Va.c An.v
      go_enter Tryd.func9, Tryd.ntmps9
      go_wp2_with fail
      refine (Right_c ⟨3, n, s⟩ _).mono ?_
      rintro e w1 ⟨rfl, hb⟩
      rw [HR.out]
      obtain ⟨c0, c1, c2⟩ := HX.out w1 hb
      have HB := Lib.hid hb; clear hb
      go_wp2_with fail
      go_ret
      exact ⟨rfl, ((Below.refl _ w).alloc (Nat.le_refl _) _).trans (HB.out.mono (by simp))⟩

theorem itoa5 : itoaS (-5) = ⟨#[45, 53]⟩ := by unfold itoaS; simp [Lib.itoa, Lib.decDigits]
theorem g5 : Tryd.prog.globalNamed "internal/strconv.uint64pow10" = some 0 := by kernel_rfl
theorem tabP.below {w w' : World} (h : tabP w) {B : Nat} (hb : Below B w w') (hB : w.heap.size ≤ B) : tabP w' := Joins.tab_stays g5 h hb hB
set_option maxRecDepth 100000 in
set_option maxHeartbeats 2000000 in
theorem alive04 (w : World) (ht : tabP w) : Calls Tryd.prog 8 #[] w fun e w' => e = .returned (.bool true) ∧ Below w.heap.size w w' := by
  have HT := Lib.hid ht; clear ht
  go_enter Tryd.func8, Tryd.ntmps8
  go_wp2_with fail
  refine (Of_c (.odd 5) w).mono ?_
  rintro e w1 ⟨rfl, hb⟩
  have H1 := Lib.hid hb; clear hb
  unfold ofA Va.c
  go_wp2_with fail
  refine (Of_c (.bool true) _).mono ?_
  rintro e w2 ⟨rfl, hb⟩
  have H2 : Hid (Below w.heap.size w w2) := (H1.out.alloc H1.out.size _).trans (hb.mono (by have := H1.out.size; simp; omega))
  clear hb
  unfold ofA Va.c
  go_wp2_with fail
  refine (Text_c (.int (-5)) ⟨by decide, by decide⟩ _ (HT.out.below (H2.out.alloc H2.out.size _) (Nat.le_refl _))).mono ?_
  rintro e w3 ⟨rfl, hb⟩
  have e1 : textA (.int (-5)) = ⟨#[45, 53]⟩ := itoa5
  rw [e1]
  clear e1
  have hb0 : w3.heap[w2.heap.size]? = some (.cells #[.int .i64 2, .int .i64 1, .string ByteArray.empty] 26 (0, 0)) := (hb.block _ (by rw [size_alloc]; omega)).trans (allocN w2 _)
  have c0 : w3.cell? ⟨w2.heap.size, 0, none⟩ = some (.int .i64 2) := cellB hb0 0
  have c1 : w3.cell? ⟨w2.heap.size, 1, none⟩ = some (.int .i64 1) := cellB hb0 1
  have H3 : Hid (Below w.heap.size w w3) := (H2.out.alloc H2.out.size _).trans (hb.mono (by have := H2.out.size; simp; omega))
  clear hb hb0
  go_wp2_with fail
  refine (Any_c ⟨0, 0, ByteArray.empty⟩ _).mono ?_
  rintro e w4 ⟨rfl, hb⟩
  have e1 : anyA ⟨0, 0, ByteArray.empty⟩ = .nil := rfl
  rw [e1]
  clear e1
  have H4 : Hid (Below w.heap.size w w4) := H3.out.trans (hb.mono H3.out.size)
  clear hb
  unfold An.v
  go_wp2_with fail
  go_ret
  exact ⟨rfl, H4.out⟩
end Go.Proofs.YtcglhpagimkajaaDoor.Vl
