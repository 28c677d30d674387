/- expo: text.Key, as a Call. -/
import Derived.Test.YtdbmcikoiilanaaDoorMgExpoNames8
import Derived.LoopTactic
import Derived.Lib.OthersKept
import Derived.Laws.RangeAny
import Derived.WalkSmall
import Derived.WalkSpells
set_option linter.unusedVariables false
set_option linter.unusedSimpArgs false
namespace Go.Proofs.YtdbmcikoiilanaaDoor.Xp
open Go.RowKit Go.Proofs.YtdbmcikoiilanaaDoor.B0 Go.Proofs.YtdbmcikoiilanaaDoorW.PrintWords Go.Proofs.YtdbmcikoiilanaaDoor.Bld

/-- the bytes so far may stand in a key. -/
def preK : BL → Bool
  | [] => true
  | c :: r => isA c && r.all isK
theorem key_pre (l : BL) : keyL l = (!(l == []) && preK l && decide (l.length ≤ 64)) := by
  cases l with
  | nil => rfl
  | cons c r => simp [keyL, preK]
theorem pre_zero (L : BL) (c : UInt8) (h : L[0]? = some c) : preK (L.take 1) = isA c := by
  cases L with
  | nil => simp at h
  | cons a r => simp at h; subst h; simp [preK]
theorem pre_succ (L : BL) (p : Nat) (c : UInt8) (hp : 0 < p) (h : L[p]? = some c) : preK (L.take (p + 1)) = (preK (L.take p) && isK c) := by
  obtain ⟨hl, e⟩ := List.getElem?_eq_some_iff.1 h
  rw [List.take_succ_eq_append_getElem hl, e]
  cases L with
  | nil => simp at hl
  | cons a r =>
    obtain ⟨q, rfl⟩ : ∃ q, p = q + 1 := ⟨p - 1, by omega⟩
    simp [preK, List.all_append, Bool.and_assoc]
theorem pre_false (L : BL) (p : Nat) (h : preK (L.take p) = false) : preK L = false := by
  cases L with
  | nil => simp at h; exact h
  | cons a r =>
    cases p with
    | zero => simp [preK] at h
    | succ p =>
      simp only [List.take_succ_cons, preK, Bool.and_eq_false_iff, List.all_eq_false] at h ⊢
      rcases h with h | ⟨x, hx, h⟩
      · exact .inl h
      · exact .inr ⟨x, List.mem_of_mem_take hx, h⟩
/-- a rune's class, from the rune. -/
def clsR (r : Nat) (first : Bool) : Bool := (decide (97 ≤ r) && decide (r ≤ 122)) || (decide (65 ≤ r) && decide (r ≤ 90)) || r == 95 || (!first && ((decide (48 ≤ r) && decide (r ≤ 57)) || r == 46))
theorem cls_ascii (c : UInt8) (first : Bool) : clsR c.toNat first = if first then isA c else isK c := by
  have key : (List.range 256).all (fun k => clsR k true == isA (UInt8.ofNat k) && clsR k false == isK (UInt8.ofNat k)) = true := by decide +kernel
  have := List.all_eq_true.1 key c.toNat (List.mem_range.2 c.toNat_lt)
  rw [UInt8.ofNat_toNat] at this
  simp only [Bool.and_eq_true, beq_iff_eq] at this
  cases first
  · exact this.2
  · exact this.1
theorem cls_high (r : Nat) (h : 128 ≤ r) (first : Bool) : clsR r first = false := by
  unfold clsR
  rw [decide_eq_false (by omega : ¬ r ≤ 122), decide_eq_false (by omega : ¬ r ≤ 90), decide_eq_false (by omega : ¬ r ≤ 57), beq_eq_false_iff_ne.2 (by omega : r ≠ 95), beq_eq_false_iff_ne.2 (by omega : r ≠ 46)]
  cases first <;> simp
theorem isA_high (c : UInt8) (h : 128 ≤ c.toNat) : isA c = false ∧ isK c = false := by
  rw [← show clsR c.toNat true = isA c from cls_ascii c true, ← show clsR c.toNat false = isK c from cls_ascii c false]
  exact ⟨cls_high _ h _, cls_high _ h _⟩
theorem byteOfBool {p : Prop} [Decidable p] : decide p = true ∨ decide p = false := by cases decide p <;> simp

set_option maxHeartbeats 8000000 in
set_option maxRecDepth 100000 in
theorem Key_c (s : ByteArray) (hs : s.size ≤ 200000000) (w : World) :
    Calls Tryd.prog 31 #[.string s] w fun e w' => e = .returned (.bool (keyL s.data.toList)) ∧ Below w.heap.size w w' := by
  obtain ⟨L, HLs⟩ : ∃ L, Hid (s.data.toList = L) := ⟨_, Lib.hid rfl⟩
  have hLl : L.length = s.size := by rw [← HLs.out]; rfl
  have HLl := Lib.hid hLl; clear hLl
  rw [HLs.out]
  go_enter Tryd.func31, Tryd.ntmps31
  have hq0 : IntKind.i64.wrap 0 = 0 := by decide
  go_wp2_with fail
  go_loopw [] (fun wr => ∃ pos : Nat, Hid (pos ≤ s.size ∧ wr.heap[w.heap.size]? = some (.stringIter s pos) ∧ Below w.heap.size w wr ∧ preK (L.take pos) = true)) (fun wr => s.size - wr.iterPos w.heap.size)
  case atStart => exact ⟨0, Nat.zero_le _, World.iter_heap w s 0, (Below.refl _ _).alloc (Nat.le_refl _) _, rfl⟩
  case round =>
    obtain ⟨pos, HW⟩ := hrel
    have hsz : w.heap.size < wr.heap.size := (Array.getElem?_eq_some_iff.1 HW.out.2.1).1
    by_cases hp : pos < s.size
    · have hnx : ∀ ty, (Instr.next (.pointer (some ⟨w.heap.size, 0, none⟩)) true ty).run Tryd.prog wr = _ := fun ty => Lib.run_next_any_at wr w.heap.size s pos ty HW.out.2.1 hp
      obtain ⟨r, hr⟩ : ∃ r : Nat, Hid ((Utf8.decode s pos).1 = r) := ⟨_, Lib.hid rfl⟩
      obtain ⟨wd, hwd⟩ : ∃ wd : Nat, Hid ((Utf8.decode s pos).2 = wd) := ⟨_, Lib.hid rfl⟩
      obtain ⟨c, hc⟩ : ∃ c, Hid (L[pos]? = some c) := by
        have hpl : pos < L.length := by rw [HLl.out]; exact hp
        exact ⟨L[pos], Lib.hid (List.getElem?_eq_getElem hpl)⟩
      have hrc : Hid ((c.toNat = r ∧ wd = 1) ∨ (128 ≤ r ∧ 128 ≤ c.toNat)) := by
        have h2 : s.data.toList[pos]? = some c := by rw [HLs.out]; exact hc.out
        obtain ⟨_, e⟩ := List.getElem?_eq_some_iff.1 h2
        have e2 : s[pos]'hp = c := e
        rcases Nat.lt_or_ge c.toNat 128 with h128 | h128
        · have := decode_ascii s pos hp (by rw [e2]; exact h128)
          rw [this] at hr hwd
          exact .inl ⟨by rw [← hr.out, e2], hwd.out.symm⟩
        · have := decode_high s pos hp (by rw [e2]; exact h128)
          exact .inr ⟨by rw [← hr.out]; exact this.1, h128⟩
      have hrm : (r : Int) ≤ 2147483647 := by have := decode_le s pos; have h2 := hr.out; omega
      rw [hr.out, hwd.out] at hnx
      obtain ⟨wn, hwn⟩ : ∃ wn : World, Hid (wr.iterAt w.heap.size s (pos + wd) = wn) := ⟨_, Lib.hid rfl⟩
      rw [hwn.out] at hnx
      obtain ⟨q, hq⟩ : ∃ q, Hid (clsR r (decide (pos = 0)) = q) := ⟨_, Lib.hid rfl⟩
      have HB : Hid (Below w.heap.size w wn) := by rw [← hwn.out]; exact Lib.below_iterAt HW.out.2.2.1 (k := w.heap.size) (Nat.le_refl _) s (pos + wd)
      have HI : Hid (wn.heap[w.heap.size]? = some (.stringIter s (pos + wd))) := by rw [← hwn.out]; exact Lib.iterAt_heap wr w.heap.size s pos (pos + wd) HW.out.2.1
      have hnext : preK (L.take (pos + 1)) = (if pos = 0 then isA c else isK c) := by
        rcases Nat.eq_zero_or_pos pos with h0 | h0
        · subst h0; rw [if_pos rfl]; exact pre_zero L c hc.out
        · rw [if_neg (by omega), pre_succ L pos c h0 hc.out, HW.out.2.2.2, Bool.true_and]
      have hqc : q = (if pos = 0 then isA c else isK c) := by
        rw [← hq.out]
        rcases hrc.out with ⟨e, _⟩ | ⟨h1, h2⟩
        · rw [← e, cls_ascii]
          by_cases h0 : pos = 0 <;> simp [h0]
        · rw [cls_high r h1]
          by_cases h0 : pos = 0 <;> simp [h0, isA_high c h2]
      have Hq : Hid (q = true → wd = 1 ∧ preK (L.take (pos + 1)) = true) := fun e => by
        refine ⟨?_, by rw [hnext, ← hqc, e]⟩
        rcases hrc.out with ⟨_, e2⟩ | ⟨h1, _⟩
        · exact e2
        · rw [← hq.out, cls_high r h1] at e; cases e
      have Hf : Hid (q = false → keyL L = false) := fun e => by
        rw [key_pre, pre_false L (pos + 1) (by rw [hnext, ← hqc, e])]; simp
      clear hnext hqc
      have hms : wr.iterPos w.heap.size = pos := iterPos_of HW.out.2.1
      have hrng : r < 46 ∨ r = 46 ∨ r = 47 ∨ (48 ≤ r ∧ r ≤ 57) ∨ (58 ≤ r ∧ r ≤ 64) ∨ (65 ≤ r ∧ r ≤ 90) ∨ (91 ≤ r ∧ r ≤ 94) ∨ r = 95 ∨ r = 96 ∨ (97 ≤ r ∧ r ≤ 122) ∨ 123 ≤ r := by omega
      have hp0 : (decide ((0 : Int) < (pos : Int)) = false ∧ decide (0 < pos) = false ∧ pos = 0) ∨ (decide ((0 : Int) < (pos : Int)) = true ∧ decide (0 < pos) = true ∧ 0 < pos) := by
        rcases Nat.eq_zero_or_pos pos with h | h
        · exact .inl ⟨decide_eq_false (by omega), decide_eq_false (by omega), h⟩
        · exact .inr ⟨decide_eq_true (by omega), decide_eq_true (by omega), h⟩
      rcases hrng with h | h | h | h | h | h | h | h | h | h | h <;> rcases hp0 with ⟨hz1, hz2, hz⟩ | ⟨hz1, hz2, hz⟩ <;>
        (rcases byteOfBool (p := (97 : Int) ≤ (r : Int)) with f1 | f1 <;> try (exfalso; simp only [decide_eq_true_iff, decide_eq_false_iff_not] at f1; omega)) <;>
        (rcases byteOfBool (p := (r : Int) ≤ 122) with f2 | f2 <;> try (exfalso; simp only [decide_eq_true_iff, decide_eq_false_iff_not] at f2; omega)) <;>
        (rcases byteOfBool (p := (65 : Int) ≤ (r : Int)) with f3 | f3 <;> try (exfalso; simp only [decide_eq_true_iff, decide_eq_false_iff_not] at f3; omega)) <;>
        (rcases byteOfBool (p := (r : Int) ≤ 90) with f4 | f4 <;> try (exfalso; simp only [decide_eq_true_iff, decide_eq_false_iff_not] at f4; omega)) <;>
        (rcases byteOfBool (p := (48 : Int) ≤ (r : Int)) with f6 | f6 <;> try (exfalso; simp only [decide_eq_true_iff, decide_eq_false_iff_not] at f6; omega)) <;>
        (rcases byteOfBool (p := (r : Int) ≤ 57) with f7 | f7 <;> try (exfalso; simp only [decide_eq_true_iff, decide_eq_false_iff_not] at f7; omega)) <;>
        (rcases Bool.eq_false_or_eq_true ((r : Int) == 95) with f5 | f5 <;> try (exfalso; simp only [beq_iff_eq, beq_eq_false_iff_ne] at f5; omega)) <;>
        (rcases Bool.eq_false_or_eq_true ((r : Int) == 46) with f8 | f8 <;> try (exfalso; simp only [beq_iff_eq, beq_eq_false_iff_ne] at f8; omega)) <;>
        (rcases Bool.eq_false_or_eq_true q with hqv | hqv <;> try (exfalso; rw [← hq.out] at hqv; simp only [clsR, Bool.or_eq_true, Bool.and_eq_true, decide_eq_true_iff, beq_iff_eq, Bool.not_eq_true', decide_eq_false_iff_not, Bool.or_eq_false_iff, Bool.and_eq_false_iff, beq_eq_false_iff_ne, Bool.not_eq_false', ne_eq] at hqv; omega)) <;>
        (have HV := Lib.hid hqv
         clear h hz hqv
         go_wp2_with fail
         first
         | (go_roundw
            case rel => exact ⟨pos + 1, by have := (Hq.out HV.out).1; have := HI.out; omega, by have h1 := (Hq.out HV.out).1; have h2 := HI.out; rw [h1] at h2; exact h2, HB.out, (Hq.out HV.out).2⟩
            case measure => rw [iterPos_of HI.out, hms]; have := (Hq.out HV.out).1; omega)
         | (go_ret
            exact ⟨by show Ending.returned (.bool false) = _; rw [Hf.out HV.out], HB.out⟩))
    · have hpe : pos = s.size := by have := HW.out.1; omega
      have hnx : ∀ ty, (Instr.next (.pointer (some ⟨w.heap.size, 0, none⟩)) true ty).run Tryd.prog wr = _ := fun ty => Lib.run_next_end_at wr w.heap.size s pos ty HW.out.2.1 (by omega)
      have hpr : preK L = true := by have := HW.out.2.2.2; rwa [List.take_of_length_le (by have := HLl.out; omega)] at this
      have HK : Hid (keyL L = (!(L == []) && decide (s.size ≤ 64))) := by show _ = _; rw [key_pre, hpr, HLl.out, Bool.and_true]
      have HB : Hid (Below w.heap.size w wr) := HW.out.2.2.1
      clear hpr hpe HW hsz
      rcases Bool.eq_false_or_eq_true (L == []) with h1 | h1
      · have hq1 : (s.toList == []) = true := by rw [ByteArray.toList_eq, HLs.out, h1]
        have HK2 : Hid (keyL L = false) := by show _ = _; rw [HK.out, h1]; rfl
        go_wp2_with fail
        go_ret
        exact ⟨by show Ending.returned (.bool false) = _; rw [HK2.out], HB.out⟩
      · have hq1 : (s.toList == []) = false := by rw [ByteArray.toList_eq, HLs.out, h1]
        rcases byteOfBool (p := s.size ≤ 64) with h2 | h2
        · have hq2 : decide ((s.size : Int) ≤ 64) = true := by simp only [decide_eq_true_iff] at h2 ⊢; omega
          have HK2 : Hid (keyL L = true) := by show _ = _; rw [HK.out, h1, h2]; rfl
          go_wp2_with fail
          go_ret
          exact ⟨by show Ending.returned (.bool true) = _; rw [HK2.out], HB.out⟩
        · have hq2 : decide ((s.size : Int) ≤ 64) = false := by simp only [decide_eq_false_iff_not] at h2 ⊢; omega
          have HK2 : Hid (keyL L = false) := by show _ = _; rw [HK.out, h1, h2]; rfl
          go_wp2_with fail
          go_ret
          exact ⟨by show Ending.returned (.bool false) = _; rw [HK2.out], HB.out⟩
end Go.Proofs.YtdbmcikoiilanaaDoor.Xp
