/- expo: what the library's variables hold; ParseUint, FormatUint, Itoa at the seat's dump. -/
import Derived.Test.YtdbmcikoiilanaaDoorMgExpoNames5
import Derived.Test.YtdbmcikoiilanaaDoorMgExpoNames7
import Derived.Test.YtdbmcikoiilanaaDoorMgExpoNames6
import Derived.Test.YtdbmcikoiilanaaDoorMgExpoNames2
import Derived.Lib.SmallJoins
import Derived.Lib.LaidTab
import Derived.Lib.ItoaMem
import Derived.Lib.AppendIntMem
import Derived.Lib.ParseIntBCases
set_option linter.unusedVariables false
set_option linter.unusedSimpArgs false
namespace Go.Proofs.YtdbmcikoiilanaaDoor.Xp
open Go.RowKit Go.Sort Go.Proofs.YtdbmcikoiilanaaDoor.B0 Go.Proofs.YtdbmcikoiilanaaDoorW.PrintWords Go.Proofs.YtdbmcikoiilanaaDoor.Bld

def tabP (w : World) : Prop := Lib.TabIs Tryd.prog w "internal/strconv.uint64pow10" .u64 Lib.pow10Tab
theorem g5 : Tryd.prog.globalNamed "internal/strconv.uint64pow10" = some 0 := by kernel_rfl
theorem tabP.below {w w' : World} (h : tabP w) {B : Nat} (hb : Below B w w') (hB : w.heap.size ≤ B) : tabP w' := Joins.tab_stays g5 h hb hB
theorem var_below {w w' : World} {n : String} {cs : Array Value} (h : w.var? Tryd.prog n = some cs) (hb : Below w.heap.size w w') : w'.var? Tryd.prog n = some cs := by
  unfold World.var? at h ⊢
  cases hg : Tryd.prog.globalNamed n with
  | none => simp [hg] at h
  | some g =>
    simp only [hg, Option.bind_some] at h ⊢
    have hlt : g < w.heap.size := by
      rcases Nat.lt_or_ge g w.heap.size with h' | h'
      · exact h'
      · simp [Array.getElem?_eq_none h'] at h
    rw [hb.block g hlt]
    exact h
/-- what the row says of the library's variables. -/
def LP (w : World) : Prop := tabP w ∧ (∃ tp p, w.var? Tryd.prog "strconv.ErrSyntax" = some #[.iface tp p]) ∧ (∃ tp p, w.var? Tryd.prog "strconv.ErrRange" = some #[.iface tp p])
theorem LP.below {w w' : World} (h : LP w) (hb : Below w.heap.size w w') : LP w' := by
  obtain ⟨h1, ⟨t1, p1, h3⟩, ⟨t2, p2, h4⟩⟩ := h
  exact ⟨h1.below hb (Nat.le_refl _), ⟨t1, p1, var_below h3 hb⟩, ⟨t2, p2, var_below h4 hb⟩⟩
/-- the library's variables lie below b: what changes blocks from b on leaves them. -/
def LPb (b : Nat) (w : World) : Prop := b ≤ w.heap.size ∧ ∀ w', Below b w w' → LP w'
theorem Below_drewN {B : Nat} {a b : World} (h : Below B a b) (n : Nat) : Below B a (b.drewN n) := ⟨h.os, h.tape, h.output, h.size, h.block⟩
theorem grow_below (w : World) (k : Nat) (os : Array Obj) : Below w.heap.size w (Go.Sort.grow (w.drewN k) os) :=
  ⟨rfl, rfl, rfl, by simp [Go.Sort.grow], fun i hi => by simp [Go.Sort.grow, Array.getElem?_append_left hi]⟩
theorem Itoa_i (n : Int) (h0 : -9223372036854775808 ≤ n) (h1 : n ≤ 9223372036854775807) (w : World) (ht : tabP w) :
    Calls Tryd.prog 29 #[.int .i64 n] w fun e w' => e = .returned (.string ⟨(Lib.itoa n).toArray⟩) ∧ Below w.heap.size w w' :=
  (Tryd.strconv_Itoa n h0 h1 w ht).mono fun e w' ⟨he, k, os, hw⟩ => ⟨he, by rw [hw]; exact grow_below w k os⟩
def strV (l : List UInt8) : Value := .string ⟨l.toArray⟩

/-- strconv.ParseUint(s, 10, 64), however it ends. -/
theorem ParseUint_c (s : ByteArray) (w : World) (hs : s.size ≤ 5000000) (h : LP w) :
    Calls Tryd.prog 39 #[.string s, .int .i64 10, .int .i64 64] w fun e w' => ((∃ u : Nat, numM s.data.toList = some u ∧ e = .returned (.tuple #[.int .u64 u, .nilIface])) ∨
      (numM s.data.toList = none ∧ ∃ (v : Int) (T : TypeId) (p : Value), e = .returned (.tuple #[.int .u64 v, .iface T p]))) ∧ Below w.heap.size w w' := by
  obtain ⟨_, ⟨t1, p1, h3⟩, ⟨t2, p2, h4⟩⟩ := h
  have e0 : Lib.parseUintB 64 s.data.toList = Lib.parseMag s.data.toList := Lib.parseUintB_64 _
  cases ha : Lib.parseMag s.data.toList with
  | ok u =>
    refine (Tryd.strconv_ParseUint_10_at64_ok s (by omega) u (by rw [e0, ha]) w).mono fun e w' ⟨he, hw⟩ => ⟨.inl ⟨u, by simp [numM, ha], he⟩, ?_⟩
    rcases hw with rfl | rfl
    · exact Below.refl _ _
    · exact Lib.bytesWorld_below _ _ _
  | «syntax» =>
    exact (Tryd.strconv_ParseUint_10_at64_syntax_var s (by omega) (by rw [e0, ha]) t1 p1 w h3).mono fun e w' ⟨N, he, _, _, hb⟩ => ⟨.inr ⟨by simp [numM, ha], 0, _, _, he⟩, hb⟩
  | range =>
    exact (Tryd.strconv_ParseUint_10_at64_range_var s (by omega) (by rw [e0, ha]) t2 p2 w h4).mono fun e w' ⟨N, he, _, _, hb⟩ => ⟨.inr ⟨by simp [numM, ha], 18446744073709551615, _, _, he⟩, hb⟩

set_option maxHeartbeats 4000000 in
set_option maxRecDepth 100000 in
theorem FormatUint_in (u : Nat) (hu : u < 18446744073709551616) (w : World) (ht : tabP w) :
    Calls Tryd.prog 35 #[.int .u64 u, .int .i64 10] w fun e w' => e = .returned (strV (Lib.decDigits u)) ∧ Below w.heap.size w w' := by
  by_cases hs : u < 100
  · have hq : decide ((u : Int) < 100) = true := decide_eq_true (by omega)
    have hw1 : IntKind.i64.wrap (u : Int) = u := by rw [IntKind.wrap_i64]; omega
    go_enter Tryd.func35, Tryd.ntmps35
    go_wp2_with fail
    refine (Tryd.internal_strconv_small u hs w).mono ?_
    rintro e w' ⟨rfl, rfl⟩
    go_wp2_with fail
    go_ret
    exact ⟨rfl, Below.refl _ _⟩
  · have hq : decide ((u : Int) < 100) = false := decide_eq_false (by omega)
    have hu1 : 1 ≤ u := by omega
    have hnd20 : Lib.nDigits u ≤ 20 := by have := Lib.numDigits_eq u hu1 hu; split at this <;> omega
    obtain ⟨nd, hnd⟩ : ∃ nd, Hid (Lib.nDigits u = nd) := ⟨_, Lib.hid rfl⟩
    rw [hnd.out] at hnd20
    have hal : Tryd.prog.arrayLen 110 = 24 := by kernel_rfl
    have hsl : ∀ W, (Instr.sliceAt 110 (.pointer (some ⟨w.heap.size, 0, none⟩)) none (some (.int .i64 (nd : Int))) none).run Tryd.prog W = .ok (.slice (some ⟨w.heap.size, 0, none⟩) nd 24) W := fun W => by
      rw [run_sliceAt_array_h W 110 ⟨w.heap.size, 0, none⟩ (by kernel_rfl) .i64 (nd : Int) (by omega) (by rw [hal]; omega)]
      go_simp
    have hH0 := Lib.holds_zero0 w 110 nd (by omega)
    have hfmt := Tryd.internal_strconv_formatBase10 w.heap.size 0 24 u (Array.replicate nd 0) (w.alloc (.cells Lib.zeros24 110)) hH0 (by rw [Array.size_replicate, ← hnd.out]; exact Lib.lt_pow_nDigits u) hu (by rw [Array.size_replicate]; omega)
    rw [Array.size_replicate] at hfmt
    have HH0 := Lib.hid hH0
    have HF := Lib.hid hfmt
    have HN := Lib.hid (Tryd.internal_strconv_numDigits u hu1 hu (w.alloc (.cells Lib.zeros24 110)) (Lib.tabIs_alloc ht _))
    rw [hnd.out] at HN
    clear hH0 hfmt
    go_enter Tryd.func35, Tryd.ntmps35
    go_wp2_with fail
    refine HN.out.mono ?_
    rintro e w' ⟨rfl, rfl⟩
    go_wp2_with fail
    refine HF.out.mono ?_
    rintro e w' ⟨rfl, k, v', dk, rfl, hF⟩
    have hcv : (convert 73 9 (.slice (some ⟨w.heap.size, 0, none⟩) nd 24)).run Tryd.prog ((putRow (fun (b : UInt8) => Value.int .u8 (b.toNat : Int)) (w.alloc (.cells Lib.zeros24 110)) w.heap.size 0 dk).drewN k) = .ok (.string ⟨(Lib.decDigits u).toArray⟩) ((putRow (fun (b : UInt8) => Value.int .u8 (b.toNat : Int)) (w.alloc (.cells Lib.zeros24 110)) w.heap.size 0 dk).drewN k) := by
      rw [← hnd.out] at hF
      have hsz : dk.size = (Array.replicate nd (0 : UInt8)).size := by rw [hF.size, Array.size_replicate, hnd.out]
      have h := run_convert_bytes_back (P := Tryd.prog) ((putRow (fun (b : UInt8) => Value.int .u8 (b.toNat : Int)) (w.alloc (.cells Lib.zeros24 110)) w.heap.size 0 dk).drewN k) 73 9 5 ⟨w.heap.size, 0, none⟩ 24 (Lib.decDigits u) Tryd.underlying73 Tryd.underlying5 Tryd.underlying9 (fun j hj => by
        rw [Lib.row_is_numeral hF j hj, Lib.add_plain, World.cell?_drewN]
        exact cell?_putRow (fun (b : UInt8) => Value.int .u8 (b.toNat : Int)) _ w.heap.size 0 _ dk HH0.out hsz j (by rw [hsz, Array.size_replicate, ← hnd.out]; rw [Lib.decDigits_length] at hj; exact hj))
      rw [Lib.decDigits_length, hnd.out] at h
      exact h
    go_wp2_with fail
    go_ret
    refine ⟨rfl, Below_drewN ?_ k⟩
    rw [alloc_eq_grow]
    obtain ⟨os', _, e⟩ := putRow_grow_new (fun (b : UInt8) => Value.int .u8 (b.toNat : Int)) w #[.cells Lib.zeros24 110] w.heap.size 0 dk (Nat.le_refl _)
    rw [e]
    exact ⟨rfl, rfl, rfl, by simp [Go.Sort.grow], fun i hi => by simp [Go.Sort.grow, Array.getElem?_append_left hi]⟩
set_option maxRecDepth 100000 in
theorem FormatUint_c (u : Nat) (hu : u < 18446744073709551616) (w : World) (ht : tabP w) :
    Calls Tryd.prog 23 #[.int .u64 u, .int .i64 10] w fun e w' => e = .returned (strV (Lib.decDigits u)) ∧ Below w.heap.size w w' := by
  have HF := Lib.hid (FormatUint_in u hu w ht)
  go_enter Tryd.func23, Tryd.ntmps23
  go_wp2_with fail
  refine HF.out.mono ?_
  rintro e w' ⟨rfl, hb⟩
  have HB := Lib.hid hb; clear hb
  go_wp2_with fail
  go_ret
  exact ⟨rfl, HB.out⟩
end Go.Proofs.YtdbmcikoiilanaaDoor.Xp
