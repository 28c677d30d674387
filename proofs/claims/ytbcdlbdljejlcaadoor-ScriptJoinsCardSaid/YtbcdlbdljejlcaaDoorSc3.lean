/- script: what the library's variables hold; Split, Cut, Atoi, Itoa at the seat's dump; small. -/
import Derived.Test.YtbcdlbdljejlcaaDoorSc2
import Derived.Test.YtbcdlbdljejlcaaDoorBld
import Derived.Test.YtbcdlbdljejlcaaDoorSh
import Derived.Test.YtbcdlbdljejlcaaDoorLayA
import Derived.Shelf.Strconv.ErrVarAll
import Derived.Lib.SmallJoins
import Derived.Lib.LaidTab
import Derived.Lib.AtoiAllCases
set_option linter.unusedVariables false
set_option linter.unusedSimpArgs false
namespace Go.Proofs.YtbcdlbdljejlcaaDoor.Sc
open Go.RowKit Go.Proofs.YtbcdlbdljejlcaaDoor.B0 Go.Proofs.YtbcdlbdljejlcaaDoor.Ps Go.Proofs.YtbcdlbdljejlcaaDoorW.PrintWords Go.Proofs.YtbcdlbdljejlcaaDoor.Bld

def tabP (w : World) : Prop := Lib.TabIs Tryd.prog w "internal/strconv.uint64pow10" .u64 Lib.pow10Tab
theorem g5 : Tryd.prog.globalNamed "internal/strconv.uint64pow10" = some 3 := by kernel_rfl
theorem tabP.below {w w' : World} (h : tabP w) {B : Nat} (hb : Below B w w') (hB : w.heap.size ≤ B) : tabP w' := Joins.tab_stays g5 h hb hB
theorem var_below {w w' : World} {n : String} {cs : Array Value} (h : w.var? Tryd.prog n = some cs) (hb : Below w.heap.size w w') : w'.var? Tryd.prog n = some cs := by
  unfold World.var? at h ⊢
  cases hg : Tryd.prog.globalNamed n with
  | none => simp [hg] at h
  | some g =>
    simp only [hg, Option.bind_some] at h ⊢
    have hlt : g < w.heap.size := by
      rcases Nat.lt_or_ge g w.heap.size with h' | h'
      · exact h'
      · simp [Array.getElem?_eq_none h'] at h
    rw [hb.block g hlt]
    exact h
/-- what the row says of the library's variables. -/
def LP (w : World) : Prop := tabP w ∧ (∃ m, w.cell? ⟨0, 0, none⟩ = some (.int .i64 m)) ∧ (∃ tp p, w.var? Tryd.prog "strconv.ErrSyntax" = some #[.iface tp p]) ∧ (∃ tp p, w.var? Tryd.prog "strconv.ErrRange" = some #[.iface tp p])
theorem LP.below {w w' : World} (h : LP w) (hb : Below w.heap.size w w') : LP w' := by
  obtain ⟨h1, ⟨m, h2⟩, ⟨t1, p1, h3⟩, ⟨t2, p2, h4⟩⟩ := h
  refine ⟨h1.below hb (Nat.le_refl _), ⟨m, ?_⟩, ⟨t1, p1, var_below h3 hb⟩, ⟨t2, p2, var_below h4 hb⟩⟩
  rw [World.cell?_of_block (hb.block _ (World.block_lt_of_cell? w _ h2))]
  exact h2
theorem LP.to {w w' : World} {B : Nat} (h : LP w) (hb : Below B w w') (hB : w.heap.size ≤ B) : LP w' := h.below (hb.mono hB)

theorem Below_drewN {B : Nat} {a b : World} (h : Below B a b) (n : Nat) : Below B a (b.drewN n) := ⟨h.os, h.tape, h.output, h.size, h.block⟩
theorem grow_below (w : World) (k : Nat) (os : Array Obj) : Below w.heap.size w (Go.Sort.grow (w.drewN k) os) :=
  ⟨rfl, rfl, rfl, by simp [Go.Sort.grow], fun i hi => by simp [Go.Sort.grow, Array.getElem?_append_left hi]⟩
theorem Itoa_i (n : Int) (h0 : -9223372036854775808 ≤ n) (h1 : n ≤ 9223372036854775807) (w : World) (ht : tabP w) :
    Calls Tryd.prog 27 #[.int .i64 n] w fun e w' => e = .returned (.string ⟨(Lib.itoa n).toArray⟩) ∧ Below w.heap.size w w' :=
  (Tryd.strconv_Itoa n h0 h1 w ht).mono fun e w' ⟨he, k, os, hw⟩ => ⟨he, by rw [hw]; exact grow_below w k os⟩

def strV (l : List UInt8) : Value := .string ⟨l.toArray⟩
theorem Split_c (s : ByteArray) (w : World) (hs : s.size ≤ 5000000) (h : LP w) :
    Calls Tryd.prog 23 #[.string s, .string ⟨#[32]⟩] w fun e w' =>
      e = .returned (.slice (some ⟨w.heap.size, 0, none⟩) (wordsL s.data.toList).length (wordsL s.data.toList).length) ∧ w' = w.alloc (.cells ((wordsL s.data.toList).map strV).toArray 9) := by
  obtain ⟨_, ⟨m, hm⟩, _⟩ := h
  refine (Tryd.strings_Split s ⟨#[32]⟩ m w (by omega) hm (by decide)).mono fun e w' ⟨he, hw⟩ => ?_
  have e1 : Lib.countB s ⟨#[32]⟩ = s.data.toList.count 32 := Lib.count_one 32 s.data.toList
  have e2 : (Lib.splitB ⟨#[32]⟩ 0 (Lib.countB s ⟨#[32]⟩) s).map (·.data.toList) = wordsL s.data.toList := by
    rw [Lib.splitB_data, e1]; exact split_words _ _ rfl
  have e3 : (Lib.splitB ⟨#[32]⟩ 0 (Lib.countB s ⟨#[32]⟩) s).length = Lib.countB s ⟨#[32]⟩ + 1 := Lib.splitB_all ⟨#[32]⟩ (by decide) 0 _ s rfl
  have e4 : Lib.countB s ⟨#[32]⟩ + 1 = (wordsL s.data.toList).length := by rw [← e3, ← e2, List.length_map]
  rw [← e4]
  refine ⟨he, ?_⟩
  rw [hw, ← e2, List.map_map]
  congr 2
theorem Cut_c (s : ByteArray) (w : World) (hs : s.size ≤ 5000000) (h : LP w) :
    Calls Tryd.prog 15 #[.string s, .string ⟨#[10]⟩] w fun e w' =>
      e = .returned (.tuple #[.string ⟨(Lib.cut s.data.toList [10]).1.toArray⟩, .string ⟨(Lib.cut s.data.toList [10]).2.1.toArray⟩, .bool (Lib.cut s.data.toList [10]).2.2]) ∧ Below w.heap.size w w' := by
  obtain ⟨_, ⟨m, hm⟩, _⟩ := h
  exact (Tryd.strings_Cut s ⟨#[10]⟩ m w (by omega) hm).mono fun e w' ⟨he, n, hw⟩ => ⟨he, by rw [hw]; exact Below_drewN (Below.refl _ _) n⟩
/-- strconv.Atoi, however it ends. -/
theorem Atoi_c (s : ByteArray) (w : World) (hs : s.size ≤ 5000000) (h : LP w) :
    Calls Tryd.prog 31 #[.string s] w fun e w' => ((∃ v, Lib.atoiAll s.data.toList = .ok v ∧ e = .returned (.tuple #[.int .i64 v, .nilIface])) ∨
      ((smallL s.data.toList).2 = false ∧ ∃ T p, e = .returned (.tuple #[.int .i64 (smallL s.data.toList).1, .iface T p]))) ∧ Below w.heap.size w w' := by
  obtain ⟨_, _, ⟨t1, p1, h3⟩, ⟨t2, p2, h4⟩⟩ := h
  cases ha : Lib.atoiAll s.data.toList with
  | ok v =>
    refine (Any.strconv_Atoi_ok Tryd.layA s (by omega) v ha w).mono fun e w' ⟨he, hw⟩ => ⟨.inl ⟨v, rfl, he⟩, ?_⟩
    rcases hw with rfl | ⟨t, rfl⟩
    · exact Below.refl _ _
    · exact Lib.bytesWorld_below _ _ _
  | «syntax» =>
    have e1 : smallL s.data.toList = (0, false) := by simp [smallL, ha]
    exact (Any.strconv_Atoi_syntax_var Tryd.layA s (by omega) ha t1 p1 w h3).mono fun e w' ⟨N, he, _, _, hb⟩ => by rw [e1]; exact ⟨.inr ⟨rfl, _, _, he⟩, hb⟩
  | range =>
    have e1 : smallL s.data.toList = (Lib.atoiSat s.data.toList, false) := by simp [smallL, ha]
    exact (Any.strconv_Atoi_range_var Tryd.layA s (by omega) ha t2 p2 w h4).mono fun e w' ⟨N, he, _, _, hb⟩ => by rw [e1]; exact ⟨.inr ⟨rfl, _, _, he⟩, hb⟩
end Go.Proofs.YtbcdlbdljejlcaaDoor.Sc
