/- window: the book of ints: At without a maker. -/
import Derived.Test.YtgnabgoenemccaaWn5
set_option linter.unusedVariables false
set_option linter.unusedSimpArgs false
namespace Go.Proofs.Ytgnabgoenemccaa.Wn
open Go.RowKit Go.Proofs.Ytgnabgoenemccaa.B0

theorem vI_lookup (M : List (Int × Int)) (k : Int) : (vI M).lookup k = (M.lookup k).map fun v => Value.int .i64 v := by
  induction M with
  | nil => rfl
  | cons a M ih =>
    simp only [vI, List.map_cons, List.lookup] at *
    cases (k == a.1) <;> simp [ih]
theorem lookup_none_iff {M : List (Int × Int)} {k : Int} : M.lookup k = none ↔ k ∉ M.map Prod.fst := by
  induction M with
  | nil => simp
  | cons a M ih =>
    simp only [List.lookup, List.map_cons, List.mem_cons, not_or]
    by_cases h : k = a.1
    · simp [h]
    · have : (k == a.1) = false := by simp [h]
      simp only [this, ih]
      exact ⟨fun hh => ⟨h, hh⟩, fun hh => hh.2⟩
theorem vI_keys (M : List (Int × Int)) : (vI M).map Prod.fst = M.map Prod.fst := by simp [vI, Function.comp_def]
theorem putM_new {M : List (Int × Int)} {k x : Int} (h : M.lookup k = none) : putM (vI M) k (.int .i64 x) = vI (M ++ [(k, x)]) := by
  unfold putM
  rw [if_neg (by rw [vI_keys]; exact lookup_none_iff.1 h)]
  simp [vI]

/-- what At answers where x is what would be kept. -/
def AtPost (w : World) (p mb width late most mark : Nat) (M : List (Int × Int)) (t : Nat) (x : Int) (F : List Nat) (asked : Bool → World → Prop) (e : Ending) (w' : World) : Prop :=
  (overN (t / width) width late mark = true ∧ e = .returned (.tuple #[.int .i64 0, .int .i64 40]) ∧ BookR w' p mb width late most mark M ∧ Fr [] w w' ∧ asked false w') ∨
  (overN (t / width) width late mark = false ∧ ∃ v, M.lookup ((t / width : Nat) : Int) = some v ∧ e = .returned (.tuple #[.int .i64 v, .int .i64 0]) ∧ BookR w' p mb width late most mark M ∧ Fr [] w w' ∧ asked false w') ∨
  (overN (t / width) width late mark = false ∧ M.lookup ((t / width : Nat) : Int) = none ∧ most ≤ M.length ∧ e = .returned (.tuple #[.int .i64 0, .int .i64 31]) ∧ BookR w' p mb width late most mark M ∧ Fr [] w w' ∧ asked false w') ∨
  (overN (t / width) width late mark = false ∧ M.lookup ((t / width : Nat) : Int) = none ∧ M.length < most ∧ e = .returned (.tuple #[.int .i64 x, .int .i64 0]) ∧ BookR w' p mb width late most mark (M ++ [(((t / width : Nat) : Int), x)]) ∧ Fr (mb :: F) w w' ∧ asked true w')
set_option maxHeartbeats 2000000 in
set_option maxRecDepth 100000 in
theorem At_n {w : World} {p mb width late most mark : Nat} {M : List (Int × Int)} (h : BookR w p mb width late most mark M) (t : Nat) (ht : t < 18446744073709551616) (hw : width ≤ 4611686018427387904) (hl : late ≤ 4611686018427387904) (hk : mark < 18446744073709551616) (hmo : most ≤ 65536) :
    Calls Try.prog 12 #[.pointer (some ⟨p, 0, none⟩), .int .u64 t, .nilFunc] w (AtPost w p mb width late most mark M t 0 [] (fun _ _ => True)) := by
  obtain ⟨n, hn⟩ : ∃ n, Hid (t / width = n ∧ n < 18446744073709551616) := ⟨_, rfl, Nat.lt_of_le_of_lt (Nat.div_le_self _ _) ht⟩
  have H0 := Lib.hid h; clear h
  have HH := Lib.hid (And.intro ht (And.intro hw (And.intro hl (And.intro hk hmo))))
  clear ht hw hl hk hmo
  have c0 : w.cell? ⟨p, 0, none⟩ = some (.int .u64 width) := cellB H0.out.blk 0
  go_enter Try.func12, Try.ntmps12
  go_wp2_with fail
  refine (WOf_c t width HH.out.1 w).mono ?_
  rintro e w1 ⟨rfl, hw1⟩
  subst hw1
  rw [hn.out.1]
  go_wp2_with fail
  refine (over_i H0.out n hn.out.2 HH.out.2.1 HH.out.2.2.1 HH.out.2.2.2.1).mono ?_
  rintro e w2 ⟨rfl, hw2⟩
  have F2 : Hid (Fr [] w1 w2) := by obtain ⟨j, rfl⟩ := hw2; exact (Fr.refl [] w1).drewN j
  have H2 : Hid (BookR w2 p mb width late most mark M) := H0.out.fr F2.out (by simp) (by simp)
  clear hw2 c0
  have d2 : w2.cell? ⟨p, 2, none⟩ = some (.int .i64 most) := cellB H2.out.blk 2
  have d4 : w2.cell? ⟨p, 4, none⟩ = some (.map (some mb)) := cellB H2.out.blk 4
  cases hov : overN n width late mark with
  | true =>
    have HOV := Lib.hid hov; clear hov
    go_wp2_with fail
    go_ret2
    exact .inl ⟨by rw [hn.out.1]; exact HOV.out, rfl, H2.out, F2.out, trivial⟩
  | false =>
    have HOV := Lib.hid hov; clear hov
    have hlk0 := H2.out.map.lookup_ok KBu Try.underlying61 (Try.zeroValue3 w2) (n : Int)
    rw [vI_lookup] at hlk0
    cases hlu : M.lookup (n : Int) with
    | some v =>
      rw [hlu] at hlk0
      have hlk : (Instr.lookup 61 (.map (some mb)) (.int .u64 (n : Int)) true).run Try.prog w2 = .ok (.tuple #[.int .i64 v, .bool true]) w2 := hlk0
      have HLU := Lib.hid hlu; clear hlu hlk0
      go_wp2_with fail
      go_ret2
      exact .inr (.inl ⟨by rw [hn.out.1]; exact HOV.out, v, by rw [hn.out.1]; exact HLU.out, rfl, H2.out, F2.out, trivial⟩)
    | none =>
      rw [hlu] at hlk0
      have hlk : (Instr.lookup 61 (.map (some mb)) (.int .u64 (n : Int)) true).run Try.prog w2 = .ok (.tuple #[.int .i64 0, .bool false]) w2 := hlk0
      have HLU := Lib.hid hlu; clear hlu hlk0
      obtain ⟨len, hlen⟩ : ∃ len, Hid (M.length = len ∧ (vI M).length = len) := ⟨_, rfl, by simp [vI]⟩
      have hml : ∀ k ty, (Builtin.len_ #[61] ty #[.map (some mb)]).run Try.prog (w2.drewN k) = .ok (.int .i64 len) (w2.drewN k) := fun k ty => by
        have := (H2.out.map.fr ((Fr.refl [] w2).drewN k) (by simp)).len (ty := ty) Try.underlying61
        rw [hlen.out.2] at this; exact this
      by_cases hf : most ≤ len
      · have f1 : decide ((most : Int) ≤ (len : Int)) = true := decide_eq_true (by omega)
        have f2 : decide (most ≤ len) = true := decide_eq_true hf
        have HF := Lib.hid hf; clear hf
        go_wp2_with fail
        go_quiet (fail)
        go_wp2_with fail
        go_ret2
        exact .inr (.inr (.inl ⟨by rw [hn.out.1]; exact HOV.out, by rw [hn.out.1]; exact HLU.out, by rw [hlen.out.1]; exact HF.out, rfl, H2.out.fr ((Fr.refl [] _).drewN _) (by simp) (by simp), F2.out.drewN _, trivial⟩))
      · have f1 : decide ((most : Int) ≤ (len : Int)) = false := decide_eq_false (by omega)
        have f2 : decide (most ≤ len) = false := decide_eq_false hf
        have HF := Lib.hid hf; clear hf
        go_wp2_with fail
        go_quiet (fail)
        clear d2 d4 hml hlk
        generalize hgw : World.drewN w2 _ = w3
        have F3 : Hid (Fr [] w1 w3) := by rw [← hgw]; exact F2.out.drewN _
        have H3 : Hid (BookR w3 p mb width late most mark M) := H0.out.fr F3.out (by simp) (by simp)
        clear hgw
        have d4 : w3.cell? ⟨p, 4, none⟩ = some (.map (some mb)) := cellB H3.out.blk 4
        have hfn : ∀ W, (binOp BinOp.neq 46 Value.nilFunc Value.nilFunc).run Try.prog W = .ok (.bool false) W := fun _ => by kernel_rfl
        obtain ⟨w4, hup, hm4, F4⟩ := H3.out.map.update KBu Try.underlying61 (n : Int) (.int .i64 0)
        have HM4 := Lib.hid hm4; have HF4 := Lib.hid F4; clear hm4 F4
        have hup' : (Instr.mapUpdate 61 (.map (some mb)) (.int .u64 (n : Int)) (.int .i64 0)).run Try.prog w3 = .ok () w4 := hup
        clear hup
        go_wp2_with fail
        go_ret2
        refine .inr (.inr (.inr ⟨by rw [hn.out.1]; exact HOV.out, by rw [hn.out.1]; exact HLU.out, by rw [hlen.out.1]; have := HF.out; omega, rfl, ?_, (F3.out.mono (by simp)).trans' HF4.out (by simp), trivial⟩))
        rw [hn.out.1]
        exact {
          blk := HF4.out.get H3.out.blk (by simpa using H3.out.ne)
          map := by rw [← putM_new HLU.out]; exact HM4.out
          keys := fun q hq => by
            rcases List.mem_append.1 hq with hq | hq
            · exact H3.out.keys q hq
            · obtain rfl : q = ((n : Int), 0) := by simpa using hq
              have := hn.out.2
              exact ⟨by show (0 : Int) ≤ (n : Int); omega, by show (n : Int) < 18446744073709551616; omega⟩
          len := by have := HF.out; have := hlen.out.1; simp; omega }
end Go.Proofs.Ytgnabgoenemccaa.Wn
