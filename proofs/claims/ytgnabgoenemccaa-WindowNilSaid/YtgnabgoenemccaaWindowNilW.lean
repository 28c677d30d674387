/- WindowNil: the law's walk. -/
import Derived.Test.YtgnabgoenemccaaWn8
import Derived.Test.YtgnabgoenemccaaOp
set_option linter.unusedVariables false
set_option linter.unusedSimpArgs false
namespace Go.Proofs.Ytgnabgoenemccaa.windowNil
open Go.RowKit Go.Proofs.Ytgnabgoenemccaa.B0 Go.Proofs.Ytgnabgoenemccaa.Wn
theorem Nil_at (w : World) (t : Int) : Calls Try.prog 23 #[.pointer none, .int .u64 t, .nilFunc] w (fun e w' => e = .returned (.tuple #[.string ⟨#[]⟩, .int .i64 3]) ∧ w = w') := by
  go_enter Try.func23, Try.ntmps23
  go_wp2_with fail
  go_ret2
  exact ⟨rfl, rfl⟩
theorem Nil_take (w : World) (t : Int) : Calls Try.prog 24 #[.pointer none, .int .u64 t] w (fun e w' => e = .returned (.tuple #[.string ⟨#[]⟩, .bool false]) ∧ w = w') := by
  go_enter Try.func24, Try.ntmps24
  go_wp2_with fail
  go_ret2
  exact ⟨rfl, rfl⟩
theorem Nil_look (w : World) (t : Int) : Calls Try.prog 25 #[.pointer none, .int .u64 t] w (fun e w' => e = .returned (.tuple #[.string ⟨#[]⟩, .bool false]) ∧ w = w') := by
  go_enter Try.func25, Try.ntmps25
  go_wp2_with fail
  go_ret2
  exact ⟨rfl, rfl⟩
theorem Nil_seal (w : World) (t : Int) : Calls Try.prog 26 #[.pointer none, .int .u64 t] w (fun e w' => e = .returned (.slice none 0 0) ∧ Below w.heap.size w w') := by
  go_enter Try.func26, Try.ntmps26
  go_wp2_with fail
  go_ret
  exact ⟨rfl, (Below.refl _ _).alloc (Nat.le_refl _) _⟩
theorem Nil_open (w : World) : Calls Try.prog 27 #[.pointer none] w (fun e w' => e = .returned (.slice none 0 0) ∧ w = w') := by
  go_enter Try.func27, Try.ntmps27
  go_wp2_with fail
  go_ret
  exact ⟨rfl, rfl⟩
theorem Nil_mark (w : World) : Calls Try.prog 28 #[.pointer none] w (fun e w' => e = .returned (.int .u64 0) ∧ w = w') := by
  go_enter Try.func28, Try.ntmps28
  go_wp2_with fail
  go_ret
  exact ⟨rfl, rfl⟩
set_option maxHeartbeats 4000000 in
set_option maxRecDepth 100000 in
theorem windowNil_walk (w : World) (a0 : Int) (w0 : (Lit.int .u64 a0).wf = true) :
    Calls Try.prog 6 #[.int .u64 a0] w fun e w' => e = .returned (.bool true) ∧ Below w.heap.size w w' := by
  clear w0
  go_enter Try.func6, Try.ntmps6
  go_wp2_with fail
  refine (alive19 w).mono ?_
  rintro e wa ⟨rfl, hFa⟩
  have HFa := Lib.hid hFa; clear hFa
  go_wp2_with fail
  refine (Nil_at _ _).mono ?_
  rintro e w' ⟨rfl, rfl⟩
  go_wp2_with fail
  refine (Nil_take _ _).mono ?_
  rintro e w' ⟨rfl, rfl⟩
  go_wp2_with fail
  refine (Nil_look _ _).mono ?_
  rintro e w' ⟨rfl, rfl⟩
  go_wp2_with fail
  refine (Nil_seal _ _).mono ?_
  rintro e w3 ⟨rfl, hs⟩
  have HS := Lib.hid hs; clear hs
  go_wp2_with fail
  refine (Nil_open _).mono ?_
  rintro e w' ⟨rfl, rfl⟩
  go_wp2_with fail
  refine (Nil_mark _).mono ?_
  rintro e w' ⟨rfl, rfl⟩
  go_wp2_with fail
  go_ret
  exact ⟨rfl, HFa.out.trans (HS.out.mono HFa.out.size)⟩
end Go.Proofs.Ytgnabgoenemccaa.windowNil
