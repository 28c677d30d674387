/- HeapNil: the law's walk. -/
import Derived.Test.YtfeikcfhionjkaaHeapAlive
import Derived.Test.YtfeikcfhionjkaaOp
set_option linter.unusedVariables false
set_option linter.unusedSimpArgs false
namespace Go.Proofs.Ytfeikcfhionjkaa.Hp
open Go.RowKit Go.Proofs.Ytfeikcfhionjkaa.B0
theorem Nil_put (w : World) (id t : Int) : Calls Try.prog 12 #[.pointer none, .int .u64 id, .int .u64 t] w (fun e w' => e = .returned (.bool false) ∧ w = w') := by
  go_enter Try.func12, Try.ntmps12
  go_wp2_with fail
  go_ret
  exact ⟨rfl, rfl⟩
theorem Nil_drop (w : World) (id : Int) : Calls Try.prog 15 #[.pointer none, .int .u64 id] w (fun e w' => e = .returned (.bool false) ∧ w = w') := by
  go_enter Try.func15, Try.ntmps15
  go_wp2_with fail
  go_ret
  exact ⟨rfl, rfl⟩
theorem Nil_at (w : World) (id : Int) : Calls Try.prog 24 #[.pointer none, .int .u64 id] w (fun e w' => e = .returned (.tuple #[.int .u64 0, .bool false]) ∧ w = w') := by
  go_enter Try.func24, Try.ntmps24
  go_wp2_with fail
  go_ret2
  exact ⟨rfl, rfl⟩
theorem Nil_first (w : World) : Calls Try.prog 14 #[.pointer none] w (fun e w' => e = .returned (.tuple #[.int .u64 0, .int .u64 0, .bool false]) ∧ w = w') := by
  go_enter Try.func14, Try.ntmps14
  go_wp2_with fail
  go_ret3
  exact ⟨rfl, rfl⟩
theorem Nil_len (w : World) : Calls Try.prog 13 #[.pointer none] w (fun e w' => e = .returned (.int .i64 0) ∧ w = w') := by
  go_enter Try.func13, Try.ntmps13
  go_wp2_with fail
  go_ret
  exact ⟨rfl, rfl⟩
theorem Nil_until (w : World) (t : Int) : Calls Try.prog 23 #[.pointer none, .int .u64 t] w (fun e w' => e = .returned (.slice none 0 0) ∧ w = w') := by
  go_enter Try.func23, Try.ntmps23
  go_wp2_with fail
  go_ret
  exact ⟨rfl, rfl⟩
end Go.Proofs.Ytfeikcfhionjkaa.Hp
namespace Go.Proofs.Ytfeikcfhionjkaa.heapNil
open Go.RowKit Go.Proofs.Ytfeikcfhionjkaa.B0 Go.Proofs.Ytfeikcfhionjkaa.Hp
set_option maxRecDepth 100000 in
set_option maxHeartbeats 4000000 in
theorem heapNil_walk (w : World) (a0 : Int) (w0 : (Lit.int .u64 a0).wf = true) (a1 : Int) (w1 : (Lit.int .u64 a1).wf = true) :
    Calls Try.prog 9 #[.int .u64 a0, .int .u64 a1] w fun e w' => e = .returned (.bool true) ∧ Below w.heap.size w w' := by
  clear w0 w1
  go_enter Try.func9, Try.ntmps9
  go_wp2_with fail
  refine (alive12 w).mono ?_
  rintro e wa ⟨rfl, hFa⟩
  have HFa := Lib.hid hFa; clear hFa
  go_wp2_with (first | (go_at_call 24; refine (Nil_at _ _).mono ?_; rintro e w' ⟨rfl, rfl⟩) | (go_at_call 14; refine (Nil_first _).mono ?_; rintro e w' ⟨rfl, rfl⟩) | (go_at_call 12; refine (Nil_put _ _ _).mono ?_; rintro e w' ⟨rfl, rfl⟩) | (go_at_call 15; refine (Nil_drop _ _).mono ?_; rintro e w' ⟨rfl, rfl⟩) | (go_at_call 23; refine (Nil_until _ _).mono ?_; rintro e w' ⟨rfl, rfl⟩) | (go_at_call 13; refine (Nil_len _).mono ?_; rintro e w' ⟨rfl, rfl⟩))
  go_ret
  exact ⟨rfl, HFa.out.below⟩
end Go.Proofs.Ytfeikcfhionjkaa.heapNil
