/- Struct types as kinds, as the kit's print wrote them (taken over by the session's program pick.py). The order of strings, byte by byte. No program. -/
import Derived.Test.YtkmfgacfccgdcaaDoorProg
import Derived.Below
import Derived.Deep.Draws
import Derived.Deep.AppendLies
import Derived.Maps.AppendAt
import Derived.OwnWalk
import Derived.Laws.BytesArg
import Derived.Laws.MakeOwn
import Derived.Laws.OwnMore
import Derived.Deep.OwnRows
import Derived.Tactics
import Derived.Lib.ConvBytes
import Derived.Laws.Slices
import Derived.WalkKit
import Derived.KernelRfl
import Derived.RowKit3
import Derived.Deep.LoopGhost
import Derived.Deep.QuietTactic
import Derived.BigQuiet
import Derived.WideLaws
import Derived.Deep.DeepCutAuto
import Derived.Deep.CutBlock
import Derived.Deep.RegionHeld3
import Derived.Laws.Rows
import Derived.Lib.AppendStr
import Derived.ArgAppend
import Derived.Laws.IdiomCopy
import Derived.OrdersHeld
import Derived.Laws.BitsLemmas
import Derived.RowKit
import Derived.Test.YtkmfgacfccgdcaaDoorWWords
import Derived.Test.YtkmfgacfccgdcaaDoorWLast
import Derived.Test.YtkmfgacfccgdcaaDoorWTab
import Derived.Test.YtkmfgacfccgdcaaDoorWFour
import Derived.Test.YtkmfgacfccgdcaaDoorWQPut
import Derived.Test.YtkmfgacfccgdcaaDoorWApart
import Derived.Test.YtkmfgacfccgdcaaDoorWArr
import Derived.Test.YtkmfgacfccgdcaaDoorWZeros
import Derived.Test.YtkmfgacfccgdcaaDoorWFoot
import Derived.Test.YtkmfgacfccgdcaaDoorWKept
import Derived.Test.YtkmfgacfccgdcaaDoorWShare
import Derived.Test.YtkmfgacfccgdcaaDoorWN
import Derived.Test.YtkmfgacfccgdcaaDoorWFootNe
import Derived.Test.YtkmfgacfccgdcaaDoorWAt
import Derived.Test.YtkmfgacfccgdcaaDoorWEqStruct
import Derived.Test.YtkmfgacfccgdcaaDoorWRepsOne
import Derived.Test.YtkmfgacfccgdcaaDoorWInv
import Derived.Test.YtkmfgacfccgdcaaDoorWInvWords
import Derived.Test.YtkmfgacfccgdcaaDoorWGuard
import Derived.Test.YtkmfgacfccgdcaaDoorWNEv
import Derived.Test.YtkmfgacfccgdcaaDoorWMore
namespace Go.Proofs.YtkmfgacfccgdcaaDoor.Ps
open Go.RowKit Go.Proofs.YtkmfgacfccgdcaaDoorW.PrintWords Go.Proofs.YtkmfgacfccgdcaaDoorW.PrintLast Go.Proofs.YtkmfgacfccgdcaaDoorW.PrintMore
attribute [local go_sem] max2_int min2_int max_two min_two max_three min_three max_four min_four   -- for this text's walks alone
set_option linter.unusedVariables false
set_option linter.unusedSimpArgs false



def errW : Option Int → Value
  | none => .nilIface
  | some c => .iface 0 (.int .i64 c)
theorem errW_none : errW none = .nilIface := rfl
theorem errW_some (c : Int) : errW (some c) = .iface 0 (.int .i64 c) := rfl

-- the values' own types


end Go.Proofs.YtkmfgacfccgdcaaDoor.Ps
namespace Go.Proofs.YtkmfgacfccgdcaaDoor.By

theorem bl_irrefl : ∀ a : List UInt8, Op.bytesLess a a = false
  | [] => rfl
  | x :: a => by
    have := bl_irrefl a
    simp [Op.bytesLess, this]
theorem bl_total : ∀ {a b : List UInt8}, Op.bytesLess a b = false → Op.bytesLess b a = false → a = b
  | [], [], _, _ => rfl
  | [], y :: b, h, _ => by simp [Op.bytesLess] at h
  | x :: a, [], _, h => by simp [Op.bytesLess] at h
  | x :: a, y :: b, h1, h2 => by
    simp only [Op.bytesLess, Bool.or_eq_false_iff, decide_eq_false_iff_not, Bool.and_eq_false_iff, beq_eq_false_iff_ne, ne_eq] at h1 h2
    have hxy : x = y := UInt8.le_antisymm (UInt8.not_lt.1 h2.1) (UInt8.not_lt.1 h1.1)
    subst hxy
    have e1 : Op.bytesLess a b = false := by rcases h1.2 with h | h; exact absurd rfl h; exact h
    have e2 : Op.bytesLess b a = false := by rcases h2.2 with h | h; exact absurd rfl h; exact h
    rw [bl_total e1 e2]
theorem bl_trans : ∀ {a b c : List UInt8}, Op.bytesLess a b = true → Op.bytesLess b c = true → Op.bytesLess a c = true
  | a, b, [], _, h2 => by cases b <;> simp [Op.bytesLess] at h2
  | [], b, z :: c, _, _ => rfl
  | x :: a, [], z :: c, h1, _ => by simp [Op.bytesLess] at h1
  | x :: a, y :: b, z :: c, h1, h2 => by
    simp only [Op.bytesLess, Bool.or_eq_true, decide_eq_true_eq, Bool.and_eq_true, beq_iff_eq] at h1 h2 ⊢
    rcases h1 with h1 | ⟨rfl, h1⟩
    · rcases h2 with h2 | ⟨rfl, h2⟩
      · exact .inl (UInt8.lt_trans h1 h2)
      · exact .inl h1
    · rcases h2 with h2 | ⟨rfl, h2⟩
      · exact .inl h2
      · exact .inr ⟨rfl, bl_trans h1 h2⟩
theorem bl_asymm {a b : List UInt8} (h : Op.bytesLess a b = true) : Op.bytesLess b a = false := by
  cases hb : Op.bytesLess b a with
  | false => rfl
  | true => have := bl_trans h hb; rw [bl_irrefl] at this; cases this
theorem beq_of_less {a b : List UInt8} (h : Op.bytesLess b a = true) : (a == b) = false := by
  rw [beq_eq_false_iff_ne]
  rintro rfl
  rw [bl_irrefl] at h; cases h
theorem beq_of_not {a b : List UInt8} (h1 : Op.bytesLess a b = false) (h2 : Op.bytesLess b a = false) : (a == b) = true := by rw [bl_total h1 h2]; simp
end Go.Proofs.YtkmfgacfccgdcaaDoor.By
