/-
  No cell of these rows narrows 'for every input' (looked for: loops, veiled, ifaces, maps, wideKeys, modest, calm, conditions, laid).
  DERIVED. THE GIVEN ROWS OF THIS SEAT. 7 by the template 'for every input the law returns true; each argument reads behind the call as it read before'; 0 by the template 'total and deterministic' (their statements: YtfeikcfhionjkaaTotals.lean).
  GIVEN WITH THE SEED: the statements are not yours to turn. If you find one false, say at which input.
  Laid BY PROGRAM, IN A SANDBOX (cutbox-rows.mjs): the forced cells as the released guide's own fill.sh prints them over the translation 9cd9448eb8548376… (all of the seat's roots in one cut). By AI agents, Wed Nov 11 2026. No macro, syntax, notation, axiom, sorry.
-/
import Derived.Test.YtfeikcfhionjkaaChecked
import GoSem.Claim
import GoSem.ClaimJoined
import GoSem.ClaimMapViews
import Derived.JoinedTies
import Derived.KernelRfl
namespace Go.Proofs.Ytfeikcfhionjkaa
/- THE CELL 'sum', in the pinned program and in every row, IS THE sha256 OF THE DUMP (.gsa) THAT YtfeikcfhionjkaaProg.lean LOADS. Nothing in Lean hashes anything: it is a label: what it is worth is what the hold of that sum in a sandbox is worth. -/
noncomputable def Try.pinned : Pinned := { name := "ytfeikcfhionjkaa", sum := "9cd9448eb85483767e296042c80c8141908d3212f8932fc3bdb3ba62974eef2d", checked := Try.checked }
namespace Rows
def none {H : Type} : Left H := { results := [], args := [] }

/-- 'tallyroomlaw12.HeapSorts': WHATEVER THE INPUT: true; the input reads as it did. -/
def heapSortsSpec : ChangeSpec := { name := "heapSorts", fn := fun _ => fun
  | [d1, d2] => { results := [.lit (.bool true)], args := [d1, d2] }
  | _ => none }
def heapSortsRow : OpenClaim := { program := "ytfeikcfhionjkaa", sum := "9cd9448eb85483767e296042c80c8141908d3212f8932fc3bdb3ba62974eef2d", func := "tallyroom/tallyroomlaw12.HeapSorts", spec := "heapSorts", unfollowed := true, recurses := true, apart := false }
def HeapSortsSaid : Prop := heapSortsRow.holds Try.pinned (OpenSpec.ofChange heapSortsSpec)

/-- ITS FALSE NEIGHBOUR: 'it returns false'. Refute it at one input. -/
def heapSortsWrong : ChangeSpec := { name := "heapSorts", fn := fun _ => fun
  | [d1, d2] => { results := [.lit (.bool false)], args := [d1, d2] }
  | _ => none }
def HeapSortsWrongFalsely : Prop := heapSortsRow.holds Try.pinned (OpenSpec.ofChange heapSortsWrong)

/-- 'tallyroomlaw14.TombPlays': WHATEVER THE INPUT: true; the input reads as it did. -/
def tombPlaysSpec : ChangeSpec := { name := "tombPlays", fn := fun _ => fun
  | [d1, d2, d3] => { results := [.lit (.bool true)], args := [d1, d2, d3] }
  | _ => none }
def tombPlaysRow : OpenClaim := { program := "ytfeikcfhionjkaa", sum := "9cd9448eb85483767e296042c80c8141908d3212f8932fc3bdb3ba62974eef2d", func := "tallyroom/tallyroomlaw14.TombPlays", spec := "tombPlays", unfollowed := true, recurses := true, apart := false }
def TombPlaysSaid : Prop := tombPlaysRow.holds Try.pinned (OpenSpec.ofChange tombPlaysSpec)

/-- ITS FALSE NEIGHBOUR: 'it returns false'. Refute it at one input. -/
def tombPlaysWrong : ChangeSpec := { name := "tombPlays", fn := fun _ => fun
  | [d1, d2, d3] => { results := [.lit (.bool false)], args := [d1, d2, d3] }
  | _ => none }
def TombPlaysWrongFalsely : Prop := tombPlaysRow.holds Try.pinned (OpenSpec.ofChange tombPlaysWrong)

/-- 'tallyroomlaw14.TombKeeps': WHATEVER THE INPUT: true; the input reads as it did. -/
def tombKeepsSpec : ChangeSpec := { name := "tombKeeps", fn := fun _ => fun
  | [d1, d2, d3] => { results := [.lit (.bool true)], args := [d1, d2, d3] }
  | _ => none }
def tombKeepsRow : OpenClaim := { program := "ytfeikcfhionjkaa", sum := "9cd9448eb85483767e296042c80c8141908d3212f8932fc3bdb3ba62974eef2d", func := "tallyroom/tallyroomlaw14.TombKeeps", spec := "tombKeeps", unfollowed := true, recurses := true, apart := false }
def TombKeepsSaid : Prop := tombKeepsRow.holds Try.pinned (OpenSpec.ofChange tombKeepsSpec)

/-- ITS FALSE NEIGHBOUR: 'it returns false'. Refute it at one input. -/
def tombKeepsWrong : ChangeSpec := { name := "tombKeeps", fn := fun _ => fun
  | [d1, d2, d3] => { results := [.lit (.bool false)], args := [d1, d2, d3] }
  | _ => none }
def TombKeepsWrongFalsely : Prop := tombKeepsRow.holds Try.pinned (OpenSpec.ofChange tombKeepsWrong)

/-- 'tallyroomlaw14.TombOrder': WHATEVER THE INPUT: true; the input reads as it did. -/
def tombOrderSpec : ChangeSpec := { name := "tombOrder", fn := fun _ => fun
  | [d1, d2, d3, d4] => { results := [.lit (.bool true)], args := [d1, d2, d3, d4] }
  | _ => none }
def tombOrderRow : OpenClaim := { program := "ytfeikcfhionjkaa", sum := "9cd9448eb85483767e296042c80c8141908d3212f8932fc3bdb3ba62974eef2d", func := "tallyroom/tallyroomlaw14.TombOrder", spec := "tombOrder", unfollowed := true, recurses := true, apart := false }
def TombOrderSaid : Prop := tombOrderRow.holds Try.pinned (OpenSpec.ofChange tombOrderSpec)

/-- ITS FALSE NEIGHBOUR: 'it returns false'. Refute it at one input. -/
def tombOrderWrong : ChangeSpec := { name := "tombOrder", fn := fun _ => fun
  | [d1, d2, d3, d4] => { results := [.lit (.bool false)], args := [d1, d2, d3, d4] }
  | _ => none }
def TombOrderWrongFalsely : Prop := tombOrderRow.holds Try.pinned (OpenSpec.ofChange tombOrderWrong)

/-- 'tallyroomlaw12.HeapUntil': WHATEVER THE INPUT: true; the input reads as it did. -/
def heapUntilSpec : ChangeSpec := { name := "heapUntil", fn := fun _ => fun
  | [d1, d2, d3, d4] => { results := [.lit (.bool true)], args := [d1, d2, d3, d4] }
  | _ => none }
def heapUntilRow : OpenClaim := { program := "ytfeikcfhionjkaa", sum := "9cd9448eb85483767e296042c80c8141908d3212f8932fc3bdb3ba62974eef2d", func := "tallyroom/tallyroomlaw12.HeapUntil", spec := "heapUntil", unfollowed := true, recurses := true, apart := false }
def HeapUntilSaid : Prop := heapUntilRow.holds Try.pinned (OpenSpec.ofChange heapUntilSpec)

/-- ITS FALSE NEIGHBOUR: 'it returns false'. Refute it at one input. -/
def heapUntilWrong : ChangeSpec := { name := "heapUntil", fn := fun _ => fun
  | [d1, d2, d3, d4] => { results := [.lit (.bool false)], args := [d1, d2, d3, d4] }
  | _ => none }
def HeapUntilWrongFalsely : Prop := heapUntilRow.holds Try.pinned (OpenSpec.ofChange heapUntilWrong)

/-- 'tallyroomlaw12.HeapPlays': WHATEVER THE INPUT: true; the input reads as it did. -/
def heapPlaysSpec : ChangeSpec := { name := "heapPlays", fn := fun _ => fun
  | [d] => { results := [.lit (.bool true)], args := [d] }
  | _ => none }
def heapPlaysRow : OpenClaim := { program := "ytfeikcfhionjkaa", sum := "9cd9448eb85483767e296042c80c8141908d3212f8932fc3bdb3ba62974eef2d", func := "tallyroom/tallyroomlaw12.HeapPlays", spec := "heapPlays", unfollowed := true, recurses := true, apart := false }
def HeapPlaysSaid : Prop := heapPlaysRow.holds Try.pinned (OpenSpec.ofChange heapPlaysSpec)

/-- ITS FALSE NEIGHBOUR: 'it returns false'. Refute it at one input. -/
def heapPlaysWrong : ChangeSpec := { name := "heapPlays", fn := fun _ => fun
  | [d] => { results := [.lit (.bool false)], args := [d] }
  | _ => none }
def HeapPlaysWrongFalsely : Prop := heapPlaysRow.holds Try.pinned (OpenSpec.ofChange heapPlaysWrong)

/-- 'tallyroomlaw12.HeapNil': WHATEVER THE INPUT: true; the input reads as it did. -/
def heapNilSpec : ChangeSpec := { name := "heapNil", fn := fun _ => fun
  | [d1, d2] => { results := [.lit (.bool true)], args := [d1, d2] }
  | _ => none }
def heapNilRow : OpenClaim := { program := "ytfeikcfhionjkaa", sum := "9cd9448eb85483767e296042c80c8141908d3212f8932fc3bdb3ba62974eef2d", func := "tallyroom/tallyroomlaw12.HeapNil", spec := "heapNil", unfollowed := true, recurses := true, apart := false }
def HeapNilSaid : Prop := heapNilRow.holds Try.pinned (OpenSpec.ofChange heapNilSpec)

/-- ITS FALSE NEIGHBOUR: 'it returns false'. Refute it at one input. -/
def heapNilWrong : ChangeSpec := { name := "heapNil", fn := fun _ => fun
  | [d1, d2] => { results := [.lit (.bool false)], args := [d1, d2] }
  | _ => none }
def HeapNilWrongFalsely : Prop := heapNilRow.holds Try.pinned (OpenSpec.ofChange heapNilWrong)

/- THE SECOND FORM. 'bulk': how many values and letters a reading holds, each counted each time it is reached (what is shared counts as often as it is met; a slice's spare places count too). A statement '..UptoSaid' is the law's where the arguments, and the package variables that the reading takes, are together of bulk at most 1048576: NARROWER than '..Said'. Prove '..Said' where nothing that the law and all that it calls make is longer than what came in: it says more and counts as full. Else prove '..UptoSaid'. A law counts once. -/
mutual
def uptoBulk {H : Type} : DataW H → Nat
  | .lit (.string bytes) => bytes.length + 1
  | .lit _ => 1
  | .nil => 1
  | .ptr d => uptoBulk d + 1
  | .slice elems spare => uptoBulkAll elems + uptoBulkAll spare + 1
  | .agg parts => uptoBulkAll parts + 1
  | .iface _ d => uptoBulk d + 1
  | .map entries => uptoBulkEntries entries + 1
  | .held _ => 1
def uptoBulkAll {H : Type} : List (DataW H) → Nat
  | [] => 0
  | d :: r => uptoBulk d + uptoBulkAll r
def uptoBulkEntries {H : Type} : List (Lit × DataW H) → Nat
  | [] => 0
  | x :: r => uptoBulkEntry x + uptoBulkEntries r
def uptoBulkEntry {H : Type} : Lit × DataW H → Nat
  | (.string bytes, d) => bytes.length + uptoBulk d + 1
  | (_, d) => uptoBulk d + 1
 end
def uptoSmall : (H : Type) → List (DataW H) → Bool := fun _ ds => decide (uptoBulkAll ds ≤ 1048576)
def OpenSpec.upto (s : _root_.Go.ChangeSpec) : _root_.Go.OpenSpec := { _root_.Go.OpenSpec.ofChange s with cond := some uptoSmall }

/-- 'tallyroomlaw12.HeapSorts', WHERE WHAT IT READS IS OF BULK AT MOST 1048576: true; the input reads as it did. -/
def heapSortsUptoRow : OpenClaim := { program := "ytfeikcfhionjkaa", sum := "9cd9448eb85483767e296042c80c8141908d3212f8932fc3bdb3ba62974eef2d", func := "tallyroom/tallyroomlaw12.HeapSorts", spec := "heapSorts", unfollowed := true, recurses := true, apart := false, narrowed := true }
def HeapSortsUptoSaid : Prop := heapSortsUptoRow.holds Try.pinned (OpenSpec.upto heapSortsSpec)

/-- 'tallyroomlaw14.TombPlays', WHERE WHAT IT READS IS OF BULK AT MOST 1048576: true; the input reads as it did. -/
def tombPlaysUptoRow : OpenClaim := { program := "ytfeikcfhionjkaa", sum := "9cd9448eb85483767e296042c80c8141908d3212f8932fc3bdb3ba62974eef2d", func := "tallyroom/tallyroomlaw14.TombPlays", spec := "tombPlays", unfollowed := true, recurses := true, apart := false, narrowed := true }
def TombPlaysUptoSaid : Prop := tombPlaysUptoRow.holds Try.pinned (OpenSpec.upto tombPlaysSpec)

/-- 'tallyroomlaw14.TombKeeps', WHERE WHAT IT READS IS OF BULK AT MOST 1048576: true; the input reads as it did. -/
def tombKeepsUptoRow : OpenClaim := { program := "ytfeikcfhionjkaa", sum := "9cd9448eb85483767e296042c80c8141908d3212f8932fc3bdb3ba62974eef2d", func := "tallyroom/tallyroomlaw14.TombKeeps", spec := "tombKeeps", unfollowed := true, recurses := true, apart := false, narrowed := true }
def TombKeepsUptoSaid : Prop := tombKeepsUptoRow.holds Try.pinned (OpenSpec.upto tombKeepsSpec)

/-- 'tallyroomlaw14.TombOrder', WHERE WHAT IT READS IS OF BULK AT MOST 1048576: true; the input reads as it did. -/
def tombOrderUptoRow : OpenClaim := { program := "ytfeikcfhionjkaa", sum := "9cd9448eb85483767e296042c80c8141908d3212f8932fc3bdb3ba62974eef2d", func := "tallyroom/tallyroomlaw14.TombOrder", spec := "tombOrder", unfollowed := true, recurses := true, apart := false, narrowed := true }
def TombOrderUptoSaid : Prop := tombOrderUptoRow.holds Try.pinned (OpenSpec.upto tombOrderSpec)

/-- 'tallyroomlaw12.HeapUntil', WHERE WHAT IT READS IS OF BULK AT MOST 1048576: true; the input reads as it did. -/
def heapUntilUptoRow : OpenClaim := { program := "ytfeikcfhionjkaa", sum := "9cd9448eb85483767e296042c80c8141908d3212f8932fc3bdb3ba62974eef2d", func := "tallyroom/tallyroomlaw12.HeapUntil", spec := "heapUntil", unfollowed := true, recurses := true, apart := false, narrowed := true }
def HeapUntilUptoSaid : Prop := heapUntilUptoRow.holds Try.pinned (OpenSpec.upto heapUntilSpec)

/-- 'tallyroomlaw12.HeapPlays', WHERE WHAT IT READS IS OF BULK AT MOST 1048576: true; the input reads as it did. -/
def heapPlaysUptoRow : OpenClaim := { program := "ytfeikcfhionjkaa", sum := "9cd9448eb85483767e296042c80c8141908d3212f8932fc3bdb3ba62974eef2d", func := "tallyroom/tallyroomlaw12.HeapPlays", spec := "heapPlays", unfollowed := true, recurses := true, apart := false, narrowed := true }
def HeapPlaysUptoSaid : Prop := heapPlaysUptoRow.holds Try.pinned (OpenSpec.upto heapPlaysSpec)

/-- 'tallyroomlaw12.HeapNil', WHERE WHAT IT READS IS OF BULK AT MOST 1048576: true; the input reads as it did. -/
def heapNilUptoRow : OpenClaim := { program := "ytfeikcfhionjkaa", sum := "9cd9448eb85483767e296042c80c8141908d3212f8932fc3bdb3ba62974eef2d", func := "tallyroom/tallyroomlaw12.HeapNil", spec := "heapNil", unfollowed := true, recurses := true, apart := false, narrowed := true }
def HeapNilUptoSaid : Prop := heapNilUptoRow.holds Try.pinned (OpenSpec.upto heapNilSpec)

end Rows
end Go.Proofs.Ytfeikcfhionjkaa
