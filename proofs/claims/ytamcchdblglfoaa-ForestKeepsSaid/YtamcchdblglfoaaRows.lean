/-
  No cell of these rows narrows 'for every input' (looked for: loops, veiled, ifaces, maps, wideKeys, modest, calm, conditions, laid).
  DERIVED. THE GIVEN ROWS OF THIS SEAT. 11 by the template 'for every input the law returns true; each argument reads behind the call as it read before'; 0 by the template 'total and deterministic' (their statements: YtamcchdblglfoaaTotals.lean).
  GIVEN WITH THE SEED: the statements are not yours to turn. If you find one false, say at which input.
  Laid BY PROGRAM, IN A SANDBOX (cutbox-rows.mjs): the forced cells as the released guide's own fill.sh prints them over the translation 2d6dd85f97bcc747… (all of the seat's roots in one cut). By AI agents, Wed Nov 11 2026. No macro, syntax, notation, axiom, sorry.
-/
import Derived.Test.YtamcchdblglfoaaChecked
import GoSem.Claim
import GoSem.ClaimJoined
import GoSem.ClaimMapViews
import Derived.JoinedTies
import Derived.KernelRfl
namespace Go.Proofs.Ytamcchdblglfoaa
/- THE CELL 'sum', in the pinned program and in every row, IS THE sha256 OF THE DUMP (.gsa) THAT YtamcchdblglfoaaProg.lean LOADS. Nothing in Lean hashes anything: it is a label: what it is worth is what the hold of that sum in a sandbox is worth. -/
noncomputable def Try.pinned : Pinned := { name := "ytamcchdblglfoaa", sum := "2d6dd85f97bcc74720c9a6776da13c6b5eae3021a4cbd188b09e55db585ffa17", checked := Try.checked }
namespace Rows
def none {H : Type} : Left H := { results := [], args := [] }

/-- 'tallyroomlaw17.ForestBuilds': WHATEVER THE INPUT: true; the input reads as it did. -/
def forestBuildsSpec : ChangeSpec := { name := "forestBuilds", fn := fun _ => fun
  | [d1, d2, d3] => { results := [.lit (.bool true)], args := [d1, d2, d3] }
  | _ => none }
def forestBuildsRow : OpenClaim := { program := "ytamcchdblglfoaa", sum := "2d6dd85f97bcc74720c9a6776da13c6b5eae3021a4cbd188b09e55db585ffa17", func := "tallyroom/tallyroomlaw17.ForestBuilds", spec := "forestBuilds", inPlace := ["internal/bytealg.abigen_runtime_cmpstring"], unfollowed := true, recurses := true, plainKeys := false, apart := false }
def ForestBuildsSaid : Prop := forestBuildsRow.holds Try.pinned (OpenSpec.ofChange forestBuildsSpec)

/-- ITS FALSE NEIGHBOUR: 'it returns false'. Refute it at one input. -/
def forestBuildsWrong : ChangeSpec := { name := "forestBuilds", fn := fun _ => fun
  | [d1, d2, d3] => { results := [.lit (.bool false)], args := [d1, d2, d3] }
  | _ => none }
def ForestBuildsWrongFalsely : Prop := forestBuildsRow.holds Try.pinned (OpenSpec.ofChange forestBuildsWrong)

/-- 'tallyroomlaw17.ForestOnce': WHATEVER THE INPUT: true; the input reads as it did. -/
def forestOnceSpec : ChangeSpec := { name := "forestOnce", fn := fun _ => fun
  | [d1, d2, d3, d4] => { results := [.lit (.bool true)], args := [d1, d2, d3, d4] }
  | _ => none }
def forestOnceRow : OpenClaim := { program := "ytamcchdblglfoaa", sum := "2d6dd85f97bcc74720c9a6776da13c6b5eae3021a4cbd188b09e55db585ffa17", func := "tallyroom/tallyroomlaw17.ForestOnce", spec := "forestOnce", inPlace := ["internal/bytealg.abigen_runtime_cmpstring"], unfollowed := true, recurses := true, plainKeys := false, apart := false }
def ForestOnceSaid : Prop := forestOnceRow.holds Try.pinned (OpenSpec.ofChange forestOnceSpec)

/-- ITS FALSE NEIGHBOUR: 'it returns false'. Refute it at one input. -/
def forestOnceWrong : ChangeSpec := { name := "forestOnce", fn := fun _ => fun
  | [d1, d2, d3, d4] => { results := [.lit (.bool false)], args := [d1, d2, d3, d4] }
  | _ => none }
def ForestOnceWrongFalsely : Prop := forestOnceRow.holds Try.pinned (OpenSpec.ofChange forestOnceWrong)

/-- 'tallyroomlaw17.ForestKeeps': WHATEVER THE INPUT: true; the input reads as it did. -/
def forestKeepsSpec : ChangeSpec := { name := "forestKeeps", fn := fun _ => fun
  | [d1, d2, d3] => { results := [.lit (.bool true)], args := [d1, d2, d3] }
  | _ => none }
def forestKeepsRow : OpenClaim := { program := "ytamcchdblglfoaa", sum := "2d6dd85f97bcc74720c9a6776da13c6b5eae3021a4cbd188b09e55db585ffa17", func := "tallyroom/tallyroomlaw17.ForestKeeps", spec := "forestKeeps", inPlace := ["internal/bytealg.abigen_runtime_cmpstring"], unfollowed := true, recurses := true, plainKeys := false, apart := false }
def ForestKeepsSaid : Prop := forestKeepsRow.holds Try.pinned (OpenSpec.ofChange forestKeepsSpec)

/-- ITS FALSE NEIGHBOUR: 'it returns false'. Refute it at one input. -/
def forestKeepsWrong : ChangeSpec := { name := "forestKeeps", fn := fun _ => fun
  | [d1, d2, d3] => { results := [.lit (.bool false)], args := [d1, d2, d3] }
  | _ => none }
def ForestKeepsWrongFalsely : Prop := forestKeepsRow.holds Try.pinned (OpenSpec.ofChange forestKeepsWrong)

/-- 'tallyroomlaw17.ForestRings': WHATEVER THE INPUT: true; the input reads as it did. -/
def forestRingsSpec : ChangeSpec := { name := "forestRings", fn := fun _ => fun
  | [d1, d2, d3, d4] => { results := [.lit (.bool true)], args := [d1, d2, d3, d4] }
  | _ => none }
def forestRingsRow : OpenClaim := { program := "ytamcchdblglfoaa", sum := "2d6dd85f97bcc74720c9a6776da13c6b5eae3021a4cbd188b09e55db585ffa17", func := "tallyroom/tallyroomlaw17.ForestRings", spec := "forestRings", inPlace := ["internal/bytealg.abigen_runtime_cmpstring"], unfollowed := true, recurses := true, plainKeys := false, apart := false }
def ForestRingsSaid : Prop := forestRingsRow.holds Try.pinned (OpenSpec.ofChange forestRingsSpec)

/-- ITS FALSE NEIGHBOUR: 'it returns false'. Refute it at one input. -/
def forestRingsWrong : ChangeSpec := { name := "forestRings", fn := fun _ => fun
  | [d1, d2, d3, d4] => { results := [.lit (.bool false)], args := [d1, d2, d3, d4] }
  | _ => none }
def ForestRingsWrongFalsely : Prop := forestRingsRow.holds Try.pinned (OpenSpec.ofChange forestRingsWrong)

/-- 'tallyroomlaw33.PathDeeper': WHATEVER THE INPUT: true; the input reads as it did. -/
def pathDeeperSpec : ChangeSpec := { name := "pathDeeper", fn := fun _ => fun
  | [d1, d2] => { results := [.lit (.bool true)], args := [d1, d2] }
  | _ => none }
def pathDeeperRow : OpenClaim := { program := "ytamcchdblglfoaa", sum := "2d6dd85f97bcc74720c9a6776da13c6b5eae3021a4cbd188b09e55db585ffa17", func := "tallyroom/tallyroomlaw33.PathDeeper", spec := "pathDeeper", inPlace := ["internal/bytealg.abigen_runtime_cmpstring"], unfollowed := true, recurses := true, plainKeys := false, apart := false }
def PathDeeperSaid : Prop := pathDeeperRow.holds Try.pinned (OpenSpec.ofChange pathDeeperSpec)

/-- ITS FALSE NEIGHBOUR: 'it returns false'. Refute it at one input. -/
def pathDeeperWrong : ChangeSpec := { name := "pathDeeper", fn := fun _ => fun
  | [d1, d2] => { results := [.lit (.bool false)], args := [d1, d2] }
  | _ => none }
def PathDeeperWrongFalsely : Prop := pathDeeperRow.holds Try.pinned (OpenSpec.ofChange pathDeeperWrong)

/-- 'tallyroomlaw18.EdgeCounts': WHATEVER THE INPUT: true; the input reads as it did. -/
def edgeCountsSpec : ChangeSpec := { name := "edgeCounts", fn := fun _ => fun
  | [d1, d2] => { results := [.lit (.bool true)], args := [d1, d2] }
  | _ => none }
def edgeCountsRow : OpenClaim := { program := "ytamcchdblglfoaa", sum := "2d6dd85f97bcc74720c9a6776da13c6b5eae3021a4cbd188b09e55db585ffa17", func := "tallyroom/tallyroomlaw18.EdgeCounts", spec := "edgeCounts", inPlace := ["internal/bytealg.abigen_runtime_cmpstring"], unfollowed := true, recurses := true, plainKeys := false, apart := false }
def EdgeCountsSaid : Prop := edgeCountsRow.holds Try.pinned (OpenSpec.ofChange edgeCountsSpec)

/-- ITS FALSE NEIGHBOUR: 'it returns false'. Refute it at one input. -/
def edgeCountsWrong : ChangeSpec := { name := "edgeCounts", fn := fun _ => fun
  | [d1, d2] => { results := [.lit (.bool false)], args := [d1, d2] }
  | _ => none }
def EdgeCountsWrongFalsely : Prop := edgeCountsRow.holds Try.pinned (OpenSpec.ofChange edgeCountsWrong)

/-- 'tallyroomlaw18.EdgeTells': WHATEVER THE INPUT: true; the input reads as it did. -/
def edgeTellsSpec : ChangeSpec := { name := "edgeTells", fn := fun _ => fun
  | [d1, d2, d3] => { results := [.lit (.bool true)], args := [d1, d2, d3] }
  | _ => none }
def edgeTellsRow : OpenClaim := { program := "ytamcchdblglfoaa", sum := "2d6dd85f97bcc74720c9a6776da13c6b5eae3021a4cbd188b09e55db585ffa17", func := "tallyroom/tallyroomlaw18.EdgeTells", spec := "edgeTells", inPlace := ["internal/bytealg.abigen_runtime_cmpstring", "math/bits.Add64"], unfollowed := true, recurses := true, plainKeys := false, apart := false }
def EdgeTellsSaid : Prop := edgeTellsRow.holds Try.pinned (OpenSpec.ofChange edgeTellsSpec)

/-- ITS FALSE NEIGHBOUR: 'it returns false'. Refute it at one input. -/
def edgeTellsWrong : ChangeSpec := { name := "edgeTells", fn := fun _ => fun
  | [d1, d2, d3] => { results := [.lit (.bool false)], args := [d1, d2, d3] }
  | _ => none }
def EdgeTellsWrongFalsely : Prop := edgeTellsRow.holds Try.pinned (OpenSpec.ofChange edgeTellsWrong)

/-- 'tallyroomlaw33.PathTells': WHATEVER THE INPUT: true; the input reads as it did. -/
def pathTellsSpec : ChangeSpec := { name := "pathTells", fn := fun _ => fun
  | [d1, d2, d3, d4] => { results := [.lit (.bool true)], args := [d1, d2, d3, d4] }
  | _ => none }
def pathTellsRow : OpenClaim := { program := "ytamcchdblglfoaa", sum := "2d6dd85f97bcc74720c9a6776da13c6b5eae3021a4cbd188b09e55db585ffa17", func := "tallyroom/tallyroomlaw33.PathTells", spec := "pathTells", inPlace := ["internal/bytealg.abigen_runtime_cmpstring"], unfollowed := true, recurses := true, plainKeys := false, apart := false }
def PathTellsSaid : Prop := pathTellsRow.holds Try.pinned (OpenSpec.ofChange pathTellsSpec)

/-- ITS FALSE NEIGHBOUR: 'it returns false'. Refute it at one input. -/
def pathTellsWrong : ChangeSpec := { name := "pathTells", fn := fun _ => fun
  | [d1, d2, d3, d4] => { results := [.lit (.bool false)], args := [d1, d2, d3, d4] }
  | _ => none }
def PathTellsWrongFalsely : Prop := pathTellsRow.holds Try.pinned (OpenSpec.ofChange pathTellsWrong)

/-- 'tallyroomlaw33.PathOdd': WHATEVER THE INPUT: true; the input reads as it did. -/
def pathOddSpec : ChangeSpec := { name := "pathOdd", fn := fun _ => fun
  | [d1, d2] => { results := [.lit (.bool true)], args := [d1, d2] }
  | _ => none }
def pathOddRow : OpenClaim := { program := "ytamcchdblglfoaa", sum := "2d6dd85f97bcc74720c9a6776da13c6b5eae3021a4cbd188b09e55db585ffa17", func := "tallyroom/tallyroomlaw33.PathOdd", spec := "pathOdd", inPlace := ["internal/bytealg.abigen_runtime_cmpstring"], unfollowed := true, recurses := true, plainKeys := false, apart := false }
def PathOddSaid : Prop := pathOddRow.holds Try.pinned (OpenSpec.ofChange pathOddSpec)

/-- ITS FALSE NEIGHBOUR: 'it returns false'. Refute it at one input. -/
def pathOddWrong : ChangeSpec := { name := "pathOdd", fn := fun _ => fun
  | [d1, d2] => { results := [.lit (.bool false)], args := [d1, d2] }
  | _ => none }
def PathOddWrongFalsely : Prop := pathOddRow.holds Try.pinned (OpenSpec.ofChange pathOddWrong)

/-- 'tallyroomlaw33.PathBelow': WHATEVER THE INPUT: true; the input reads as it did. -/
def pathBelowSpec : ChangeSpec := { name := "pathBelow", fn := fun _ => fun
  | [d1, d2] => { results := [.lit (.bool true)], args := [d1, d2] }
  | _ => none }
def pathBelowRow : OpenClaim := { program := "ytamcchdblglfoaa", sum := "2d6dd85f97bcc74720c9a6776da13c6b5eae3021a4cbd188b09e55db585ffa17", func := "tallyroom/tallyroomlaw33.PathBelow", spec := "pathBelow", inPlace := ["internal/bytealg.abigen_runtime_cmpstring"], unfollowed := true, recurses := true, plainKeys := false, apart := false }
def PathBelowSaid : Prop := pathBelowRow.holds Try.pinned (OpenSpec.ofChange pathBelowSpec)

/-- ITS FALSE NEIGHBOUR: 'it returns false'. Refute it at one input. -/
def pathBelowWrong : ChangeSpec := { name := "pathBelow", fn := fun _ => fun
  | [d1, d2] => { results := [.lit (.bool false)], args := [d1, d2] }
  | _ => none }
def PathBelowWrongFalsely : Prop := pathBelowRow.holds Try.pinned (OpenSpec.ofChange pathBelowWrong)

/-- 'tallyroomlaw18.EdgeJoins': WHATEVER THE INPUT: true; the input reads as it did. -/
def edgeJoinsSpec : ChangeSpec := { name := "edgeJoins", fn := fun _ => fun
  | [d1, d2, d3] => { results := [.lit (.bool true)], args := [d1, d2, d3] }
  | _ => none }
def edgeJoinsRow : OpenClaim := { program := "ytamcchdblglfoaa", sum := "2d6dd85f97bcc74720c9a6776da13c6b5eae3021a4cbd188b09e55db585ffa17", func := "tallyroom/tallyroomlaw18.EdgeJoins", spec := "edgeJoins", inPlace := ["internal/bytealg.abigen_runtime_cmpstring"], unfollowed := true, recurses := true, plainKeys := false, apart := false }
def EdgeJoinsSaid : Prop := edgeJoinsRow.holds Try.pinned (OpenSpec.ofChange edgeJoinsSpec)

/-- ITS FALSE NEIGHBOUR: 'it returns false'. Refute it at one input. -/
def edgeJoinsWrong : ChangeSpec := { name := "edgeJoins", fn := fun _ => fun
  | [d1, d2, d3] => { results := [.lit (.bool false)], args := [d1, d2, d3] }
  | _ => none }
def EdgeJoinsWrongFalsely : Prop := edgeJoinsRow.holds Try.pinned (OpenSpec.ofChange edgeJoinsWrong)

/- THE SECOND FORM. 'bulk': how many values and letters a reading holds, each counted each time it is reached (what is shared counts as often as it is met; a slice's spare places count too). A statement '..UptoSaid' is the law's where the arguments, and the package variables that the reading takes, are together of bulk at most 1048576: NARROWER than '..Said'. Prove '..Said' where nothing that the law and all that it calls make is longer than what came in: it says more and counts as full. Else prove '..UptoSaid'. A law counts once. -/
mutual
def uptoBulk {H : Type} : DataW H → Nat
  | .lit (.string bytes) => bytes.length + 1
  | .lit _ => 1
  | .nil => 1
  | .ptr d => uptoBulk d + 1
  | .slice elems spare => uptoBulkAll elems + uptoBulkAll spare + 1
  | .agg parts => uptoBulkAll parts + 1
  | .iface _ d => uptoBulk d + 1
  | .map entries => uptoBulkEntries entries + 1
  | .held _ => 1
def uptoBulkAll {H : Type} : List (DataW H) → Nat
  | [] => 0
  | d :: r => uptoBulk d + uptoBulkAll r
def uptoBulkEntries {H : Type} : List (Lit × DataW H) → Nat
  | [] => 0
  | x :: r => uptoBulkEntry x + uptoBulkEntries r
def uptoBulkEntry {H : Type} : Lit × DataW H → Nat
  | (.string bytes, d) => bytes.length + uptoBulk d + 1
  | (_, d) => uptoBulk d + 1
 end
def uptoSmall : (H : Type) → List (DataW H) → Bool := fun _ ds => decide (uptoBulkAll ds ≤ 1048576)
def OpenSpec.upto (s : _root_.Go.ChangeSpec) : _root_.Go.OpenSpec := { _root_.Go.OpenSpec.ofChange s with cond := some uptoSmall }

/-- 'tallyroomlaw17.ForestBuilds', WHERE WHAT IT READS IS OF BULK AT MOST 1048576: true; the input reads as it did. -/
def forestBuildsUptoRow : OpenClaim := { program := "ytamcchdblglfoaa", sum := "2d6dd85f97bcc74720c9a6776da13c6b5eae3021a4cbd188b09e55db585ffa17", func := "tallyroom/tallyroomlaw17.ForestBuilds", spec := "forestBuilds", inPlace := ["internal/bytealg.abigen_runtime_cmpstring"], unfollowed := true, recurses := true, plainKeys := false, apart := false, narrowed := true }
def ForestBuildsUptoSaid : Prop := forestBuildsUptoRow.holds Try.pinned (OpenSpec.upto forestBuildsSpec)

/-- 'tallyroomlaw17.ForestOnce', WHERE WHAT IT READS IS OF BULK AT MOST 1048576: true; the input reads as it did. -/
def forestOnceUptoRow : OpenClaim := { program := "ytamcchdblglfoaa", sum := "2d6dd85f97bcc74720c9a6776da13c6b5eae3021a4cbd188b09e55db585ffa17", func := "tallyroom/tallyroomlaw17.ForestOnce", spec := "forestOnce", inPlace := ["internal/bytealg.abigen_runtime_cmpstring"], unfollowed := true, recurses := true, plainKeys := false, apart := false, narrowed := true }
def ForestOnceUptoSaid : Prop := forestOnceUptoRow.holds Try.pinned (OpenSpec.upto forestOnceSpec)

/-- 'tallyroomlaw17.ForestKeeps', WHERE WHAT IT READS IS OF BULK AT MOST 1048576: true; the input reads as it did. -/
def forestKeepsUptoRow : OpenClaim := { program := "ytamcchdblglfoaa", sum := "2d6dd85f97bcc74720c9a6776da13c6b5eae3021a4cbd188b09e55db585ffa17", func := "tallyroom/tallyroomlaw17.ForestKeeps", spec := "forestKeeps", inPlace := ["internal/bytealg.abigen_runtime_cmpstring"], unfollowed := true, recurses := true, plainKeys := false, apart := false, narrowed := true }
def ForestKeepsUptoSaid : Prop := forestKeepsUptoRow.holds Try.pinned (OpenSpec.upto forestKeepsSpec)

/-- 'tallyroomlaw17.ForestRings', WHERE WHAT IT READS IS OF BULK AT MOST 1048576: true; the input reads as it did. -/
def forestRingsUptoRow : OpenClaim := { program := "ytamcchdblglfoaa", sum := "2d6dd85f97bcc74720c9a6776da13c6b5eae3021a4cbd188b09e55db585ffa17", func := "tallyroom/tallyroomlaw17.ForestRings", spec := "forestRings", inPlace := ["internal/bytealg.abigen_runtime_cmpstring"], unfollowed := true, recurses := true, plainKeys := false, apart := false, narrowed := true }
def ForestRingsUptoSaid : Prop := forestRingsUptoRow.holds Try.pinned (OpenSpec.upto forestRingsSpec)

/-- 'tallyroomlaw33.PathDeeper', WHERE WHAT IT READS IS OF BULK AT MOST 1048576: true; the input reads as it did. -/
def pathDeeperUptoRow : OpenClaim := { program := "ytamcchdblglfoaa", sum := "2d6dd85f97bcc74720c9a6776da13c6b5eae3021a4cbd188b09e55db585ffa17", func := "tallyroom/tallyroomlaw33.PathDeeper", spec := "pathDeeper", inPlace := ["internal/bytealg.abigen_runtime_cmpstring"], unfollowed := true, recurses := true, plainKeys := false, apart := false, narrowed := true }
def PathDeeperUptoSaid : Prop := pathDeeperUptoRow.holds Try.pinned (OpenSpec.upto pathDeeperSpec)

/-- 'tallyroomlaw18.EdgeCounts', WHERE WHAT IT READS IS OF BULK AT MOST 1048576: true; the input reads as it did. -/
def edgeCountsUptoRow : OpenClaim := { program := "ytamcchdblglfoaa", sum := "2d6dd85f97bcc74720c9a6776da13c6b5eae3021a4cbd188b09e55db585ffa17", func := "tallyroom/tallyroomlaw18.EdgeCounts", spec := "edgeCounts", inPlace := ["internal/bytealg.abigen_runtime_cmpstring"], unfollowed := true, recurses := true, plainKeys := false, apart := false, narrowed := true }
def EdgeCountsUptoSaid : Prop := edgeCountsUptoRow.holds Try.pinned (OpenSpec.upto edgeCountsSpec)

/-- 'tallyroomlaw18.EdgeTells', WHERE WHAT IT READS IS OF BULK AT MOST 1048576: true; the input reads as it did. -/
def edgeTellsUptoRow : OpenClaim := { program := "ytamcchdblglfoaa", sum := "2d6dd85f97bcc74720c9a6776da13c6b5eae3021a4cbd188b09e55db585ffa17", func := "tallyroom/tallyroomlaw18.EdgeTells", spec := "edgeTells", inPlace := ["internal/bytealg.abigen_runtime_cmpstring", "math/bits.Add64"], unfollowed := true, recurses := true, plainKeys := false, apart := false, narrowed := true }
def EdgeTellsUptoSaid : Prop := edgeTellsUptoRow.holds Try.pinned (OpenSpec.upto edgeTellsSpec)

/-- 'tallyroomlaw33.PathTells', WHERE WHAT IT READS IS OF BULK AT MOST 1048576: true; the input reads as it did. -/
def pathTellsUptoRow : OpenClaim := { program := "ytamcchdblglfoaa", sum := "2d6dd85f97bcc74720c9a6776da13c6b5eae3021a4cbd188b09e55db585ffa17", func := "tallyroom/tallyroomlaw33.PathTells", spec := "pathTells", inPlace := ["internal/bytealg.abigen_runtime_cmpstring"], unfollowed := true, recurses := true, plainKeys := false, apart := false, narrowed := true }
def PathTellsUptoSaid : Prop := pathTellsUptoRow.holds Try.pinned (OpenSpec.upto pathTellsSpec)

/-- 'tallyroomlaw33.PathOdd', WHERE WHAT IT READS IS OF BULK AT MOST 1048576: true; the input reads as it did. -/
def pathOddUptoRow : OpenClaim := { program := "ytamcchdblglfoaa", sum := "2d6dd85f97bcc74720c9a6776da13c6b5eae3021a4cbd188b09e55db585ffa17", func := "tallyroom/tallyroomlaw33.PathOdd", spec := "pathOdd", inPlace := ["internal/bytealg.abigen_runtime_cmpstring"], unfollowed := true, recurses := true, plainKeys := false, apart := false, narrowed := true }
def PathOddUptoSaid : Prop := pathOddUptoRow.holds Try.pinned (OpenSpec.upto pathOddSpec)

/-- 'tallyroomlaw33.PathBelow', WHERE WHAT IT READS IS OF BULK AT MOST 1048576: true; the input reads as it did. -/
def pathBelowUptoRow : OpenClaim := { program := "ytamcchdblglfoaa", sum := "2d6dd85f97bcc74720c9a6776da13c6b5eae3021a4cbd188b09e55db585ffa17", func := "tallyroom/tallyroomlaw33.PathBelow", spec := "pathBelow", inPlace := ["internal/bytealg.abigen_runtime_cmpstring"], unfollowed := true, recurses := true, plainKeys := false, apart := false, narrowed := true }
def PathBelowUptoSaid : Prop := pathBelowUptoRow.holds Try.pinned (OpenSpec.upto pathBelowSpec)

/-- 'tallyroomlaw18.EdgeJoins', WHERE WHAT IT READS IS OF BULK AT MOST 1048576: true; the input reads as it did. -/
def edgeJoinsUptoRow : OpenClaim := { program := "ytamcchdblglfoaa", sum := "2d6dd85f97bcc74720c9a6776da13c6b5eae3021a4cbd188b09e55db585ffa17", func := "tallyroom/tallyroomlaw18.EdgeJoins", spec := "edgeJoins", inPlace := ["internal/bytealg.abigen_runtime_cmpstring"], unfollowed := true, recurses := true, plainKeys := false, apart := false, narrowed := true }
def EdgeJoinsUptoSaid : Prop := edgeJoinsUptoRow.holds Try.pinned (OpenSpec.upto edgeJoinsSpec)

end Rows
end Go.Proofs.Ytamcchdblglfoaa
