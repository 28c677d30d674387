/-
  No cell of these rows narrows 'for every input' (looked for: loops, veiled, ifaces, maps, wideKeys, modest, calm, conditions, laid).
  DERIVED. THE GIVEN ROWS OF THIS SEAT. 3 by the template 'for every input the law returns true; each argument reads behind the call as it read before'; 0 by the template 'total and deterministic' (their statements: YtbedoahkpdpmeaaTotals.lean).
  GIVEN WITH THE SEED: the statements are not yours to turn. If you find one false, say at which input.
  Laid BY PROGRAM, IN A SANDBOX (cutbox-rows.mjs): the forced cells as the released guide's own fill.sh prints them over the translation a731d3c95f1c4b10… (all of the seat's roots in one cut). By AI agents, Wed Nov 11 2026. No macro, syntax, notation, axiom, sorry.
-/
import Derived.Test.YtbedoahkpdpmeaaChecked
import GoSem.Claim
import GoSem.ClaimJoined
import GoSem.ClaimMapViews
import Derived.JoinedTies
import Derived.KernelRfl
namespace Go.Proofs.Ytbedoahkpdpmeaa
/- THE CELL 'sum', in the pinned program and in every row, IS THE sha256 OF THE DUMP (.gsa) THAT YtbedoahkpdpmeaaProg.lean LOADS. Nothing in Lean hashes anything: it is a label: what it is worth is what the hold of that sum in a sandbox is worth. -/
noncomputable def Try.pinned : Pinned := { name := "ytbedoahkpdpmeaa", sum := "a731d3c95f1c4b103225fa3c99c765b7045a3e43d8b21e12d5af7dc6c749ca62", checked := Try.checked }
namespace Rows
def none {H : Type} : Left H := { results := [], args := [] }

/-- 'tallyroomlaw21.ExemplarPlays': WHATEVER THE INPUT: true; the input reads as it did. -/
def exemplarPlaysSpec : ChangeSpec := { name := "exemplarPlays", fn := fun _ => fun
  | [d1, d2, d3] => { results := [.lit (.bool true)], args := [d1, d2, d3] }
  | _ => none }
def exemplarPlaysRow : OpenClaim := { program := "ytbedoahkpdpmeaa", sum := "a731d3c95f1c4b103225fa3c99c765b7045a3e43d8b21e12d5af7dc6c749ca62", func := "tallyroom/tallyroomlaw21.ExemplarPlays", spec := "exemplarPlays", inPlace := ["slices.overlaps[tallyroom/exemplar.One]"], unfollowed := true, recurses := true, apart := false }
def ExemplarPlaysSaid : Prop := exemplarPlaysRow.holds Try.pinned (OpenSpec.ofChange exemplarPlaysSpec)

/-- ITS FALSE NEIGHBOUR: 'it returns false'. Refute it at one input. -/
def exemplarPlaysWrong : ChangeSpec := { name := "exemplarPlays", fn := fun _ => fun
  | [d1, d2, d3] => { results := [.lit (.bool false)], args := [d1, d2, d3] }
  | _ => none }
def ExemplarPlaysWrongFalsely : Prop := exemplarPlaysRow.holds Try.pinned (OpenSpec.ofChange exemplarPlaysWrong)

/-- 'tallyroomlaw21.ExemplarMore': WHATEVER THE INPUT: true; the input reads as it did. -/
def exemplarMoreSpec : ChangeSpec := { name := "exemplarMore", fn := fun _ => fun
  | [d1, d2, d3] => { results := [.lit (.bool true)], args := [d1, d2, d3] }
  | _ => none }
def exemplarMoreRow : OpenClaim := { program := "ytbedoahkpdpmeaa", sum := "a731d3c95f1c4b103225fa3c99c765b7045a3e43d8b21e12d5af7dc6c749ca62", func := "tallyroom/tallyroomlaw21.ExemplarMore", spec := "exemplarMore", inPlace := ["slices.overlaps[tallyroom/exemplar.One]"], unfollowed := true, recurses := true, apart := false }
def ExemplarMoreSaid : Prop := exemplarMoreRow.holds Try.pinned (OpenSpec.ofChange exemplarMoreSpec)

/-- ITS FALSE NEIGHBOUR: 'it returns false'. Refute it at one input. -/
def exemplarMoreWrong : ChangeSpec := { name := "exemplarMore", fn := fun _ => fun
  | [d1, d2, d3] => { results := [.lit (.bool false)], args := [d1, d2, d3] }
  | _ => none }
def ExemplarMoreWrongFalsely : Prop := exemplarMoreRow.holds Try.pinned (OpenSpec.ofChange exemplarMoreWrong)

/-- 'tallyroomlaw21.ExemplarOrder': WHATEVER THE INPUT: true; the input reads as it did. -/
def exemplarOrderSpec : ChangeSpec := { name := "exemplarOrder", fn := fun _ => fun
  | [d1, d2, d3, d4] => { results := [.lit (.bool true)], args := [d1, d2, d3, d4] }
  | _ => none }
def exemplarOrderRow : OpenClaim := { program := "ytbedoahkpdpmeaa", sum := "a731d3c95f1c4b103225fa3c99c765b7045a3e43d8b21e12d5af7dc6c749ca62", func := "tallyroom/tallyroomlaw21.ExemplarOrder", spec := "exemplarOrder", inPlace := ["slices.overlaps[tallyroom/exemplar.One]"], unfollowed := true, recurses := true, apart := false }
def ExemplarOrderSaid : Prop := exemplarOrderRow.holds Try.pinned (OpenSpec.ofChange exemplarOrderSpec)

/-- ITS FALSE NEIGHBOUR: 'it returns false'. Refute it at one input. -/
def exemplarOrderWrong : ChangeSpec := { name := "exemplarOrder", fn := fun _ => fun
  | [d1, d2, d3, d4] => { results := [.lit (.bool false)], args := [d1, d2, d3, d4] }
  | _ => none }
def ExemplarOrderWrongFalsely : Prop := exemplarOrderRow.holds Try.pinned (OpenSpec.ofChange exemplarOrderWrong)

/- THE SECOND FORM. 'bulk': how many values and letters a reading holds, each counted each time it is reached (what is shared counts as often as it is met; a slice's spare places count too). A statement '..UptoSaid' is the law's where the arguments, and the package variables that the reading takes, are together of bulk at most 1048576: NARROWER than '..Said'. Prove '..Said' where nothing that the law and all that it calls make is longer than what came in: it says more and counts as full. Else prove '..UptoSaid'. A law counts once. -/
mutual
def uptoBulk {H : Type} : DataW H → Nat
  | .lit (.string bytes) => bytes.length + 1
  | .lit _ => 1
  | .nil => 1
  | .ptr d => uptoBulk d + 1
  | .slice elems spare => uptoBulkAll elems + uptoBulkAll spare + 1
  | .agg parts => uptoBulkAll parts + 1
  | .iface _ d => uptoBulk d + 1
  | .map entries => uptoBulkEntries entries + 1
  | .held _ => 1
def uptoBulkAll {H : Type} : List (DataW H) → Nat
  | [] => 0
  | d :: r => uptoBulk d + uptoBulkAll r
def uptoBulkEntries {H : Type} : List (Lit × DataW H) → Nat
  | [] => 0
  | x :: r => uptoBulkEntry x + uptoBulkEntries r
def uptoBulkEntry {H : Type} : Lit × DataW H → Nat
  | (.string bytes, d) => bytes.length + uptoBulk d + 1
  | (_, d) => uptoBulk d + 1
 end
def uptoSmall : (H : Type) → List (DataW H) → Bool := fun _ ds => decide (uptoBulkAll ds ≤ 1048576)
def OpenSpec.upto (s : _root_.Go.ChangeSpec) : _root_.Go.OpenSpec := { _root_.Go.OpenSpec.ofChange s with cond := some uptoSmall }

/-- 'tallyroomlaw21.ExemplarPlays', WHERE WHAT IT READS IS OF BULK AT MOST 1048576: true; the input reads as it did. -/
def exemplarPlaysUptoRow : OpenClaim := { program := "ytbedoahkpdpmeaa", sum := "a731d3c95f1c4b103225fa3c99c765b7045a3e43d8b21e12d5af7dc6c749ca62", func := "tallyroom/tallyroomlaw21.ExemplarPlays", spec := "exemplarPlays", inPlace := ["slices.overlaps[tallyroom/exemplar.One]"], unfollowed := true, recurses := true, apart := false, narrowed := true }
def ExemplarPlaysUptoSaid : Prop := exemplarPlaysUptoRow.holds Try.pinned (OpenSpec.upto exemplarPlaysSpec)

/-- 'tallyroomlaw21.ExemplarMore', WHERE WHAT IT READS IS OF BULK AT MOST 1048576: true; the input reads as it did. -/
def exemplarMoreUptoRow : OpenClaim := { program := "ytbedoahkpdpmeaa", sum := "a731d3c95f1c4b103225fa3c99c765b7045a3e43d8b21e12d5af7dc6c749ca62", func := "tallyroom/tallyroomlaw21.ExemplarMore", spec := "exemplarMore", inPlace := ["slices.overlaps[tallyroom/exemplar.One]"], unfollowed := true, recurses := true, apart := false, narrowed := true }
def ExemplarMoreUptoSaid : Prop := exemplarMoreUptoRow.holds Try.pinned (OpenSpec.upto exemplarMoreSpec)

/-- 'tallyroomlaw21.ExemplarOrder', WHERE WHAT IT READS IS OF BULK AT MOST 1048576: true; the input reads as it did. -/
def exemplarOrderUptoRow : OpenClaim := { program := "ytbedoahkpdpmeaa", sum := "a731d3c95f1c4b103225fa3c99c765b7045a3e43d8b21e12d5af7dc6c749ca62", func := "tallyroom/tallyroomlaw21.ExemplarOrder", spec := "exemplarOrder", inPlace := ["slices.overlaps[tallyroom/exemplar.One]"], unfollowed := true, recurses := true, apart := false, narrowed := true }
def ExemplarOrderUptoSaid : Prop := exemplarOrderUptoRow.holds Try.pinned (OpenSpec.upto exemplarOrderSpec)

end Rows
end Go.Proofs.Ytbedoahkpdpmeaa
