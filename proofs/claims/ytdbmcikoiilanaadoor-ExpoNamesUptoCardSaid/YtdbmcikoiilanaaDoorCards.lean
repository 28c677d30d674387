/-
  DERIVED. GIVEN WITH THE SEED: THE CARDS: each row of YtdbmcikoiilanaaDoorRows.lean that lists a variable, with what it lists TIED to the program's text (the seventh form; the later family's looks); each row that meets fmt, with fmt's text TOLD by the authors' own Lean function (tested against real Go, not proved from fmt's source: count such statements apart). THE CARD IS WHAT COUNTS. Prove the row's statement (the work); the ties are given (YtdbmcikoiilanaaDoorTie.lean); close each card by the builder's one call (the guide's Derived/Test/ToyasCard.lean, 'card_holds'). Laid BY PROGRAM, IN A SANDBOX (cutbox-door.mjs). By AI agents, Wed Nov 11 2026. No macro, syntax, notation, axiom, sorry.
-/
import Derived.Test.YtdbmcikoiilanaaDoorRows
import GoSem.ClaimSeven
namespace Go.Proofs.YtdbmcikoiilanaaDoor
namespace Rows

/-- THE TIED CARD OF 'tallyroomlaw36.ExpoPrints'. -/
def expoPrintsCard : Claim7 := { stood := { row := expoPrintsRow, standIns := [], harness := (true, "17097b1bab30a06e444ceb0dc6b43e52274cc34678d66a089d24746cdcb0d3cc"), looks := true }, kinds := [], alts := [], laidByText := true, laidKinds := [.data, .data, .data, .sentinel, .sentinel], laidTests := true, laidLooks := .later }
def ExpoPrintsCardSaid : Prop := Claim7.holds Tryd.pinned (.plain (OpenSpec.ofChange expoPrintsSpec)) expoPrintsCard

/-- THE TIED CARD OF 'tallyroomlaw36.ExpoParses'. -/
def expoParsesCard : Claim7 := { stood := { row := expoParsesRow, standIns := [], harness := (true, "17097b1bab30a06e444ceb0dc6b43e52274cc34678d66a089d24746cdcb0d3cc"), looks := true }, kinds := [], alts := [], laidByText := true, laidKinds := [.data, .data, .data, .sentinel, .sentinel], laidTests := true, laidLooks := .later }
def ExpoParsesCardSaid : Prop := Claim7.holds Tryd.pinned (.plain (OpenSpec.ofChange expoParsesSpec)) expoParsesCard

/-- THE TIED CARD OF 'tallyroomlaw36.ExpoJoins'. -/
def expoJoinsCard : Claim7 := { stood := { row := expoJoinsRow, standIns := [], harness := (true, "17097b1bab30a06e444ceb0dc6b43e52274cc34678d66a089d24746cdcb0d3cc"), looks := true }, kinds := [], alts := [], laidByText := true, laidKinds := [.data, .data, .data, .sentinel, .sentinel], laidTests := true, laidLooks := .later }
def ExpoJoinsCardSaid : Prop := Claim7.holds Tryd.pinned (.plain (OpenSpec.ofChange expoJoinsSpec)) expoJoinsCard

/-- THE TIED CARD OF 'tallyroomlaw36.ExpoNames'. -/
def expoNamesCard : Claim7 := { stood := { row := expoNamesRow, standIns := [], harness := (true, "17097b1bab30a06e444ceb0dc6b43e52274cc34678d66a089d24746cdcb0d3cc"), looks := true }, kinds := [], alts := [], laidByText := true, laidKinds := [.data, .data, .data, .sentinel, .sentinel], laidTests := true, laidLooks := .later }
def ExpoNamesCardSaid : Prop := Claim7.holds Tryd.pinned (.plain (OpenSpec.ofChange expoNamesSpec)) expoNamesCard

/-- THE SECOND FORM's CARD OF 'tallyroomlaw36.ExpoPrints'. -/
def expoPrintsUptoCard : Claim7 := { stood := { row := expoPrintsUptoRow, standIns := [], harness := (true, "17097b1bab30a06e444ceb0dc6b43e52274cc34678d66a089d24746cdcb0d3cc"), looks := true }, kinds := [], alts := [], laidByText := true, laidKinds := [.data, .data, .data, .sentinel, .sentinel], laidTests := true, laidLooks := .later }
def ExpoPrintsUptoCardSaid : Prop := Claim7.holds Tryd.pinned (.plain (OpenSpec.upto expoPrintsSpec)) expoPrintsUptoCard

/-- THE SECOND FORM's CARD OF 'tallyroomlaw36.ExpoParses'. -/
def expoParsesUptoCard : Claim7 := { stood := { row := expoParsesUptoRow, standIns := [], harness := (true, "17097b1bab30a06e444ceb0dc6b43e52274cc34678d66a089d24746cdcb0d3cc"), looks := true }, kinds := [], alts := [], laidByText := true, laidKinds := [.data, .data, .data, .sentinel, .sentinel], laidTests := true, laidLooks := .later }
def ExpoParsesUptoCardSaid : Prop := Claim7.holds Tryd.pinned (.plain (OpenSpec.upto expoParsesSpec)) expoParsesUptoCard

/-- THE SECOND FORM's CARD OF 'tallyroomlaw36.ExpoJoins'. -/
def expoJoinsUptoCard : Claim7 := { stood := { row := expoJoinsUptoRow, standIns := [], harness := (true, "17097b1bab30a06e444ceb0dc6b43e52274cc34678d66a089d24746cdcb0d3cc"), looks := true }, kinds := [], alts := [], laidByText := true, laidKinds := [.data, .data, .data, .sentinel, .sentinel], laidTests := true, laidLooks := .later }
def ExpoJoinsUptoCardSaid : Prop := Claim7.holds Tryd.pinned (.plain (OpenSpec.upto expoJoinsSpec)) expoJoinsUptoCard

/-- THE SECOND FORM's CARD OF 'tallyroomlaw36.ExpoNames'. -/
def expoNamesUptoCard : Claim7 := { stood := { row := expoNamesUptoRow, standIns := [], harness := (true, "17097b1bab30a06e444ceb0dc6b43e52274cc34678d66a089d24746cdcb0d3cc"), looks := true }, kinds := [], alts := [], laidByText := true, laidKinds := [.data, .data, .data, .sentinel, .sentinel], laidTests := true, laidLooks := .later }
def ExpoNamesUptoCardSaid : Prop := Claim7.holds Tryd.pinned (.plain (OpenSpec.upto expoNamesSpec)) expoNamesUptoCard
end Rows
end Go.Proofs.YtdbmcikoiilanaaDoor
