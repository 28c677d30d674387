/-
  DERIVED. GIVEN WITH THE SEED: THE CARDS: each row of YtkmfgacfccgdcaaDoorRows.lean that lists a variable, with what it lists TIED to the program's text (the seventh form; the later family's looks); each row that meets fmt, with fmt's text TOLD by the authors' own Lean function (tested against real Go, not proved from fmt's source: count such statements apart). THE CARD IS WHAT COUNTS. Prove the row's statement (the work); the ties are given (YtkmfgacfccgdcaaDoorTie.lean); close each card by the builder's one call (the guide's Derived/Test/ToyasCard.lean, 'card_holds'). Laid BY PROGRAM, IN A SANDBOX (cutbox-door.mjs). By AI agents, Wed Nov 11 2026. No macro, syntax, notation, axiom, sorry.
-/
import Derived.Test.YtkmfgacfccgdcaaDoorRows
import GoSem.ClaimSeven
namespace Go.Proofs.YtkmfgacfccgdcaaDoor
namespace Rows

/-- THE TIED CARD OF 'tallyroomlaw20.SeriesStays'. -/
def seriesStaysCard : Claim7 := { stood := { row := seriesStaysRow, standIns := [], harness := (true, "0843bd177fd89422deaf72b317142d418e2203c01d38b8d81d18ee44dd7276eb"), looks := false }, kinds := [], alts := [], laidByText := true, laidKinds := [.data, .data, .data], laidTests := true, laidLooks := .later }
def SeriesStaysCardSaid : Prop := Claim7.holds Tryd.pinned (.plain (OpenSpec.ofChange seriesStaysSpec)) seriesStaysCard

/-- THE TIED CARD OF 'tallyroomlaw20.SeriesPlays'. -/
def seriesPlaysCard : Claim7 := { stood := { row := seriesPlaysRow, standIns := [], harness := (true, "0843bd177fd89422deaf72b317142d418e2203c01d38b8d81d18ee44dd7276eb"), looks := false }, kinds := [], alts := [], laidByText := true, laidKinds := [.data, .data, .data], laidTests := true, laidLooks := .later }
def SeriesPlaysCardSaid : Prop := Claim7.holds Tryd.pinned (.plain (OpenSpec.ofChange seriesPlaysSpec)) seriesPlaysCard

/-- THE TIED CARD OF 'tallyroomlaw20.SeriesOrder'. -/
def seriesOrderCard : Claim7 := { stood := { row := seriesOrderRow, standIns := [], harness := (true, "0843bd177fd89422deaf72b317142d418e2203c01d38b8d81d18ee44dd7276eb"), looks := false }, kinds := [], alts := [], laidByText := true, laidKinds := [.data, .data, .data], laidTests := true, laidLooks := .later }
def SeriesOrderCardSaid : Prop := Claim7.holds Tryd.pinned (.plain (OpenSpec.ofChange seriesOrderSpec)) seriesOrderCard

/-- THE SECOND FORM's CARD OF 'tallyroomlaw20.SeriesStays'. -/
def seriesStaysUptoCard : Claim7 := { stood := { row := seriesStaysUptoRow, standIns := [], harness := (true, "0843bd177fd89422deaf72b317142d418e2203c01d38b8d81d18ee44dd7276eb"), looks := false }, kinds := [], alts := [], laidByText := true, laidKinds := [.data, .data, .data], laidTests := true, laidLooks := .later }
def SeriesStaysUptoCardSaid : Prop := Claim7.holds Tryd.pinned (.plain (OpenSpec.upto seriesStaysSpec)) seriesStaysUptoCard

/-- THE SECOND FORM's CARD OF 'tallyroomlaw20.SeriesPlays'. -/
def seriesPlaysUptoCard : Claim7 := { stood := { row := seriesPlaysUptoRow, standIns := [], harness := (true, "0843bd177fd89422deaf72b317142d418e2203c01d38b8d81d18ee44dd7276eb"), looks := false }, kinds := [], alts := [], laidByText := true, laidKinds := [.data, .data, .data], laidTests := true, laidLooks := .later }
def SeriesPlaysUptoCardSaid : Prop := Claim7.holds Tryd.pinned (.plain (OpenSpec.upto seriesPlaysSpec)) seriesPlaysUptoCard

/-- THE SECOND FORM's CARD OF 'tallyroomlaw20.SeriesOrder'. -/
def seriesOrderUptoCard : Claim7 := { stood := { row := seriesOrderUptoRow, standIns := [], harness := (true, "0843bd177fd89422deaf72b317142d418e2203c01d38b8d81d18ee44dd7276eb"), looks := false }, kinds := [], alts := [], laidByText := true, laidKinds := [.data, .data, .data], laidTests := true, laidLooks := .later }
def SeriesOrderUptoCardSaid : Prop := Claim7.holds Tryd.pinned (.plain (OpenSpec.upto seriesOrderSpec)) seriesOrderUptoCard
end Rows
end Go.Proofs.YtkmfgacfccgdcaaDoor
