/-
  DERIVED. GIVEN WITH THE SEED: THE CARDS: each row of YtmhnldlfknbocaaDoorRows.lean that lists a variable, with what it lists TIED to the program's text (the seventh form; the later family's looks); each row that meets fmt, with fmt's text TOLD by the authors' own Lean function (tested against real Go, not proved from fmt's source: count such statements apart). THE CARD IS WHAT COUNTS. Prove the row's statement (the work); the ties are given (YtmhnldlfknbocaaDoorTie.lean); close each card by the builder's one call (the guide's Derived/Test/ToyasCard.lean, 'card_holds'). Laid BY PROGRAM, IN A SANDBOX (cutbox-door.mjs). By AI agents, Wed Nov 11 2026. No macro, syntax, notation, axiom, sorry.
-/
import Derived.Test.YtmhnldlfknbocaaDoorRows
import GoSem.ClaimSeven
namespace Go.Proofs.YtmhnldlfknbocaaDoor
namespace Rows

/-- THE TIED CARD OF 'duetlaw20.CellsWidths'. -/
def cellsWidthsCard : Claim7 := { stood := { row := cellsWidthsRow, standIns := [], harness := (true, "1493c684e0ceef17492c88c7b71ffe4c6244456023d9a238104794a316a3859d"), looks := false }, kinds := [], alts := [], laidByText := true, laidKinds := [.widerDeep, .widerDeep], laidTests := true, laidLooks := .later }
def CellsWidthsCardSaid : Prop := Claim7.holds Tryd.pinned (.plain (OpenSpec.ofChange cellsWidthsSpec)) cellsWidthsCard

/-- THE TIED CARD OF 'duetlaw20.CellsBlocks'. -/
def cellsBlocksCard : Claim7 := { stood := { row := cellsBlocksRow, standIns := [], harness := (true, "1493c684e0ceef17492c88c7b71ffe4c6244456023d9a238104794a316a3859d"), looks := false }, kinds := [], alts := [], laidByText := true, laidKinds := [.widerDeep, .widerDeep], laidTests := true, laidLooks := .later }
def CellsBlocksCardSaid : Prop := Claim7.holds Tryd.pinned (.plain (OpenSpec.ofChange cellsBlocksSpec)) cellsBlocksCard

/-- THE TIED CARD OF 'duetlaw20.CellsFits'. -/
def cellsFitsCard : Claim7 := { stood := { row := cellsFitsRow, standIns := [], harness := (true, "1493c684e0ceef17492c88c7b71ffe4c6244456023d9a238104794a316a3859d"), looks := false }, kinds := [], alts := [], laidByText := true, laidKinds := [.widerDeep, .widerDeep], laidTests := true, laidLooks := .later }
def CellsFitsCardSaid : Prop := Claim7.holds Tryd.pinned (.plain (OpenSpec.ofChange cellsFitsSpec)) cellsFitsCard

/-- THE TIED CARD OF 'duetlaw20.CellsMost'. -/
def cellsMostCard : Claim7 := { stood := { row := cellsMostRow, standIns := [], harness := (true, "1493c684e0ceef17492c88c7b71ffe4c6244456023d9a238104794a316a3859d"), looks := false }, kinds := [], alts := [], laidByText := true, laidKinds := [.widerDeep, .widerDeep], laidTests := true, laidLooks := .later }
def CellsMostCardSaid : Prop := Claim7.holds Tryd.pinned (.plain (OpenSpec.ofChange cellsMostSpec)) cellsMostCard

/-- THE TIED CARD OF 'duetlaw20.CellsJoined'. -/
def cellsJoinedCard : Claim7 := { stood := { row := cellsJoinedRow, standIns := [], harness := (true, "1493c684e0ceef17492c88c7b71ffe4c6244456023d9a238104794a316a3859d"), looks := false }, kinds := [], alts := [], laidByText := true, laidKinds := [.widerDeep, .widerDeep], laidTests := true, laidLooks := .later }
def CellsJoinedCardSaid : Prop := Claim7.holds Tryd.pinned (.plain (OpenSpec.ofChange cellsJoinedSpec)) cellsJoinedCard

/-- THE TIED CARD OF 'duetlaw20.CellsPlain'. -/
def cellsPlainCard : Claim7 := { stood := { row := cellsPlainRow, standIns := [], harness := (true, "1493c684e0ceef17492c88c7b71ffe4c6244456023d9a238104794a316a3859d"), looks := false }, kinds := [], alts := [], laidByText := true, laidKinds := [.widerDeep, .widerDeep], laidTests := true, laidLooks := .later }
def CellsPlainCardSaid : Prop := Claim7.holds Tryd.pinned (.plain (OpenSpec.ofChange cellsPlainSpec)) cellsPlainCard

/-- THE SECOND FORM's CARD OF 'duetlaw20.CellsWidths'. -/
def cellsWidthsUptoCard : Claim7 := { stood := { row := cellsWidthsUptoRow, standIns := [], harness := (true, "1493c684e0ceef17492c88c7b71ffe4c6244456023d9a238104794a316a3859d"), looks := false }, kinds := [], alts := [], laidByText := true, laidKinds := [.widerDeep, .widerDeep], laidTests := true, laidLooks := .later }
def CellsWidthsUptoCardSaid : Prop := Claim7.holds Tryd.pinned (.plain (OpenSpec.upto cellsWidthsSpec)) cellsWidthsUptoCard

/-- THE SECOND FORM's CARD OF 'duetlaw20.CellsBlocks'. -/
def cellsBlocksUptoCard : Claim7 := { stood := { row := cellsBlocksUptoRow, standIns := [], harness := (true, "1493c684e0ceef17492c88c7b71ffe4c6244456023d9a238104794a316a3859d"), looks := false }, kinds := [], alts := [], laidByText := true, laidKinds := [.widerDeep, .widerDeep], laidTests := true, laidLooks := .later }
def CellsBlocksUptoCardSaid : Prop := Claim7.holds Tryd.pinned (.plain (OpenSpec.upto cellsBlocksSpec)) cellsBlocksUptoCard

/-- THE SECOND FORM's CARD OF 'duetlaw20.CellsFits'. -/
def cellsFitsUptoCard : Claim7 := { stood := { row := cellsFitsUptoRow, standIns := [], harness := (true, "1493c684e0ceef17492c88c7b71ffe4c6244456023d9a238104794a316a3859d"), looks := false }, kinds := [], alts := [], laidByText := true, laidKinds := [.widerDeep, .widerDeep], laidTests := true, laidLooks := .later }
def CellsFitsUptoCardSaid : Prop := Claim7.holds Tryd.pinned (.plain (OpenSpec.upto cellsFitsSpec)) cellsFitsUptoCard

/-- THE SECOND FORM's CARD OF 'duetlaw20.CellsMost'. -/
def cellsMostUptoCard : Claim7 := { stood := { row := cellsMostUptoRow, standIns := [], harness := (true, "1493c684e0ceef17492c88c7b71ffe4c6244456023d9a238104794a316a3859d"), looks := false }, kinds := [], alts := [], laidByText := true, laidKinds := [.widerDeep, .widerDeep], laidTests := true, laidLooks := .later }
def CellsMostUptoCardSaid : Prop := Claim7.holds Tryd.pinned (.plain (OpenSpec.upto cellsMostSpec)) cellsMostUptoCard

/-- THE SECOND FORM's CARD OF 'duetlaw20.CellsJoined'. -/
def cellsJoinedUptoCard : Claim7 := { stood := { row := cellsJoinedUptoRow, standIns := [], harness := (true, "1493c684e0ceef17492c88c7b71ffe4c6244456023d9a238104794a316a3859d"), looks := false }, kinds := [], alts := [], laidByText := true, laidKinds := [.widerDeep, .widerDeep], laidTests := true, laidLooks := .later }
def CellsJoinedUptoCardSaid : Prop := Claim7.holds Tryd.pinned (.plain (OpenSpec.upto cellsJoinedSpec)) cellsJoinedUptoCard

/-- THE SECOND FORM's CARD OF 'duetlaw20.CellsPlain'. -/
def cellsPlainUptoCard : Claim7 := { stood := { row := cellsPlainUptoRow, standIns := [], harness := (true, "1493c684e0ceef17492c88c7b71ffe4c6244456023d9a238104794a316a3859d"), looks := false }, kinds := [], alts := [], laidByText := true, laidKinds := [.widerDeep, .widerDeep], laidTests := true, laidLooks := .later }
def CellsPlainUptoCardSaid : Prop := Claim7.holds Tryd.pinned (.plain (OpenSpec.upto cellsPlainSpec)) cellsPlainUptoCard
end Rows
end Go.Proofs.YtmhnldlfknbocaaDoor
