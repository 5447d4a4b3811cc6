/-
  NARROWER THAN 'FOR EVERY INPUT', by the rows' own cells (each row's printed sentence says how): CellsWidths: laid · CellsBlocks: laid · CellsFits: laid · CellsMost: laid · CellsJoined: laid · CellsPlain: laid.
  DERIVED. THE GIVEN ROWS OF THIS SEAT. 6 by the template 'for every input the law returns true; each argument reads behind the call as it read before'; 0 by the template 'total and deterministic' (their statements: YtmhnldlfknbocaaDoorTotals.lean).
  GIVEN WITH THE SEED: the statements are not yours to turn. If you find one false, say at which input.
  Laid BY PROGRAM, IN A SANDBOX (cutbox-rows.mjs): the forced cells as the released guide's own fill.sh prints them over the translation bb53687947cea9df… (all of the seat's roots in one cut). By AI agents, Wed Nov 11 2026. No macro, syntax, notation, axiom, sorry.
-/
import Derived.Test.YtmhnldlfknbocaaDoorChecked
import GoSem.Claim
import GoSem.ClaimJoined
import GoSem.ClaimMapViews
import Derived.JoinedTies
import Derived.KernelRfl
namespace Go.Proofs.YtmhnldlfknbocaaDoor
/- THE CELL 'sum', in the pinned program and in every row, IS THE sha256 OF THE DUMP (.gsa) THAT YtmhnldlfknbocaaDoorProg.lean LOADS. Nothing in Lean hashes anything: it is a label: what it is worth is what the hold of that sum in a sandbox is worth. -/
noncomputable def Tryd.pinned : Pinned := { name := "ytmhnldlfknbocaadoor", sum := "bb53687947cea9dfd7b89d0c0f0898450dbf100068509fa791e1439cce602844", checked := Tryd.checked }
namespace Rows
def none {H : Type} : Left H := { results := [], args := [] }

/- WHAT THE LISTED PACKAGE-LEVEL VARIABLES READ AS WHEN THE CALL BEGINS. Each datum BY PROGRAM (the guide's laid-datum.mjs) off the statement by which the dump's own 'gosem.cut.vars' lays the variable. In a bare row this is a premise. The card (YtmhnldlfknbocaaDoorCards.lean) ties it to the program's text. -/
def laid_duet_cells_none {H : Type} : DataW H := .slice [.agg [.lit (.int .i64 127), .lit (.int .i64 159)], .agg [.lit (.int .i64 768), .lit (.int .i64 879)], .agg [.lit (.int .i64 8203), .lit (.int .i64 8207)], .agg [.lit (.int .i64 8400), .lit (.int .i64 8447)], .agg [.lit (.int .i64 55296), .lit (.int .i64 57343)], .agg [.lit (.int .i64 65024), .lit (.int .i64 65039)], .agg [.lit (.int .i64 65056), .lit (.int .i64 65071)]] []
def laid_duet_cells_wide {H : Type} : DataW H := .slice [.agg [.lit (.int .i64 4352), .lit (.int .i64 4447)], .agg [.lit (.int .i64 11904), .lit (.int .i64 12350)], .agg [.lit (.int .i64 12353), .lit (.int .i64 42191)], .agg [.lit (.int .i64 44032), .lit (.int .i64 55203)], .agg [.lit (.int .i64 63744), .lit (.int .i64 64255)], .agg [.lit (.int .i64 65072), .lit (.int .i64 65135)], .agg [.lit (.int .i64 65281), .lit (.int .i64 65376)], .agg [.lit (.int .i64 65504), .lit (.int .i64 65510)], .agg [.lit (.int .i64 127744), .lit (.int .i64 128591)], .agg [.lit (.int .i64 128640), .lit (.int .i64 128767)], .agg [.lit (.int .i64 129280), .lit (.int .i64 129535)], .agg [.lit (.int .i64 131072), .lit (.int .i64 262141)]] []

/-- 'duetlaw20.CellsWidths': WHATEVER THE INPUT: true; the input reads as it did. -/
def cellsWidthsSpec : ChangeSpec := { name := "cellsWidths", fn := fun _ => fun
  | [d] => { results := [.lit (.bool true)], args := [d] }
  | _ => none }
def cellsWidthsRow : OpenClaim := { program := "ytmhnldlfknbocaadoor", sum := "bb53687947cea9dfd7b89d0c0f0898450dbf100068509fa791e1439cce602844", func := "duet/duetlaw20.CellsWidths", spec := "cellsWidths", unfollowed := true, recurses := true, named := ["duet/cells.none", "duet/cells.wide"], apart := false, laid := [("duet/cells.none", laid_duet_cells_none), ("duet/cells.wide", laid_duet_cells_wide)] }
def CellsWidthsSaid : Prop := cellsWidthsRow.holds Tryd.pinned (OpenSpec.ofChange cellsWidthsSpec)

/-- ITS FALSE NEIGHBOUR: 'it returns false'. Refute it at one input. -/
def cellsWidthsWrong : ChangeSpec := { name := "cellsWidths", fn := fun _ => fun
  | [d] => { results := [.lit (.bool false)], args := [d] }
  | _ => none }
def CellsWidthsWrongFalsely : Prop := cellsWidthsRow.holds Tryd.pinned (OpenSpec.ofChange cellsWidthsWrong)

/-- 'duetlaw20.CellsBlocks': WHATEVER THE INPUT: true; the input reads as it did. -/
def cellsBlocksSpec : ChangeSpec := { name := "cellsBlocks", fn := fun _ => fun
  | [d] => { results := [.lit (.bool true)], args := [d] }
  | _ => none }
def cellsBlocksRow : OpenClaim := { program := "ytmhnldlfknbocaadoor", sum := "bb53687947cea9dfd7b89d0c0f0898450dbf100068509fa791e1439cce602844", func := "duet/duetlaw20.CellsBlocks", spec := "cellsBlocks", unfollowed := true, recurses := true, named := ["duet/cells.none", "duet/cells.wide"], apart := false, laid := [("duet/cells.none", laid_duet_cells_none), ("duet/cells.wide", laid_duet_cells_wide)] }
def CellsBlocksSaid : Prop := cellsBlocksRow.holds Tryd.pinned (OpenSpec.ofChange cellsBlocksSpec)

/-- ITS FALSE NEIGHBOUR: 'it returns false'. Refute it at one input. -/
def cellsBlocksWrong : ChangeSpec := { name := "cellsBlocks", fn := fun _ => fun
  | [d] => { results := [.lit (.bool false)], args := [d] }
  | _ => none }
def CellsBlocksWrongFalsely : Prop := cellsBlocksRow.holds Tryd.pinned (OpenSpec.ofChange cellsBlocksWrong)

/-- 'duetlaw20.CellsFits': WHATEVER THE INPUT: true; the input reads as it did. -/
def cellsFitsSpec : ChangeSpec := { name := "cellsFits", fn := fun _ => fun
  | [d1, d2] => { results := [.lit (.bool true)], args := [d1, d2] }
  | _ => none }
def cellsFitsRow : OpenClaim := { program := "ytmhnldlfknbocaadoor", sum := "bb53687947cea9dfd7b89d0c0f0898450dbf100068509fa791e1439cce602844", func := "duet/duetlaw20.CellsFits", spec := "cellsFits", unfollowed := true, recurses := true, named := ["duet/cells.none", "duet/cells.wide"], apart := false, laid := [("duet/cells.none", laid_duet_cells_none), ("duet/cells.wide", laid_duet_cells_wide)] }
def CellsFitsSaid : Prop := cellsFitsRow.holds Tryd.pinned (OpenSpec.ofChange cellsFitsSpec)

/-- ITS FALSE NEIGHBOUR: 'it returns false'. Refute it at one input. -/
def cellsFitsWrong : ChangeSpec := { name := "cellsFits", fn := fun _ => fun
  | [d1, d2] => { results := [.lit (.bool false)], args := [d1, d2] }
  | _ => none }
def CellsFitsWrongFalsely : Prop := cellsFitsRow.holds Tryd.pinned (OpenSpec.ofChange cellsFitsWrong)

/-- 'duetlaw20.CellsMost': WHATEVER THE INPUT: true; the input reads as it did. -/
def cellsMostSpec : ChangeSpec := { name := "cellsMost", fn := fun _ => fun
  | [d1, d2] => { results := [.lit (.bool true)], args := [d1, d2] }
  | _ => none }
def cellsMostRow : OpenClaim := { program := "ytmhnldlfknbocaadoor", sum := "bb53687947cea9dfd7b89d0c0f0898450dbf100068509fa791e1439cce602844", func := "duet/duetlaw20.CellsMost", spec := "cellsMost", unfollowed := true, recurses := true, named := ["duet/cells.none", "duet/cells.wide"], apart := false, laid := [("duet/cells.none", laid_duet_cells_none), ("duet/cells.wide", laid_duet_cells_wide)] }
def CellsMostSaid : Prop := cellsMostRow.holds Tryd.pinned (OpenSpec.ofChange cellsMostSpec)

/-- ITS FALSE NEIGHBOUR: 'it returns false'. Refute it at one input. -/
def cellsMostWrong : ChangeSpec := { name := "cellsMost", fn := fun _ => fun
  | [d1, d2] => { results := [.lit (.bool false)], args := [d1, d2] }
  | _ => none }
def CellsMostWrongFalsely : Prop := cellsMostRow.holds Tryd.pinned (OpenSpec.ofChange cellsMostWrong)

/-- 'duetlaw20.CellsJoined': WHATEVER THE INPUT: true; the input reads as it did. -/
def cellsJoinedSpec : ChangeSpec := { name := "cellsJoined", fn := fun _ => fun
  | [d1, d2] => { results := [.lit (.bool true)], args := [d1, d2] }
  | _ => none }
def cellsJoinedRow : OpenClaim := { program := "ytmhnldlfknbocaadoor", sum := "bb53687947cea9dfd7b89d0c0f0898450dbf100068509fa791e1439cce602844", func := "duet/duetlaw20.CellsJoined", spec := "cellsJoined", unfollowed := true, recurses := true, named := ["duet/cells.none", "duet/cells.wide"], apart := false, laid := [("duet/cells.none", laid_duet_cells_none), ("duet/cells.wide", laid_duet_cells_wide)] }
def CellsJoinedSaid : Prop := cellsJoinedRow.holds Tryd.pinned (OpenSpec.ofChange cellsJoinedSpec)

/-- ITS FALSE NEIGHBOUR: 'it returns false'. Refute it at one input. -/
def cellsJoinedWrong : ChangeSpec := { name := "cellsJoined", fn := fun _ => fun
  | [d1, d2] => { results := [.lit (.bool false)], args := [d1, d2] }
  | _ => none }
def CellsJoinedWrongFalsely : Prop := cellsJoinedRow.holds Tryd.pinned (OpenSpec.ofChange cellsJoinedWrong)

/-- 'duetlaw20.CellsPlain': WHATEVER THE INPUT: true; the input reads as it did. -/
def cellsPlainSpec : ChangeSpec := { name := "cellsPlain", fn := fun _ => fun
  | [d1, d2] => { results := [.lit (.bool true)], args := [d1, d2] }
  | _ => none }
def cellsPlainRow : OpenClaim := { program := "ytmhnldlfknbocaadoor", sum := "bb53687947cea9dfd7b89d0c0f0898450dbf100068509fa791e1439cce602844", func := "duet/duetlaw20.CellsPlain", spec := "cellsPlain", unfollowed := true, recurses := true, named := ["duet/cells.none", "duet/cells.wide"], apart := false, laid := [("duet/cells.none", laid_duet_cells_none), ("duet/cells.wide", laid_duet_cells_wide)] }
def CellsPlainSaid : Prop := cellsPlainRow.holds Tryd.pinned (OpenSpec.ofChange cellsPlainSpec)

/-- ITS FALSE NEIGHBOUR: 'it returns false'. Refute it at one input. -/
def cellsPlainWrong : ChangeSpec := { name := "cellsPlain", fn := fun _ => fun
  | [d1, d2] => { results := [.lit (.bool false)], args := [d1, d2] }
  | _ => none }
def CellsPlainWrongFalsely : Prop := cellsPlainRow.holds Tryd.pinned (OpenSpec.ofChange cellsPlainWrong)

/- THE SECOND FORM. 'bulk': how many values and letters a reading holds, each counted each time it is reached (what is shared counts as often as it is met; a slice's spare places count too). A statement '..UptoSaid' is the law's where the arguments, and the package variables that the reading takes, are together of bulk at most 1048576: NARROWER than '..Said'. Prove '..Said' where nothing that the law and all that it calls make is longer than what came in: it says more and counts as full. Else prove '..UptoSaid'. A law counts once. -/
mutual
def uptoBulk {H : Type} : DataW H → Nat
  | .lit (.string bytes) => bytes.length + 1
  | .lit _ => 1
  | .nil => 1
  | .ptr d => uptoBulk d + 1
  | .slice elems spare => uptoBulkAll elems + uptoBulkAll spare + 1
  | .agg parts => uptoBulkAll parts + 1
  | .iface _ d => uptoBulk d + 1
  | .map entries => uptoBulkEntries entries + 1
  | .held _ => 1
def uptoBulkAll {H : Type} : List (DataW H) → Nat
  | [] => 0
  | d :: r => uptoBulk d + uptoBulkAll r
def uptoBulkEntries {H : Type} : List (Lit × DataW H) → Nat
  | [] => 0
  | x :: r => uptoBulkEntry x + uptoBulkEntries r
def uptoBulkEntry {H : Type} : Lit × DataW H → Nat
  | (.string bytes, d) => bytes.length + uptoBulk d + 1
  | (_, d) => uptoBulk d + 1
 end
def uptoSmall : (H : Type) → List (DataW H) → Bool := fun _ ds => decide (uptoBulkAll ds ≤ 1048576)
def OpenSpec.upto (s : _root_.Go.ChangeSpec) : _root_.Go.OpenSpec := { _root_.Go.OpenSpec.ofChange s with cond := some uptoSmall }

/-- 'duetlaw20.CellsWidths', WHERE WHAT IT READS IS OF BULK AT MOST 1048576: true; the input reads as it did. -/
def cellsWidthsUptoRow : OpenClaim := { program := "ytmhnldlfknbocaadoor", sum := "bb53687947cea9dfd7b89d0c0f0898450dbf100068509fa791e1439cce602844", func := "duet/duetlaw20.CellsWidths", spec := "cellsWidths", unfollowed := true, recurses := true, named := ["duet/cells.none", "duet/cells.wide"], apart := false, laid := [("duet/cells.none", laid_duet_cells_none), ("duet/cells.wide", laid_duet_cells_wide)], narrowed := true }
def CellsWidthsUptoSaid : Prop := cellsWidthsUptoRow.holds Tryd.pinned (OpenSpec.upto cellsWidthsSpec)

/-- 'duetlaw20.CellsBlocks', WHERE WHAT IT READS IS OF BULK AT MOST 1048576: true; the input reads as it did. -/
def cellsBlocksUptoRow : OpenClaim := { program := "ytmhnldlfknbocaadoor", sum := "bb53687947cea9dfd7b89d0c0f0898450dbf100068509fa791e1439cce602844", func := "duet/duetlaw20.CellsBlocks", spec := "cellsBlocks", unfollowed := true, recurses := true, named := ["duet/cells.none", "duet/cells.wide"], apart := false, laid := [("duet/cells.none", laid_duet_cells_none), ("duet/cells.wide", laid_duet_cells_wide)], narrowed := true }
def CellsBlocksUptoSaid : Prop := cellsBlocksUptoRow.holds Tryd.pinned (OpenSpec.upto cellsBlocksSpec)

/-- 'duetlaw20.CellsFits', WHERE WHAT IT READS IS OF BULK AT MOST 1048576: true; the input reads as it did. -/
def cellsFitsUptoRow : OpenClaim := { program := "ytmhnldlfknbocaadoor", sum := "bb53687947cea9dfd7b89d0c0f0898450dbf100068509fa791e1439cce602844", func := "duet/duetlaw20.CellsFits", spec := "cellsFits", unfollowed := true, recurses := true, named := ["duet/cells.none", "duet/cells.wide"], apart := false, laid := [("duet/cells.none", laid_duet_cells_none), ("duet/cells.wide", laid_duet_cells_wide)], narrowed := true }
def CellsFitsUptoSaid : Prop := cellsFitsUptoRow.holds Tryd.pinned (OpenSpec.upto cellsFitsSpec)

/-- 'duetlaw20.CellsMost', WHERE WHAT IT READS IS OF BULK AT MOST 1048576: true; the input reads as it did. -/
def cellsMostUptoRow : OpenClaim := { program := "ytmhnldlfknbocaadoor", sum := "bb53687947cea9dfd7b89d0c0f0898450dbf100068509fa791e1439cce602844", func := "duet/duetlaw20.CellsMost", spec := "cellsMost", unfollowed := true, recurses := true, named := ["duet/cells.none", "duet/cells.wide"], apart := false, laid := [("duet/cells.none", laid_duet_cells_none), ("duet/cells.wide", laid_duet_cells_wide)], narrowed := true }
def CellsMostUptoSaid : Prop := cellsMostUptoRow.holds Tryd.pinned (OpenSpec.upto cellsMostSpec)

/-- 'duetlaw20.CellsJoined', WHERE WHAT IT READS IS OF BULK AT MOST 1048576: true; the input reads as it did. -/
def cellsJoinedUptoRow : OpenClaim := { program := "ytmhnldlfknbocaadoor", sum := "bb53687947cea9dfd7b89d0c0f0898450dbf100068509fa791e1439cce602844", func := "duet/duetlaw20.CellsJoined", spec := "cellsJoined", unfollowed := true, recurses := true, named := ["duet/cells.none", "duet/cells.wide"], apart := false, laid := [("duet/cells.none", laid_duet_cells_none), ("duet/cells.wide", laid_duet_cells_wide)], narrowed := true }
def CellsJoinedUptoSaid : Prop := cellsJoinedUptoRow.holds Tryd.pinned (OpenSpec.upto cellsJoinedSpec)

/-- 'duetlaw20.CellsPlain', WHERE WHAT IT READS IS OF BULK AT MOST 1048576: true; the input reads as it did. -/
def cellsPlainUptoRow : OpenClaim := { program := "ytmhnldlfknbocaadoor", sum := "bb53687947cea9dfd7b89d0c0f0898450dbf100068509fa791e1439cce602844", func := "duet/duetlaw20.CellsPlain", spec := "cellsPlain", unfollowed := true, recurses := true, named := ["duet/cells.none", "duet/cells.wide"], apart := false, laid := [("duet/cells.none", laid_duet_cells_none), ("duet/cells.wide", laid_duet_cells_wide)], narrowed := true }
def CellsPlainUptoSaid : Prop := cellsPlainUptoRow.holds Tryd.pinned (OpenSpec.upto cellsPlainSpec)

end Rows
end Go.Proofs.YtmhnldlfknbocaaDoor
