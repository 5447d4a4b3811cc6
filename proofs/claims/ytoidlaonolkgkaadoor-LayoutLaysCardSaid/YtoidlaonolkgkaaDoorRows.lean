/-
  NARROWER THAN 'FOR EVERY INPUT', by the rows' own cells (each row's printed sentence says how): LayoutLays: laid · LayoutChecks: laid · LayoutRight: laid · LayoutPlain: laid · LayoutSays: laid · LayoutCarets: laid.
  DERIVED. THE GIVEN ROWS OF THIS SEAT. 6 by the template 'for every input the law returns true; each argument reads behind the call as it read before'; 0 by the template 'total and deterministic' (their statements: YtoidlaonolkgkaaDoorTotals.lean).
  GIVEN WITH THE SEED: the statements are not yours to turn. If you find one false, say at which input.
  Laid BY PROGRAM, IN A SANDBOX (cutbox-rows.mjs): the forced cells as the released guide's own fill.sh prints them over the translation 42afbcbf8ff354df… (all of the seat's roots in one cut). By AI agents, Wed Nov 11 2026. No macro, syntax, notation, axiom, sorry.
-/
import Derived.Test.YtoidlaonolkgkaaDoorChecked
import GoSem.PinnedTables
import GoSem.Claim
import GoSem.ClaimJoined
import GoSem.ClaimMapViews
import Derived.JoinedTies
import Derived.KernelRfl
namespace Go.Proofs.YtoidlaonolkgkaaDoor
/- THE CELL 'sum', in the pinned program and in every row, IS THE sha256 OF THE DUMP (.gsa) THAT YtoidlaonolkgkaaDoorProg.lean LOADS. Nothing in Lean hashes anything: it is a label: what it is worth is what the hold of that sum in a sandbox is worth. -/
noncomputable def Tryd.pinned : Pinned := { name := "ytoidlaonolkgkaadoor", sum := "42afbcbf8ff354df79b6ccbe9aae291308cae2844477e021240669a86ccde8a5", checked := Tryd.checked }
namespace Rows
def none {H : Type} : Left H := { results := [], args := [] }

/- WHAT THE LISTED PACKAGE-LEVEL VARIABLES READ AS WHEN THE CALL BEGINS. Each datum BY PROGRAM (the guide's laid-datum.mjs) off the statement by which the dump's own 'gosem.cut.vars' lays the variable. In a bare row this is a premise. The card (YtoidlaonolkgkaaDoorCards.lean) ties it to the program's text. -/
def laid_unicode_utf8_acceptRanges {H : Type} : DataW H := .agg [.agg [.lit (.int .u8 128), .lit (.int .u8 191)], .agg [.lit (.int .u8 160), .lit (.int .u8 191)], .agg [.lit (.int .u8 128), .lit (.int .u8 159)], .agg [.lit (.int .u8 144), .lit (.int .u8 191)], .agg [.lit (.int .u8 128), .lit (.int .u8 143)], .agg [.lit (.int .u8 0), .lit (.int .u8 0)], .agg [.lit (.int .u8 0), .lit (.int .u8 0)], .agg [.lit (.int .u8 0), .lit (.int .u8 0)], .agg [.lit (.int .u8 0), .lit (.int .u8 0)], .agg [.lit (.int .u8 0), .lit (.int .u8 0)], .agg [.lit (.int .u8 0), .lit (.int .u8 0)], .agg [.lit (.int .u8 0), .lit (.int .u8 0)], .agg [.lit (.int .u8 0), .lit (.int .u8 0)], .agg [.lit (.int .u8 0), .lit (.int .u8 0)], .agg [.lit (.int .u8 0), .lit (.int .u8 0)], .agg [.lit (.int .u8 0), .lit (.int .u8 0)]]
def laid_duet_cells_none {H : Type} : DataW H := .slice [.agg [.lit (.int .i64 127), .lit (.int .i64 159)], .agg [.lit (.int .i64 768), .lit (.int .i64 879)], .agg [.lit (.int .i64 8203), .lit (.int .i64 8207)], .agg [.lit (.int .i64 8400), .lit (.int .i64 8447)], .agg [.lit (.int .i64 55296), .lit (.int .i64 57343)], .agg [.lit (.int .i64 65024), .lit (.int .i64 65039)], .agg [.lit (.int .i64 65056), .lit (.int .i64 65071)]] []
def laid_duet_cells_wide {H : Type} : DataW H := .slice [.agg [.lit (.int .i64 4352), .lit (.int .i64 4447)], .agg [.lit (.int .i64 11904), .lit (.int .i64 12350)], .agg [.lit (.int .i64 12353), .lit (.int .i64 42191)], .agg [.lit (.int .i64 44032), .lit (.int .i64 55203)], .agg [.lit (.int .i64 63744), .lit (.int .i64 64255)], .agg [.lit (.int .i64 65072), .lit (.int .i64 65135)], .agg [.lit (.int .i64 65281), .lit (.int .i64 65376)], .agg [.lit (.int .i64 65504), .lit (.int .i64 65510)], .agg [.lit (.int .i64 127744), .lit (.int .i64 128591)], .agg [.lit (.int .i64 128640), .lit (.int .i64 128767)], .agg [.lit (.int .i64 129280), .lit (.int .i64 129535)], .agg [.lit (.int .i64 131072), .lit (.int .i64 262141)]] []
/-- One of Go's own tables, pinned by name: the form's constant. -/
def laid_unicode_utf8_first : DataW Unit := Go.Pinned.utf8First

/-- 'duetlaw21.LayoutLays': WHATEVER THE INPUT: true; the input reads as it did. -/
def layoutLaysSpec : ChangeSpec := { name := "layoutLays", fn := fun _ => fun
  | [d] => { results := [.lit (.bool true)], args := [d] }
  | _ => none }
def layoutLaysRow : OpenClaim := { program := "ytoidlaonolkgkaadoor", sum := "42afbcbf8ff354df79b6ccbe9aae291308cae2844477e021240669a86ccde8a5", func := "duet/duetlaw21.LayoutLays", spec := "layoutLays", inPlace := ["internal/abi.NoEscape", "internal/bytealg.IndexByteString", "internal/bytealg.IndexString"], unfollowed := true, recurses := true, named := ["duet/cells.none", "duet/cells.wide", "unicode/utf8.first", "unicode/utf8.acceptRanges", "internal/bytealg.MaxLen"], apart := false, laid := [("unicode/utf8.acceptRanges", laid_unicode_utf8_acceptRanges), ("duet/cells.none", laid_duet_cells_none), ("duet/cells.wide", laid_duet_cells_wide), ("unicode/utf8.first", laid_unicode_utf8_first)] }
def LayoutLaysSaid : Prop := layoutLaysRow.holds Tryd.pinned (OpenSpec.ofChange layoutLaysSpec)

/-- ITS FALSE NEIGHBOUR: 'it returns false'. Refute it at one input. -/
def layoutLaysWrong : ChangeSpec := { name := "layoutLays", fn := fun _ => fun
  | [d] => { results := [.lit (.bool false)], args := [d] }
  | _ => none }
def LayoutLaysWrongFalsely : Prop := layoutLaysRow.holds Tryd.pinned (OpenSpec.ofChange layoutLaysWrong)

/-- 'duetlaw21.LayoutChecks': WHATEVER THE INPUT: true; the input reads as it did. -/
def layoutChecksSpec : ChangeSpec := { name := "layoutChecks", fn := fun _ => fun
  | [d1, d2] => { results := [.lit (.bool true)], args := [d1, d2] }
  | _ => none }
def layoutChecksRow : OpenClaim := { program := "ytoidlaonolkgkaadoor", sum := "42afbcbf8ff354df79b6ccbe9aae291308cae2844477e021240669a86ccde8a5", func := "duet/duetlaw21.LayoutChecks", spec := "layoutChecks", inPlace := ["internal/abi.NoEscape", "internal/bytealg.IndexByteString", "internal/bytealg.IndexString"], unfollowed := true, recurses := true, named := ["duet/cells.none", "duet/cells.wide", "unicode/utf8.first", "unicode/utf8.acceptRanges", "internal/bytealg.MaxLen"], apart := false, laid := [("unicode/utf8.acceptRanges", laid_unicode_utf8_acceptRanges), ("duet/cells.none", laid_duet_cells_none), ("duet/cells.wide", laid_duet_cells_wide), ("unicode/utf8.first", laid_unicode_utf8_first)] }
def LayoutChecksSaid : Prop := layoutChecksRow.holds Tryd.pinned (OpenSpec.ofChange layoutChecksSpec)

/-- ITS FALSE NEIGHBOUR: 'it returns false'. Refute it at one input. -/
def layoutChecksWrong : ChangeSpec := { name := "layoutChecks", fn := fun _ => fun
  | [d1, d2] => { results := [.lit (.bool false)], args := [d1, d2] }
  | _ => none }
def LayoutChecksWrongFalsely : Prop := layoutChecksRow.holds Tryd.pinned (OpenSpec.ofChange layoutChecksWrong)

/-- 'duetlaw21.LayoutRight': WHATEVER THE INPUT: true; the input reads as it did. -/
def layoutRightSpec : ChangeSpec := { name := "layoutRight", fn := fun _ => fun
  | [d] => { results := [.lit (.bool true)], args := [d] }
  | _ => none }
def layoutRightRow : OpenClaim := { program := "ytoidlaonolkgkaadoor", sum := "42afbcbf8ff354df79b6ccbe9aae291308cae2844477e021240669a86ccde8a5", func := "duet/duetlaw21.LayoutRight", spec := "layoutRight", inPlace := ["internal/abi.NoEscape", "internal/bytealg.IndexByteString", "internal/bytealg.IndexString"], unfollowed := true, recurses := true, named := ["duet/cells.none", "duet/cells.wide", "unicode/utf8.first", "unicode/utf8.acceptRanges", "internal/bytealg.MaxLen"], apart := false, laid := [("unicode/utf8.acceptRanges", laid_unicode_utf8_acceptRanges), ("duet/cells.none", laid_duet_cells_none), ("duet/cells.wide", laid_duet_cells_wide), ("unicode/utf8.first", laid_unicode_utf8_first)] }
def LayoutRightSaid : Prop := layoutRightRow.holds Tryd.pinned (OpenSpec.ofChange layoutRightSpec)

/-- ITS FALSE NEIGHBOUR: 'it returns false'. Refute it at one input. -/
def layoutRightWrong : ChangeSpec := { name := "layoutRight", fn := fun _ => fun
  | [d] => { results := [.lit (.bool false)], args := [d] }
  | _ => none }
def LayoutRightWrongFalsely : Prop := layoutRightRow.holds Tryd.pinned (OpenSpec.ofChange layoutRightWrong)

/-- 'duetlaw21.LayoutPlain': WHATEVER THE INPUT: true; the input reads as it did. -/
def layoutPlainSpec : ChangeSpec := { name := "layoutPlain", fn := fun _ => fun
  | [d1, d2, d3] => { results := [.lit (.bool true)], args := [d1, d2, d3] }
  | _ => none }
def layoutPlainRow : OpenClaim := { program := "ytoidlaonolkgkaadoor", sum := "42afbcbf8ff354df79b6ccbe9aae291308cae2844477e021240669a86ccde8a5", func := "duet/duetlaw21.LayoutPlain", spec := "layoutPlain", inPlace := ["internal/abi.NoEscape", "internal/bytealg.IndexByteString", "internal/bytealg.IndexString"], unfollowed := true, recurses := true, named := ["duet/cells.none", "duet/cells.wide", "unicode/utf8.first", "unicode/utf8.acceptRanges", "internal/bytealg.MaxLen"], apart := false, laid := [("unicode/utf8.acceptRanges", laid_unicode_utf8_acceptRanges), ("duet/cells.none", laid_duet_cells_none), ("duet/cells.wide", laid_duet_cells_wide), ("unicode/utf8.first", laid_unicode_utf8_first)] }
def LayoutPlainSaid : Prop := layoutPlainRow.holds Tryd.pinned (OpenSpec.ofChange layoutPlainSpec)

/-- ITS FALSE NEIGHBOUR: 'it returns false'. Refute it at one input. -/
def layoutPlainWrong : ChangeSpec := { name := "layoutPlain", fn := fun _ => fun
  | [d1, d2, d3] => { results := [.lit (.bool false)], args := [d1, d2, d3] }
  | _ => none }
def LayoutPlainWrongFalsely : Prop := layoutPlainRow.holds Tryd.pinned (OpenSpec.ofChange layoutPlainWrong)

/-- 'duetlaw21.LayoutSays': WHATEVER THE INPUT: true; the input reads as it did. -/
def layoutSaysSpec : ChangeSpec := { name := "layoutSays", fn := fun _ => fun
  | [d] => { results := [.lit (.bool true)], args := [d] }
  | _ => none }
def layoutSaysRow : OpenClaim := { program := "ytoidlaonolkgkaadoor", sum := "42afbcbf8ff354df79b6ccbe9aae291308cae2844477e021240669a86ccde8a5", func := "duet/duetlaw21.LayoutSays", spec := "layoutSays", inPlace := ["internal/abi.NoEscape", "internal/bytealg.IndexByteString", "internal/bytealg.IndexString"], unfollowed := true, recurses := true, named := ["duet/cells.none", "duet/cells.wide", "unicode/utf8.first", "unicode/utf8.acceptRanges", "internal/bytealg.MaxLen"], apart := false, laid := [("unicode/utf8.acceptRanges", laid_unicode_utf8_acceptRanges), ("duet/cells.none", laid_duet_cells_none), ("duet/cells.wide", laid_duet_cells_wide), ("unicode/utf8.first", laid_unicode_utf8_first)] }
def LayoutSaysSaid : Prop := layoutSaysRow.holds Tryd.pinned (OpenSpec.ofChange layoutSaysSpec)

/-- ITS FALSE NEIGHBOUR: 'it returns false'. Refute it at one input. -/
def layoutSaysWrong : ChangeSpec := { name := "layoutSays", fn := fun _ => fun
  | [d] => { results := [.lit (.bool false)], args := [d] }
  | _ => none }
def LayoutSaysWrongFalsely : Prop := layoutSaysRow.holds Tryd.pinned (OpenSpec.ofChange layoutSaysWrong)

/-- 'duetlaw21.LayoutCarets': WHATEVER THE INPUT: true; the input reads as it did. -/
def layoutCaretsSpec : ChangeSpec := { name := "layoutCarets", fn := fun _ => fun
  | [d] => { results := [.lit (.bool true)], args := [d] }
  | _ => none }
def layoutCaretsRow : OpenClaim := { program := "ytoidlaonolkgkaadoor", sum := "42afbcbf8ff354df79b6ccbe9aae291308cae2844477e021240669a86ccde8a5", func := "duet/duetlaw21.LayoutCarets", spec := "layoutCarets", inPlace := ["internal/abi.NoEscape", "internal/bytealg.IndexByteString", "internal/bytealg.IndexString"], unfollowed := true, recurses := true, named := ["duet/cells.none", "duet/cells.wide", "unicode/utf8.first", "unicode/utf8.acceptRanges", "internal/bytealg.MaxLen"], apart := false, laid := [("unicode/utf8.acceptRanges", laid_unicode_utf8_acceptRanges), ("duet/cells.none", laid_duet_cells_none), ("duet/cells.wide", laid_duet_cells_wide), ("unicode/utf8.first", laid_unicode_utf8_first)] }
def LayoutCaretsSaid : Prop := layoutCaretsRow.holds Tryd.pinned (OpenSpec.ofChange layoutCaretsSpec)

/-- ITS FALSE NEIGHBOUR: 'it returns false'. Refute it at one input. -/
def layoutCaretsWrong : ChangeSpec := { name := "layoutCarets", fn := fun _ => fun
  | [d] => { results := [.lit (.bool false)], args := [d] }
  | _ => none }
def LayoutCaretsWrongFalsely : Prop := layoutCaretsRow.holds Tryd.pinned (OpenSpec.ofChange layoutCaretsWrong)

/- THE SECOND FORM. 'bulk': how many values and letters a reading holds, each counted each time it is reached (what is shared counts as often as it is met; a slice's spare places count too). A statement '..UptoSaid' is the law's where the arguments, and the package variables that the reading takes, are together of bulk at most 1048576: NARROWER than '..Said'. Prove '..Said' where nothing that the law and all that it calls make is longer than what came in: it says more and counts as full. Else prove '..UptoSaid'. A law counts once. -/
mutual
def uptoBulk {H : Type} : DataW H → Nat
  | .lit (.string bytes) => bytes.length + 1
  | .lit _ => 1
  | .nil => 1
  | .ptr d => uptoBulk d + 1
  | .slice elems spare => uptoBulkAll elems + uptoBulkAll spare + 1
  | .agg parts => uptoBulkAll parts + 1
  | .iface _ d => uptoBulk d + 1
  | .map entries => uptoBulkEntries entries + 1
  | .held _ => 1
def uptoBulkAll {H : Type} : List (DataW H) → Nat
  | [] => 0
  | d :: r => uptoBulk d + uptoBulkAll r
def uptoBulkEntries {H : Type} : List (Lit × DataW H) → Nat
  | [] => 0
  | x :: r => uptoBulkEntry x + uptoBulkEntries r
def uptoBulkEntry {H : Type} : Lit × DataW H → Nat
  | (.string bytes, d) => bytes.length + uptoBulk d + 1
  | (_, d) => uptoBulk d + 1
 end
def uptoSmall : (H : Type) → List (DataW H) → Bool := fun _ ds => decide (uptoBulkAll ds ≤ 1048576)
def OpenSpec.upto (s : _root_.Go.ChangeSpec) : _root_.Go.OpenSpec := { _root_.Go.OpenSpec.ofChange s with cond := some uptoSmall }

/-- 'duetlaw21.LayoutLays', WHERE WHAT IT READS IS OF BULK AT MOST 1048576: true; the input reads as it did. -/
def layoutLaysUptoRow : OpenClaim := { program := "ytoidlaonolkgkaadoor", sum := "42afbcbf8ff354df79b6ccbe9aae291308cae2844477e021240669a86ccde8a5", func := "duet/duetlaw21.LayoutLays", spec := "layoutLays", inPlace := ["internal/abi.NoEscape", "internal/bytealg.IndexByteString", "internal/bytealg.IndexString"], unfollowed := true, recurses := true, named := ["duet/cells.none", "duet/cells.wide", "unicode/utf8.first", "unicode/utf8.acceptRanges", "internal/bytealg.MaxLen"], apart := false, laid := [("unicode/utf8.acceptRanges", laid_unicode_utf8_acceptRanges), ("duet/cells.none", laid_duet_cells_none), ("duet/cells.wide", laid_duet_cells_wide), ("unicode/utf8.first", laid_unicode_utf8_first)], narrowed := true }
def LayoutLaysUptoSaid : Prop := layoutLaysUptoRow.holds Tryd.pinned (OpenSpec.upto layoutLaysSpec)

/-- 'duetlaw21.LayoutChecks', WHERE WHAT IT READS IS OF BULK AT MOST 1048576: true; the input reads as it did. -/
def layoutChecksUptoRow : OpenClaim := { program := "ytoidlaonolkgkaadoor", sum := "42afbcbf8ff354df79b6ccbe9aae291308cae2844477e021240669a86ccde8a5", func := "duet/duetlaw21.LayoutChecks", spec := "layoutChecks", inPlace := ["internal/abi.NoEscape", "internal/bytealg.IndexByteString", "internal/bytealg.IndexString"], unfollowed := true, recurses := true, named := ["duet/cells.none", "duet/cells.wide", "unicode/utf8.first", "unicode/utf8.acceptRanges", "internal/bytealg.MaxLen"], apart := false, laid := [("unicode/utf8.acceptRanges", laid_unicode_utf8_acceptRanges), ("duet/cells.none", laid_duet_cells_none), ("duet/cells.wide", laid_duet_cells_wide), ("unicode/utf8.first", laid_unicode_utf8_first)], narrowed := true }
def LayoutChecksUptoSaid : Prop := layoutChecksUptoRow.holds Tryd.pinned (OpenSpec.upto layoutChecksSpec)

/-- 'duetlaw21.LayoutRight', WHERE WHAT IT READS IS OF BULK AT MOST 1048576: true; the input reads as it did. -/
def layoutRightUptoRow : OpenClaim := { program := "ytoidlaonolkgkaadoor", sum := "42afbcbf8ff354df79b6ccbe9aae291308cae2844477e021240669a86ccde8a5", func := "duet/duetlaw21.LayoutRight", spec := "layoutRight", inPlace := ["internal/abi.NoEscape", "internal/bytealg.IndexByteString", "internal/bytealg.IndexString"], unfollowed := true, recurses := true, named := ["duet/cells.none", "duet/cells.wide", "unicode/utf8.first", "unicode/utf8.acceptRanges", "internal/bytealg.MaxLen"], apart := false, laid := [("unicode/utf8.acceptRanges", laid_unicode_utf8_acceptRanges), ("duet/cells.none", laid_duet_cells_none), ("duet/cells.wide", laid_duet_cells_wide), ("unicode/utf8.first", laid_unicode_utf8_first)], narrowed := true }
def LayoutRightUptoSaid : Prop := layoutRightUptoRow.holds Tryd.pinned (OpenSpec.upto layoutRightSpec)

/-- 'duetlaw21.LayoutPlain', WHERE WHAT IT READS IS OF BULK AT MOST 1048576: true; the input reads as it did. -/
def layoutPlainUptoRow : OpenClaim := { program := "ytoidlaonolkgkaadoor", sum := "42afbcbf8ff354df79b6ccbe9aae291308cae2844477e021240669a86ccde8a5", func := "duet/duetlaw21.LayoutPlain", spec := "layoutPlain", inPlace := ["internal/abi.NoEscape", "internal/bytealg.IndexByteString", "internal/bytealg.IndexString"], unfollowed := true, recurses := true, named := ["duet/cells.none", "duet/cells.wide", "unicode/utf8.first", "unicode/utf8.acceptRanges", "internal/bytealg.MaxLen"], apart := false, laid := [("unicode/utf8.acceptRanges", laid_unicode_utf8_acceptRanges), ("duet/cells.none", laid_duet_cells_none), ("duet/cells.wide", laid_duet_cells_wide), ("unicode/utf8.first", laid_unicode_utf8_first)], narrowed := true }
def LayoutPlainUptoSaid : Prop := layoutPlainUptoRow.holds Tryd.pinned (OpenSpec.upto layoutPlainSpec)

/-- 'duetlaw21.LayoutSays', WHERE WHAT IT READS IS OF BULK AT MOST 1048576: true; the input reads as it did. -/
def layoutSaysUptoRow : OpenClaim := { program := "ytoidlaonolkgkaadoor", sum := "42afbcbf8ff354df79b6ccbe9aae291308cae2844477e021240669a86ccde8a5", func := "duet/duetlaw21.LayoutSays", spec := "layoutSays", inPlace := ["internal/abi.NoEscape", "internal/bytealg.IndexByteString", "internal/bytealg.IndexString"], unfollowed := true, recurses := true, named := ["duet/cells.none", "duet/cells.wide", "unicode/utf8.first", "unicode/utf8.acceptRanges", "internal/bytealg.MaxLen"], apart := false, laid := [("unicode/utf8.acceptRanges", laid_unicode_utf8_acceptRanges), ("duet/cells.none", laid_duet_cells_none), ("duet/cells.wide", laid_duet_cells_wide), ("unicode/utf8.first", laid_unicode_utf8_first)], narrowed := true }
def LayoutSaysUptoSaid : Prop := layoutSaysUptoRow.holds Tryd.pinned (OpenSpec.upto layoutSaysSpec)

/-- 'duetlaw21.LayoutCarets', WHERE WHAT IT READS IS OF BULK AT MOST 1048576: true; the input reads as it did. -/
def layoutCaretsUptoRow : OpenClaim := { program := "ytoidlaonolkgkaadoor", sum := "42afbcbf8ff354df79b6ccbe9aae291308cae2844477e021240669a86ccde8a5", func := "duet/duetlaw21.LayoutCarets", spec := "layoutCarets", inPlace := ["internal/abi.NoEscape", "internal/bytealg.IndexByteString", "internal/bytealg.IndexString"], unfollowed := true, recurses := true, named := ["duet/cells.none", "duet/cells.wide", "unicode/utf8.first", "unicode/utf8.acceptRanges", "internal/bytealg.MaxLen"], apart := false, laid := [("unicode/utf8.acceptRanges", laid_unicode_utf8_acceptRanges), ("duet/cells.none", laid_duet_cells_none), ("duet/cells.wide", laid_duet_cells_wide), ("unicode/utf8.first", laid_unicode_utf8_first)], narrowed := true }
def LayoutCaretsUptoSaid : Prop := layoutCaretsUptoRow.holds Tryd.pinned (OpenSpec.upto layoutCaretsSpec)

end Rows
end Go.Proofs.YtoidlaonolkgkaaDoor
