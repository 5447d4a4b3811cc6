/-
  NARROWER THAN 'FOR EVERY INPUT', by the rows' own cells (each row's printed sentence says how): KeysReads: laid · KeysNil: laid · KeysCut: laid · KeysRunes: laid · KeysPlain: laid.
  DERIVED. THE GIVEN ROWS OF THIS SEAT. 5 by the template 'for every input the law returns true; each argument reads behind the call as it read before'; 0 by the template 'total and deterministic' (their statements: YtmgdikfgejablaaDoorTotals.lean).
  GIVEN WITH THE SEED: the statements are not yours to turn. If you find one false, say at which input.
  Laid BY PROGRAM, IN A SANDBOX (cutbox-rows.mjs): the forced cells as the released guide's own fill.sh prints them over the translation f3fe184d76e27cf7… (all of the seat's roots in one cut). By AI agents, Wed Nov 11 2026. No macro, syntax, notation, axiom, sorry.
-/
import Derived.Test.YtmgdikfgejablaaDoorChecked
import GoSem.PinnedTables
import GoSem.Claim
import GoSem.ClaimJoined
import GoSem.ClaimMapViews
import Derived.JoinedTies
import Derived.KernelRfl
namespace Go.Proofs.YtmgdikfgejablaaDoor
/- THE CELL 'sum', in the pinned program and in every row, IS THE sha256 OF THE DUMP (.gsa) THAT YtmgdikfgejablaaDoorProg.lean LOADS. Nothing in Lean hashes anything: it is a label: what it is worth is what the hold of that sum in a sandbox is worth. -/
noncomputable def Tryd.pinned : Pinned := { name := "ytmgdikfgejablaadoor", sum := "f3fe184d76e27cf7f366376c6fa5c2011855bce56eade91db484d24d80e06e0b", checked := Tryd.checked }
namespace Rows
def none {H : Type} : Left H := { results := [], args := [] }

/- WHAT THE LISTED PACKAGE-LEVEL VARIABLES READ AS WHEN THE CALL BEGINS. Each datum BY PROGRAM (the guide's laid-datum.mjs) off the statement by which the dump's own 'gosem.cut.vars' lays the variable. In a bare row this is a premise. The card (YtmgdikfgejablaaDoorCards.lean) ties it to the program's text. -/
def laid_unicode_utf8_acceptRanges {H : Type} : DataW H := .agg [.agg [.lit (.int .u8 128), .lit (.int .u8 191)], .agg [.lit (.int .u8 160), .lit (.int .u8 191)], .agg [.lit (.int .u8 128), .lit (.int .u8 159)], .agg [.lit (.int .u8 144), .lit (.int .u8 191)], .agg [.lit (.int .u8 128), .lit (.int .u8 143)], .agg [.lit (.int .u8 0), .lit (.int .u8 0)], .agg [.lit (.int .u8 0), .lit (.int .u8 0)], .agg [.lit (.int .u8 0), .lit (.int .u8 0)], .agg [.lit (.int .u8 0), .lit (.int .u8 0)], .agg [.lit (.int .u8 0), .lit (.int .u8 0)], .agg [.lit (.int .u8 0), .lit (.int .u8 0)], .agg [.lit (.int .u8 0), .lit (.int .u8 0)], .agg [.lit (.int .u8 0), .lit (.int .u8 0)], .agg [.lit (.int .u8 0), .lit (.int .u8 0)], .agg [.lit (.int .u8 0), .lit (.int .u8 0)], .agg [.lit (.int .u8 0), .lit (.int .u8 0)]]
/-- One of Go's own tables, pinned by name: the form's constant. -/
def laid_unicode_utf8_first : DataW Unit := Go.Pinned.utf8First

/-- 'duetlaw17.KeysReads': WHATEVER THE INPUT: true; the input reads as it did. -/
def keysReadsSpec : ChangeSpec := { name := "keysReads", fn := fun _ => fun
  | [d] => { results := [.lit (.bool true)], args := [d] }
  | _ => none }
def keysReadsRow : OpenClaim := { program := "ytmgdikfgejablaadoor", sum := "f3fe184d76e27cf7f366376c6fa5c2011855bce56eade91db484d24d80e06e0b", func := "duet/duetlaw17.KeysReads", spec := "keysReads", unfollowed := true, recurses := true, named := ["unicode/utf8.first", "unicode/utf8.acceptRanges"], apart := false, laid := [("unicode/utf8.acceptRanges", laid_unicode_utf8_acceptRanges), ("unicode/utf8.first", laid_unicode_utf8_first)] }
def KeysReadsSaid : Prop := keysReadsRow.holds Tryd.pinned (OpenSpec.ofChange keysReadsSpec)

/-- ITS FALSE NEIGHBOUR: 'it returns false'. Refute it at one input. -/
def keysReadsWrong : ChangeSpec := { name := "keysReads", fn := fun _ => fun
  | [d] => { results := [.lit (.bool false)], args := [d] }
  | _ => none }
def KeysReadsWrongFalsely : Prop := keysReadsRow.holds Tryd.pinned (OpenSpec.ofChange keysReadsWrong)

/-- 'duetlaw17.KeysNil': WHATEVER THE INPUT: true; the input reads as it did. -/
def keysNilSpec : ChangeSpec := { name := "keysNil", fn := fun _ => fun
  | [d] => { results := [.lit (.bool true)], args := [d] }
  | _ => none }
def keysNilRow : OpenClaim := { program := "ytmgdikfgejablaadoor", sum := "f3fe184d76e27cf7f366376c6fa5c2011855bce56eade91db484d24d80e06e0b", func := "duet/duetlaw17.KeysNil", spec := "keysNil", unfollowed := true, recurses := true, named := ["unicode/utf8.first", "unicode/utf8.acceptRanges"], apart := false, laid := [("unicode/utf8.acceptRanges", laid_unicode_utf8_acceptRanges), ("unicode/utf8.first", laid_unicode_utf8_first)] }
def KeysNilSaid : Prop := keysNilRow.holds Tryd.pinned (OpenSpec.ofChange keysNilSpec)

/-- ITS FALSE NEIGHBOUR: 'it returns false'. Refute it at one input. -/
def keysNilWrong : ChangeSpec := { name := "keysNil", fn := fun _ => fun
  | [d] => { results := [.lit (.bool false)], args := [d] }
  | _ => none }
def KeysNilWrongFalsely : Prop := keysNilRow.holds Tryd.pinned (OpenSpec.ofChange keysNilWrong)

/-- 'duetlaw17.KeysCut': WHATEVER THE INPUT: true; the input reads as it did. -/
def keysCutSpec : ChangeSpec := { name := "keysCut", fn := fun _ => fun
  | [d1, d2] => { results := [.lit (.bool true)], args := [d1, d2] }
  | _ => none }
def keysCutRow : OpenClaim := { program := "ytmgdikfgejablaadoor", sum := "f3fe184d76e27cf7f366376c6fa5c2011855bce56eade91db484d24d80e06e0b", func := "duet/duetlaw17.KeysCut", spec := "keysCut", unfollowed := true, recurses := true, named := ["unicode/utf8.first", "unicode/utf8.acceptRanges"], apart := false, laid := [("unicode/utf8.acceptRanges", laid_unicode_utf8_acceptRanges), ("unicode/utf8.first", laid_unicode_utf8_first)] }
def KeysCutSaid : Prop := keysCutRow.holds Tryd.pinned (OpenSpec.ofChange keysCutSpec)

/-- ITS FALSE NEIGHBOUR: 'it returns false'. Refute it at one input. -/
def keysCutWrong : ChangeSpec := { name := "keysCut", fn := fun _ => fun
  | [d1, d2] => { results := [.lit (.bool false)], args := [d1, d2] }
  | _ => none }
def KeysCutWrongFalsely : Prop := keysCutRow.holds Tryd.pinned (OpenSpec.ofChange keysCutWrong)

/-- 'duetlaw17.KeysRunes': WHATEVER THE INPUT: true; the input reads as it did. -/
def keysRunesSpec : ChangeSpec := { name := "keysRunes", fn := fun _ => fun
  | [d] => { results := [.lit (.bool true)], args := [d] }
  | _ => none }
def keysRunesRow : OpenClaim := { program := "ytmgdikfgejablaadoor", sum := "f3fe184d76e27cf7f366376c6fa5c2011855bce56eade91db484d24d80e06e0b", func := "duet/duetlaw17.KeysRunes", spec := "keysRunes", unfollowed := true, recurses := true, named := ["unicode/utf8.first", "unicode/utf8.acceptRanges"], apart := false, laid := [("unicode/utf8.acceptRanges", laid_unicode_utf8_acceptRanges), ("unicode/utf8.first", laid_unicode_utf8_first)] }
def KeysRunesSaid : Prop := keysRunesRow.holds Tryd.pinned (OpenSpec.ofChange keysRunesSpec)

/-- ITS FALSE NEIGHBOUR: 'it returns false'. Refute it at one input. -/
def keysRunesWrong : ChangeSpec := { name := "keysRunes", fn := fun _ => fun
  | [d] => { results := [.lit (.bool false)], args := [d] }
  | _ => none }
def KeysRunesWrongFalsely : Prop := keysRunesRow.holds Tryd.pinned (OpenSpec.ofChange keysRunesWrong)

/-- 'duetlaw17.KeysPlain': WHATEVER THE INPUT: true; the input reads as it did. -/
def keysPlainSpec : ChangeSpec := { name := "keysPlain", fn := fun _ => fun
  | [d] => { results := [.lit (.bool true)], args := [d] }
  | _ => none }
def keysPlainRow : OpenClaim := { program := "ytmgdikfgejablaadoor", sum := "f3fe184d76e27cf7f366376c6fa5c2011855bce56eade91db484d24d80e06e0b", func := "duet/duetlaw17.KeysPlain", spec := "keysPlain", unfollowed := true, recurses := true, named := ["unicode/utf8.first", "unicode/utf8.acceptRanges"], apart := false, laid := [("unicode/utf8.acceptRanges", laid_unicode_utf8_acceptRanges), ("unicode/utf8.first", laid_unicode_utf8_first)] }
def KeysPlainSaid : Prop := keysPlainRow.holds Tryd.pinned (OpenSpec.ofChange keysPlainSpec)

/-- ITS FALSE NEIGHBOUR: 'it returns false'. Refute it at one input. -/
def keysPlainWrong : ChangeSpec := { name := "keysPlain", fn := fun _ => fun
  | [d] => { results := [.lit (.bool false)], args := [d] }
  | _ => none }
def KeysPlainWrongFalsely : Prop := keysPlainRow.holds Tryd.pinned (OpenSpec.ofChange keysPlainWrong)

/- THE SECOND FORM. 'bulk': how many values and letters a reading holds, each counted each time it is reached (what is shared counts as often as it is met; a slice's spare places count too). A statement '..UptoSaid' is the law's where the arguments, and the package variables that the reading takes, are together of bulk at most 1048576: NARROWER than '..Said'. Prove '..Said' where nothing that the law and all that it calls make is longer than what came in: it says more and counts as full. Else prove '..UptoSaid'. A law counts once. -/
mutual
def uptoBulk {H : Type} : DataW H → Nat
  | .lit (.string bytes) => bytes.length + 1
  | .lit _ => 1
  | .nil => 1
  | .ptr d => uptoBulk d + 1
  | .slice elems spare => uptoBulkAll elems + uptoBulkAll spare + 1
  | .agg parts => uptoBulkAll parts + 1
  | .iface _ d => uptoBulk d + 1
  | .map entries => uptoBulkEntries entries + 1
  | .held _ => 1
def uptoBulkAll {H : Type} : List (DataW H) → Nat
  | [] => 0
  | d :: r => uptoBulk d + uptoBulkAll r
def uptoBulkEntries {H : Type} : List (Lit × DataW H) → Nat
  | [] => 0
  | x :: r => uptoBulkEntry x + uptoBulkEntries r
def uptoBulkEntry {H : Type} : Lit × DataW H → Nat
  | (.string bytes, d) => bytes.length + uptoBulk d + 1
  | (_, d) => uptoBulk d + 1
 end
def uptoSmall : (H : Type) → List (DataW H) → Bool := fun _ ds => decide (uptoBulkAll ds ≤ 1048576)
def OpenSpec.upto (s : _root_.Go.ChangeSpec) : _root_.Go.OpenSpec := { _root_.Go.OpenSpec.ofChange s with cond := some uptoSmall }

/-- 'duetlaw17.KeysReads', WHERE WHAT IT READS IS OF BULK AT MOST 1048576: true; the input reads as it did. -/
def keysReadsUptoRow : OpenClaim := { program := "ytmgdikfgejablaadoor", sum := "f3fe184d76e27cf7f366376c6fa5c2011855bce56eade91db484d24d80e06e0b", func := "duet/duetlaw17.KeysReads", spec := "keysReads", unfollowed := true, recurses := true, named := ["unicode/utf8.first", "unicode/utf8.acceptRanges"], apart := false, laid := [("unicode/utf8.acceptRanges", laid_unicode_utf8_acceptRanges), ("unicode/utf8.first", laid_unicode_utf8_first)], narrowed := true }
def KeysReadsUptoSaid : Prop := keysReadsUptoRow.holds Tryd.pinned (OpenSpec.upto keysReadsSpec)

/-- 'duetlaw17.KeysNil', WHERE WHAT IT READS IS OF BULK AT MOST 1048576: true; the input reads as it did. -/
def keysNilUptoRow : OpenClaim := { program := "ytmgdikfgejablaadoor", sum := "f3fe184d76e27cf7f366376c6fa5c2011855bce56eade91db484d24d80e06e0b", func := "duet/duetlaw17.KeysNil", spec := "keysNil", unfollowed := true, recurses := true, named := ["unicode/utf8.first", "unicode/utf8.acceptRanges"], apart := false, laid := [("unicode/utf8.acceptRanges", laid_unicode_utf8_acceptRanges), ("unicode/utf8.first", laid_unicode_utf8_first)], narrowed := true }
def KeysNilUptoSaid : Prop := keysNilUptoRow.holds Tryd.pinned (OpenSpec.upto keysNilSpec)

/-- 'duetlaw17.KeysCut', WHERE WHAT IT READS IS OF BULK AT MOST 1048576: true; the input reads as it did. -/
def keysCutUptoRow : OpenClaim := { program := "ytmgdikfgejablaadoor", sum := "f3fe184d76e27cf7f366376c6fa5c2011855bce56eade91db484d24d80e06e0b", func := "duet/duetlaw17.KeysCut", spec := "keysCut", unfollowed := true, recurses := true, named := ["unicode/utf8.first", "unicode/utf8.acceptRanges"], apart := false, laid := [("unicode/utf8.acceptRanges", laid_unicode_utf8_acceptRanges), ("unicode/utf8.first", laid_unicode_utf8_first)], narrowed := true }
def KeysCutUptoSaid : Prop := keysCutUptoRow.holds Tryd.pinned (OpenSpec.upto keysCutSpec)

/-- 'duetlaw17.KeysRunes', WHERE WHAT IT READS IS OF BULK AT MOST 1048576: true; the input reads as it did. -/
def keysRunesUptoRow : OpenClaim := { program := "ytmgdikfgejablaadoor", sum := "f3fe184d76e27cf7f366376c6fa5c2011855bce56eade91db484d24d80e06e0b", func := "duet/duetlaw17.KeysRunes", spec := "keysRunes", unfollowed := true, recurses := true, named := ["unicode/utf8.first", "unicode/utf8.acceptRanges"], apart := false, laid := [("unicode/utf8.acceptRanges", laid_unicode_utf8_acceptRanges), ("unicode/utf8.first", laid_unicode_utf8_first)], narrowed := true }
def KeysRunesUptoSaid : Prop := keysRunesUptoRow.holds Tryd.pinned (OpenSpec.upto keysRunesSpec)

/-- 'duetlaw17.KeysPlain', WHERE WHAT IT READS IS OF BULK AT MOST 1048576: true; the input reads as it did. -/
def keysPlainUptoRow : OpenClaim := { program := "ytmgdikfgejablaadoor", sum := "f3fe184d76e27cf7f366376c6fa5c2011855bce56eade91db484d24d80e06e0b", func := "duet/duetlaw17.KeysPlain", spec := "keysPlain", unfollowed := true, recurses := true, named := ["unicode/utf8.first", "unicode/utf8.acceptRanges"], apart := false, laid := [("unicode/utf8.acceptRanges", laid_unicode_utf8_acceptRanges), ("unicode/utf8.first", laid_unicode_utf8_first)], narrowed := true }
def KeysPlainUptoSaid : Prop := keysPlainUptoRow.holds Tryd.pinned (OpenSpec.upto keysPlainSpec)

end Rows
end Go.Proofs.YtmgdikfgejablaaDoor
