/-
  No cell of these rows narrows 'for every input' (looked for: loops, veiled, ifaces, maps, wideKeys, modest, calm, conditions, laid).
  DERIVED. THE GIVEN ROWS OF THIS SEAT. 6 by the template 'for every input the law returns true; each argument reads behind the call as it read before'; 0 by the template 'total and deterministic' (their statements: YtoaaekgpabnneaaTotals.lean).
  GIVEN WITH THE SEED: the statements are not yours to turn. If you find one false, say at which input.
  Laid BY PROGRAM, IN A SANDBOX (cutbox-rows.mjs): the forced cells as the released guide's own fill.sh prints them over the translation 70d23399c1457fbb… (all of the seat's roots in one cut). By AI agents, Wed Nov 11 2026. No macro, syntax, notation, axiom, sorry.
-/
import Derived.Test.YtoaaekgpabnneaaChecked
import GoSem.Claim
import GoSem.ClaimJoined
import GoSem.ClaimMapViews
import Derived.JoinedTies
import Derived.KernelRfl
namespace Go.Proofs.Ytoaaekgpabnneaa
/- THE CELL 'sum', in the pinned program and in every row, IS THE sha256 OF THE DUMP (.gsa) THAT YtoaaekgpabnneaaProg.lean LOADS. Nothing in Lean hashes anything: it is a label: what it is worth is what the hold of that sum in a sandbox is worth. -/
noncomputable def Try.pinned : Pinned := { name := "ytoaaekgpabnneaa", sum := "70d23399c1457fbbc300618c6c38586e2c5e646f9c98d4d958c61b48a1784916", checked := Try.checked }
namespace Rows
def none {H : Type} : Left H := { results := [], args := [] }

/-- 'duetlaw10.IdentLess': WHATEVER THE INPUT: true; the input reads as it did. -/
def identLessSpec : ChangeSpec := { name := "identLess", fn := fun _ => fun
  | [d1, d2, d3] => { results := [.lit (.bool true)], args := [d1, d2, d3] }
  | _ => none }
def identLessRow : OpenClaim := { program := "ytoaaekgpabnneaa", sum := "70d23399c1457fbbc300618c6c38586e2c5e646f9c98d4d958c61b48a1784916", func := "duet/duetlaw10.IdentLess", spec := "identLess", unfollowed := true, recurses := true, apart := false }
def IdentLessSaid : Prop := identLessRow.holds Try.pinned (OpenSpec.ofChange identLessSpec)

/-- ITS FALSE NEIGHBOUR: 'it returns false'. Refute it at one input. -/
def identLessWrong : ChangeSpec := { name := "identLess", fn := fun _ => fun
  | [d1, d2, d3] => { results := [.lit (.bool false)], args := [d1, d2, d3] }
  | _ => none }
def IdentLessWrongFalsely : Prop := identLessRow.holds Try.pinned (OpenSpec.ofChange identLessWrong)

/-- 'duetlaw10.IdentOrders': WHATEVER THE INPUT: true; the input reads as it did. -/
def identOrdersSpec : ChangeSpec := { name := "identOrders", fn := fun _ => fun
  | [d1, d2] => { results := [.lit (.bool true)], args := [d1, d2] }
  | _ => none }
def identOrdersRow : OpenClaim := { program := "ytoaaekgpabnneaa", sum := "70d23399c1457fbbc300618c6c38586e2c5e646f9c98d4d958c61b48a1784916", func := "duet/duetlaw10.IdentOrders", spec := "identOrders", unfollowed := true, recurses := true, apart := false }
def IdentOrdersSaid : Prop := identOrdersRow.holds Try.pinned (OpenSpec.ofChange identOrdersSpec)

/-- ITS FALSE NEIGHBOUR: 'it returns false'. Refute it at one input. -/
def identOrdersWrong : ChangeSpec := { name := "identOrders", fn := fun _ => fun
  | [d1, d2] => { results := [.lit (.bool false)], args := [d1, d2] }
  | _ => none }
def IdentOrdersWrongFalsely : Prop := identOrdersRow.holds Try.pinned (OpenSpec.ofChange identOrdersWrong)

/-- 'duetlaw10.IdentMakes': WHATEVER THE INPUT: true; the input reads as it did. -/
def identMakesSpec : ChangeSpec := { name := "identMakes", fn := fun _ => fun
  | [d1, d2] => { results := [.lit (.bool true)], args := [d1, d2] }
  | _ => none }
def identMakesRow : OpenClaim := { program := "ytoaaekgpabnneaa", sum := "70d23399c1457fbbc300618c6c38586e2c5e646f9c98d4d958c61b48a1784916", func := "duet/duetlaw10.IdentMakes", spec := "identMakes", unfollowed := true, recurses := true, apart := false }
def IdentMakesSaid : Prop := identMakesRow.holds Try.pinned (OpenSpec.ofChange identMakesSpec)

/-- ITS FALSE NEIGHBOUR: 'it returns false'. Refute it at one input. -/
def identMakesWrong : ChangeSpec := { name := "identMakes", fn := fun _ => fun
  | [d1, d2] => { results := [.lit (.bool false)], args := [d1, d2] }
  | _ => none }
def IdentMakesWrongFalsely : Prop := identMakesRow.holds Try.pinned (OpenSpec.ofChange identMakesWrong)

/-- 'duetlaw10.IdentNil': WHATEVER THE INPUT: true; the input reads as it did. -/
def identNilSpec : ChangeSpec := { name := "identNil", fn := fun _ => fun
  | [d] => { results := [.lit (.bool true)], args := [d] }
  | _ => none }
def identNilRow : OpenClaim := { program := "ytoaaekgpabnneaa", sum := "70d23399c1457fbbc300618c6c38586e2c5e646f9c98d4d958c61b48a1784916", func := "duet/duetlaw10.IdentNil", spec := "identNil", unfollowed := true, recurses := true, apart := false }
def IdentNilSaid : Prop := identNilRow.holds Try.pinned (OpenSpec.ofChange identNilSpec)

/-- ITS FALSE NEIGHBOUR: 'it returns false'. Refute it at one input. -/
def identNilWrong : ChangeSpec := { name := "identNil", fn := fun _ => fun
  | [d] => { results := [.lit (.bool false)], args := [d] }
  | _ => none }
def IdentNilWrongFalsely : Prop := identNilRow.holds Try.pinned (OpenSpec.ofChange identNilWrong)

/-- 'duetlaw10.IdentApart': WHATEVER THE INPUT: true; the input reads as it did. -/
def identApartSpec : ChangeSpec := { name := "identApart", fn := fun _ => fun
  | [d1, d2, d3] => { results := [.lit (.bool true)], args := [d1, d2, d3] }
  | _ => none }
def identApartRow : OpenClaim := { program := "ytoaaekgpabnneaa", sum := "70d23399c1457fbbc300618c6c38586e2c5e646f9c98d4d958c61b48a1784916", func := "duet/duetlaw10.IdentApart", spec := "identApart", unfollowed := true, recurses := true, apart := false }
def IdentApartSaid : Prop := identApartRow.holds Try.pinned (OpenSpec.ofChange identApartSpec)

/-- ITS FALSE NEIGHBOUR: 'it returns false'. Refute it at one input. -/
def identApartWrong : ChangeSpec := { name := "identApart", fn := fun _ => fun
  | [d1, d2, d3] => { results := [.lit (.bool false)], args := [d1, d2, d3] }
  | _ => none }
def IdentApartWrongFalsely : Prop := identApartRow.holds Try.pinned (OpenSpec.ofChange identApartWrong)

/-- 'duetlaw10.IdentRanks': WHATEVER THE INPUT: true; the input reads as it did. -/
def identRanksSpec : ChangeSpec := { name := "identRanks", fn := fun _ => fun
  | [d1, d2] => { results := [.lit (.bool true)], args := [d1, d2] }
  | _ => none }
def identRanksRow : OpenClaim := { program := "ytoaaekgpabnneaa", sum := "70d23399c1457fbbc300618c6c38586e2c5e646f9c98d4d958c61b48a1784916", func := "duet/duetlaw10.IdentRanks", spec := "identRanks", unfollowed := true, recurses := true, apart := false }
def IdentRanksSaid : Prop := identRanksRow.holds Try.pinned (OpenSpec.ofChange identRanksSpec)

/-- ITS FALSE NEIGHBOUR: 'it returns false'. Refute it at one input. -/
def identRanksWrong : ChangeSpec := { name := "identRanks", fn := fun _ => fun
  | [d1, d2] => { results := [.lit (.bool false)], args := [d1, d2] }
  | _ => none }
def IdentRanksWrongFalsely : Prop := identRanksRow.holds Try.pinned (OpenSpec.ofChange identRanksWrong)

/- THE SECOND FORM. 'bulk': how many values and letters a reading holds, each counted each time it is reached (what is shared counts as often as it is met; a slice's spare places count too). A statement '..UptoSaid' is the law's where the arguments, and the package variables that the reading takes, are together of bulk at most 1048576: NARROWER than '..Said'. Prove '..Said' where nothing that the law and all that it calls make is longer than what came in: it says more and counts as full. Else prove '..UptoSaid'. A law counts once. -/
mutual
def uptoBulk {H : Type} : DataW H → Nat
  | .lit (.string bytes) => bytes.length + 1
  | .lit _ => 1
  | .nil => 1
  | .ptr d => uptoBulk d + 1
  | .slice elems spare => uptoBulkAll elems + uptoBulkAll spare + 1
  | .agg parts => uptoBulkAll parts + 1
  | .iface _ d => uptoBulk d + 1
  | .map entries => uptoBulkEntries entries + 1
  | .held _ => 1
def uptoBulkAll {H : Type} : List (DataW H) → Nat
  | [] => 0
  | d :: r => uptoBulk d + uptoBulkAll r
def uptoBulkEntries {H : Type} : List (Lit × DataW H) → Nat
  | [] => 0
  | x :: r => uptoBulkEntry x + uptoBulkEntries r
def uptoBulkEntry {H : Type} : Lit × DataW H → Nat
  | (.string bytes, d) => bytes.length + uptoBulk d + 1
  | (_, d) => uptoBulk d + 1
 end
def uptoSmall : (H : Type) → List (DataW H) → Bool := fun _ ds => decide (uptoBulkAll ds ≤ 1048576)
def OpenSpec.upto (s : _root_.Go.ChangeSpec) : _root_.Go.OpenSpec := { _root_.Go.OpenSpec.ofChange s with cond := some uptoSmall }

/-- 'duetlaw10.IdentLess', WHERE WHAT IT READS IS OF BULK AT MOST 1048576: true; the input reads as it did. -/
def identLessUptoRow : OpenClaim := { program := "ytoaaekgpabnneaa", sum := "70d23399c1457fbbc300618c6c38586e2c5e646f9c98d4d958c61b48a1784916", func := "duet/duetlaw10.IdentLess", spec := "identLess", unfollowed := true, recurses := true, apart := false, narrowed := true }
def IdentLessUptoSaid : Prop := identLessUptoRow.holds Try.pinned (OpenSpec.upto identLessSpec)

/-- 'duetlaw10.IdentOrders', WHERE WHAT IT READS IS OF BULK AT MOST 1048576: true; the input reads as it did. -/
def identOrdersUptoRow : OpenClaim := { program := "ytoaaekgpabnneaa", sum := "70d23399c1457fbbc300618c6c38586e2c5e646f9c98d4d958c61b48a1784916", func := "duet/duetlaw10.IdentOrders", spec := "identOrders", unfollowed := true, recurses := true, apart := false, narrowed := true }
def IdentOrdersUptoSaid : Prop := identOrdersUptoRow.holds Try.pinned (OpenSpec.upto identOrdersSpec)

/-- 'duetlaw10.IdentMakes', WHERE WHAT IT READS IS OF BULK AT MOST 1048576: true; the input reads as it did. -/
def identMakesUptoRow : OpenClaim := { program := "ytoaaekgpabnneaa", sum := "70d23399c1457fbbc300618c6c38586e2c5e646f9c98d4d958c61b48a1784916", func := "duet/duetlaw10.IdentMakes", spec := "identMakes", unfollowed := true, recurses := true, apart := false, narrowed := true }
def IdentMakesUptoSaid : Prop := identMakesUptoRow.holds Try.pinned (OpenSpec.upto identMakesSpec)

/-- 'duetlaw10.IdentNil', WHERE WHAT IT READS IS OF BULK AT MOST 1048576: true; the input reads as it did. -/
def identNilUptoRow : OpenClaim := { program := "ytoaaekgpabnneaa", sum := "70d23399c1457fbbc300618c6c38586e2c5e646f9c98d4d958c61b48a1784916", func := "duet/duetlaw10.IdentNil", spec := "identNil", unfollowed := true, recurses := true, apart := false, narrowed := true }
def IdentNilUptoSaid : Prop := identNilUptoRow.holds Try.pinned (OpenSpec.upto identNilSpec)

/-- 'duetlaw10.IdentApart', WHERE WHAT IT READS IS OF BULK AT MOST 1048576: true; the input reads as it did. -/
def identApartUptoRow : OpenClaim := { program := "ytoaaekgpabnneaa", sum := "70d23399c1457fbbc300618c6c38586e2c5e646f9c98d4d958c61b48a1784916", func := "duet/duetlaw10.IdentApart", spec := "identApart", unfollowed := true, recurses := true, apart := false, narrowed := true }
def IdentApartUptoSaid : Prop := identApartUptoRow.holds Try.pinned (OpenSpec.upto identApartSpec)

/-- 'duetlaw10.IdentRanks', WHERE WHAT IT READS IS OF BULK AT MOST 1048576: true; the input reads as it did. -/
def identRanksUptoRow : OpenClaim := { program := "ytoaaekgpabnneaa", sum := "70d23399c1457fbbc300618c6c38586e2c5e646f9c98d4d958c61b48a1784916", func := "duet/duetlaw10.IdentRanks", spec := "identRanks", unfollowed := true, recurses := true, apart := false, narrowed := true }
def IdentRanksUptoSaid : Prop := identRanksUptoRow.holds Try.pinned (OpenSpec.upto identRanksSpec)

end Rows
end Go.Proofs.Ytoaaekgpabnneaa
