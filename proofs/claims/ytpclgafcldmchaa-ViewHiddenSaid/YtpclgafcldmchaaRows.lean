/-
  No cell of these rows narrows 'for every input' (looked for: loops, veiled, ifaces, maps, wideKeys, modest, calm, conditions, laid).
  DERIVED. THE GIVEN ROWS OF THIS SEAT. 5 by the template 'for every input the law returns true; each argument reads behind the call as it read before'; 0 by the template 'total and deterministic' (their statements: YtpclgafcldmchaaTotals.lean).
  GIVEN WITH THE SEED: the statements are not yours to turn. If you find one false, say at which input.
  Laid BY PROGRAM, IN A SANDBOX (cutbox-rows.mjs): the forced cells as the released guide's own fill.sh prints them over the translation aef712791de09e07… (all of the seat's roots in one cut). By AI agents, Wed Nov 11 2026. No macro, syntax, notation, axiom, sorry.
-/
import Derived.Test.YtpclgafcldmchaaChecked
import GoSem.Claim
import GoSem.ClaimJoined
import GoSem.ClaimMapViews
import Derived.JoinedTies
import Derived.KernelRfl
namespace Go.Proofs.Ytpclgafcldmchaa
/- THE CELL 'sum', in the pinned program and in every row, IS THE sha256 OF THE DUMP (.gsa) THAT YtpclgafcldmchaaProg.lean LOADS. Nothing in Lean hashes anything: it is a label: what it is worth is what the hold of that sum in a sandbox is worth. -/
noncomputable def Try.pinned : Pinned := { name := "ytpclgafcldmchaa", sum := "aef712791de09e0708682ed6f5342a3e964948d16682f1f1f2f7090ccc4e32cc", checked := Try.checked }
namespace Rows
def none {H : Type} : Left H := { results := [], args := [] }

/-- 'duetlaw12.ViewAnswers': WHATEVER THE INPUT: true; the input reads as it did. -/
def viewAnswersSpec : ChangeSpec := { name := "viewAnswers", fn := fun _ => fun
  | [d] => { results := [.lit (.bool true)], args := [d] }
  | _ => none }
def viewAnswersRow : OpenClaim := { program := "ytpclgafcldmchaa", sum := "aef712791de09e0708682ed6f5342a3e964948d16682f1f1f2f7090ccc4e32cc", func := "duet/duetlaw12.ViewAnswers", spec := "viewAnswers", unfollowed := true, recurses := true, apart := false }
def ViewAnswersSaid : Prop := viewAnswersRow.holds Try.pinned (OpenSpec.ofChange viewAnswersSpec)

/-- ITS FALSE NEIGHBOUR: 'it returns false'. Refute it at one input. -/
def viewAnswersWrong : ChangeSpec := { name := "viewAnswers", fn := fun _ => fun
  | [d] => { results := [.lit (.bool false)], args := [d] }
  | _ => none }
def ViewAnswersWrongFalsely : Prop := viewAnswersRow.holds Try.pinned (OpenSpec.ofChange viewAnswersWrong)

/-- 'duetlaw12.ViewBack': WHATEVER THE INPUT: true; the input reads as it did. -/
def viewBackSpec : ChangeSpec := { name := "viewBack", fn := fun _ => fun
  | [d1, d2] => { results := [.lit (.bool true)], args := [d1, d2] }
  | _ => none }
def viewBackRow : OpenClaim := { program := "ytpclgafcldmchaa", sum := "aef712791de09e0708682ed6f5342a3e964948d16682f1f1f2f7090ccc4e32cc", func := "duet/duetlaw12.ViewBack", spec := "viewBack", unfollowed := true, recurses := true, apart := false }
def ViewBackSaid : Prop := viewBackRow.holds Try.pinned (OpenSpec.ofChange viewBackSpec)

/-- ITS FALSE NEIGHBOUR: 'it returns false'. Refute it at one input. -/
def viewBackWrong : ChangeSpec := { name := "viewBack", fn := fun _ => fun
  | [d1, d2] => { results := [.lit (.bool false)], args := [d1, d2] }
  | _ => none }
def ViewBackWrongFalsely : Prop := viewBackRow.holds Try.pinned (OpenSpec.ofChange viewBackWrong)

/-- 'duetlaw12.ViewHalves': WHATEVER THE INPUT: true; the input reads as it did. -/
def viewHalvesSpec : ChangeSpec := { name := "viewHalves", fn := fun _ => fun
  | [d] => { results := [.lit (.bool true)], args := [d] }
  | _ => none }
def viewHalvesRow : OpenClaim := { program := "ytpclgafcldmchaa", sum := "aef712791de09e0708682ed6f5342a3e964948d16682f1f1f2f7090ccc4e32cc", func := "duet/duetlaw12.ViewHalves", spec := "viewHalves", unfollowed := true, recurses := true, apart := false }
def ViewHalvesSaid : Prop := viewHalvesRow.holds Try.pinned (OpenSpec.ofChange viewHalvesSpec)

/-- ITS FALSE NEIGHBOUR: 'it returns false'. Refute it at one input. -/
def viewHalvesWrong : ChangeSpec := { name := "viewHalves", fn := fun _ => fun
  | [d] => { results := [.lit (.bool false)], args := [d] }
  | _ => none }
def ViewHalvesWrongFalsely : Prop := viewHalvesRow.holds Try.pinned (OpenSpec.ofChange viewHalvesWrong)

/-- 'duetlaw12.ViewHidden': WHATEVER THE INPUT: true; the input reads as it did. -/
def viewHiddenSpec : ChangeSpec := { name := "viewHidden", fn := fun _ => fun
  | [d1, d2, d3] => { results := [.lit (.bool true)], args := [d1, d2, d3] }
  | _ => none }
def viewHiddenRow : OpenClaim := { program := "ytpclgafcldmchaa", sum := "aef712791de09e0708682ed6f5342a3e964948d16682f1f1f2f7090ccc4e32cc", func := "duet/duetlaw12.ViewHidden", spec := "viewHidden", unfollowed := true, recurses := true, apart := false }
def ViewHiddenSaid : Prop := viewHiddenRow.holds Try.pinned (OpenSpec.ofChange viewHiddenSpec)

/-- ITS FALSE NEIGHBOUR: 'it returns false'. Refute it at one input. -/
def viewHiddenWrong : ChangeSpec := { name := "viewHidden", fn := fun _ => fun
  | [d1, d2, d3] => { results := [.lit (.bool false)], args := [d1, d2, d3] }
  | _ => none }
def ViewHiddenWrongFalsely : Prop := viewHiddenRow.holds Try.pinned (OpenSpec.ofChange viewHiddenWrong)

/-- 'duetlaw12.ViewOne': WHATEVER THE INPUT: true; the input reads as it did. -/
def viewOneSpec : ChangeSpec := { name := "viewOne", fn := fun _ => fun
  | [d1, d2] => { results := [.lit (.bool true)], args := [d1, d2] }
  | _ => none }
def viewOneRow : OpenClaim := { program := "ytpclgafcldmchaa", sum := "aef712791de09e0708682ed6f5342a3e964948d16682f1f1f2f7090ccc4e32cc", func := "duet/duetlaw12.ViewOne", spec := "viewOne", unfollowed := true, recurses := true, apart := false }
def ViewOneSaid : Prop := viewOneRow.holds Try.pinned (OpenSpec.ofChange viewOneSpec)

/-- ITS FALSE NEIGHBOUR: 'it returns false'. Refute it at one input. -/
def viewOneWrong : ChangeSpec := { name := "viewOne", fn := fun _ => fun
  | [d1, d2] => { results := [.lit (.bool false)], args := [d1, d2] }
  | _ => none }
def ViewOneWrongFalsely : Prop := viewOneRow.holds Try.pinned (OpenSpec.ofChange viewOneWrong)

/- THE SECOND FORM. 'bulk': how many values and letters a reading holds, each counted each time it is reached (what is shared counts as often as it is met; a slice's spare places count too). A statement '..UptoSaid' is the law's where the arguments, and the package variables that the reading takes, are together of bulk at most 1048576: NARROWER than '..Said'. Prove '..Said' where nothing that the law and all that it calls make is longer than what came in: it says more and counts as full. Else prove '..UptoSaid'. A law counts once. -/
mutual
def uptoBulk {H : Type} : DataW H → Nat
  | .lit (.string bytes) => bytes.length + 1
  | .lit _ => 1
  | .nil => 1
  | .ptr d => uptoBulk d + 1
  | .slice elems spare => uptoBulkAll elems + uptoBulkAll spare + 1
  | .agg parts => uptoBulkAll parts + 1
  | .iface _ d => uptoBulk d + 1
  | .map entries => uptoBulkEntries entries + 1
  | .held _ => 1
def uptoBulkAll {H : Type} : List (DataW H) → Nat
  | [] => 0
  | d :: r => uptoBulk d + uptoBulkAll r
def uptoBulkEntries {H : Type} : List (Lit × DataW H) → Nat
  | [] => 0
  | x :: r => uptoBulkEntry x + uptoBulkEntries r
def uptoBulkEntry {H : Type} : Lit × DataW H → Nat
  | (.string bytes, d) => bytes.length + uptoBulk d + 1
  | (_, d) => uptoBulk d + 1
 end
def uptoSmall : (H : Type) → List (DataW H) → Bool := fun _ ds => decide (uptoBulkAll ds ≤ 1048576)
def OpenSpec.upto (s : _root_.Go.ChangeSpec) : _root_.Go.OpenSpec := { _root_.Go.OpenSpec.ofChange s with cond := some uptoSmall }

/-- 'duetlaw12.ViewAnswers', WHERE WHAT IT READS IS OF BULK AT MOST 1048576: true; the input reads as it did. -/
def viewAnswersUptoRow : OpenClaim := { program := "ytpclgafcldmchaa", sum := "aef712791de09e0708682ed6f5342a3e964948d16682f1f1f2f7090ccc4e32cc", func := "duet/duetlaw12.ViewAnswers", spec := "viewAnswers", unfollowed := true, recurses := true, apart := false, narrowed := true }
def ViewAnswersUptoSaid : Prop := viewAnswersUptoRow.holds Try.pinned (OpenSpec.upto viewAnswersSpec)

/-- 'duetlaw12.ViewBack', WHERE WHAT IT READS IS OF BULK AT MOST 1048576: true; the input reads as it did. -/
def viewBackUptoRow : OpenClaim := { program := "ytpclgafcldmchaa", sum := "aef712791de09e0708682ed6f5342a3e964948d16682f1f1f2f7090ccc4e32cc", func := "duet/duetlaw12.ViewBack", spec := "viewBack", unfollowed := true, recurses := true, apart := false, narrowed := true }
def ViewBackUptoSaid : Prop := viewBackUptoRow.holds Try.pinned (OpenSpec.upto viewBackSpec)

/-- 'duetlaw12.ViewHalves', WHERE WHAT IT READS IS OF BULK AT MOST 1048576: true; the input reads as it did. -/
def viewHalvesUptoRow : OpenClaim := { program := "ytpclgafcldmchaa", sum := "aef712791de09e0708682ed6f5342a3e964948d16682f1f1f2f7090ccc4e32cc", func := "duet/duetlaw12.ViewHalves", spec := "viewHalves", unfollowed := true, recurses := true, apart := false, narrowed := true }
def ViewHalvesUptoSaid : Prop := viewHalvesUptoRow.holds Try.pinned (OpenSpec.upto viewHalvesSpec)

/-- 'duetlaw12.ViewHidden', WHERE WHAT IT READS IS OF BULK AT MOST 1048576: true; the input reads as it did. -/
def viewHiddenUptoRow : OpenClaim := { program := "ytpclgafcldmchaa", sum := "aef712791de09e0708682ed6f5342a3e964948d16682f1f1f2f7090ccc4e32cc", func := "duet/duetlaw12.ViewHidden", spec := "viewHidden", unfollowed := true, recurses := true, apart := false, narrowed := true }
def ViewHiddenUptoSaid : Prop := viewHiddenUptoRow.holds Try.pinned (OpenSpec.upto viewHiddenSpec)

/-- 'duetlaw12.ViewOne', WHERE WHAT IT READS IS OF BULK AT MOST 1048576: true; the input reads as it did. -/
def viewOneUptoRow : OpenClaim := { program := "ytpclgafcldmchaa", sum := "aef712791de09e0708682ed6f5342a3e964948d16682f1f1f2f7090ccc4e32cc", func := "duet/duetlaw12.ViewOne", spec := "viewOne", unfollowed := true, recurses := true, apart := false, narrowed := true }
def ViewOneUptoSaid : Prop := viewOneUptoRow.holds Try.pinned (OpenSpec.upto viewOneSpec)

end Rows
end Go.Proofs.Ytpclgafcldmchaa
