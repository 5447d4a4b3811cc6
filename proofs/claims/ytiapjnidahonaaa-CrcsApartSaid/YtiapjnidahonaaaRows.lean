/-
  No cell of these rows narrows 'for every input' (looked for: loops, veiled, ifaces, maps, wideKeys, modest, calm, conditions, laid).
  DERIVED. THE GIVEN ROWS OF THIS SEAT. 6 by the template 'for every input the law returns true; each argument reads behind the call as it read before'; 0 by the template 'total and deterministic' (their statements: YtiapjnidahonaaaTotals.lean).
  GIVEN WITH THE SEED: the statements are not yours to turn. If you find one false, say at which input.
  Laid BY PROGRAM, IN A SANDBOX (cutbox-rows.mjs): the forced cells as the released guide's own fill.sh prints them over the translation 9ac682d426666a48… (all of the seat's roots in one cut). By AI agents, Wed Nov 11 2026. No macro, syntax, notation, axiom, sorry.
-/
import Derived.Test.YtiapjnidahonaaaChecked
import GoSem.Claim
import GoSem.ClaimJoined
import GoSem.ClaimMapViews
import Derived.JoinedTies
import Derived.KernelRfl
namespace Go.Proofs.Ytiapjnidahonaaa
/- THE CELL 'sum', in the pinned program and in every row, IS THE sha256 OF THE DUMP (.gsa) THAT YtiapjnidahonaaaProg.lean LOADS. Nothing in Lean hashes anything: it is a label: what it is worth is what the hold of that sum in a sandbox is worth. -/
noncomputable def Try.pinned : Pinned := { name := "ytiapjnidahonaaa", sum := "9ac682d426666a48c5161a04146481b1f2521bf89f790eff797c9ae8f4ff773b", checked := Try.checked }
namespace Rows
def none {H : Type} : Left H := { results := [], args := [] }

/-- 'duetlaw02.CrcsSums': WHATEVER THE INPUT: true; the input reads as it did. -/
def crcsSumsSpec : ChangeSpec := { name := "crcsSums", fn := fun _ => fun
  | [d1, d2] => { results := [.lit (.bool true)], args := [d1, d2] }
  | _ => none }
def crcsSumsRow : OpenClaim := { program := "ytiapjnidahonaaa", sum := "9ac682d426666a48c5161a04146481b1f2521bf89f790eff797c9ae8f4ff773b", func := "duet/duetlaw02.CrcsSums", spec := "crcsSums", apart := false }
def CrcsSumsSaid : Prop := crcsSumsRow.holds Try.pinned (OpenSpec.ofChange crcsSumsSpec)

/-- ITS FALSE NEIGHBOUR: 'it returns false'. Refute it at one input. -/
def crcsSumsWrong : ChangeSpec := { name := "crcsSums", fn := fun _ => fun
  | [d1, d2] => { results := [.lit (.bool false)], args := [d1, d2] }
  | _ => none }
def CrcsSumsWrongFalsely : Prop := crcsSumsRow.holds Try.pinned (OpenSpec.ofChange crcsSumsWrong)

/-- 'duetlaw02.CrcsOpens': WHATEVER THE INPUT: true; the input reads as it did. -/
def crcsOpensSpec : ChangeSpec := { name := "crcsOpens", fn := fun _ => fun
  | [d] => { results := [.lit (.bool true)], args := [d] }
  | _ => none }
def crcsOpensRow : OpenClaim := { program := "ytiapjnidahonaaa", sum := "9ac682d426666a48c5161a04146481b1f2521bf89f790eff797c9ae8f4ff773b", func := "duet/duetlaw02.CrcsOpens", spec := "crcsOpens", apart := false }
def CrcsOpensSaid : Prop := crcsOpensRow.holds Try.pinned (OpenSpec.ofChange crcsOpensSpec)

/-- ITS FALSE NEIGHBOUR: 'it returns false'. Refute it at one input. -/
def crcsOpensWrong : ChangeSpec := { name := "crcsOpens", fn := fun _ => fun
  | [d] => { results := [.lit (.bool false)], args := [d] }
  | _ => none }
def CrcsOpensWrongFalsely : Prop := crcsOpensRow.holds Try.pinned (OpenSpec.ofChange crcsOpensWrong)

/-- 'duetlaw02.CrcsBack': WHATEVER THE INPUT: true; the input reads as it did. -/
def crcsBackSpec : ChangeSpec := { name := "crcsBack", fn := fun _ => fun
  | [d] => { results := [.lit (.bool true)], args := [d] }
  | _ => none }
def crcsBackRow : OpenClaim := { program := "ytiapjnidahonaaa", sum := "9ac682d426666a48c5161a04146481b1f2521bf89f790eff797c9ae8f4ff773b", func := "duet/duetlaw02.CrcsBack", spec := "crcsBack", apart := false }
def CrcsBackSaid : Prop := crcsBackRow.holds Try.pinned (OpenSpec.ofChange crcsBackSpec)

/-- ITS FALSE NEIGHBOUR: 'it returns false'. Refute it at one input. -/
def crcsBackWrong : ChangeSpec := { name := "crcsBack", fn := fun _ => fun
  | [d] => { results := [.lit (.bool false)], args := [d] }
  | _ => none }
def CrcsBackWrongFalsely : Prop := crcsBackRow.holds Try.pinned (OpenSpec.ofChange crcsBackWrong)

/-- 'duetlaw02.CrcsTurned': WHATEVER THE INPUT: true; the input reads as it did. -/
def crcsTurnedSpec : ChangeSpec := { name := "crcsTurned", fn := fun _ => fun
  | [d1, d2, d3] => { results := [.lit (.bool true)], args := [d1, d2, d3] }
  | _ => none }
def crcsTurnedRow : OpenClaim := { program := "ytiapjnidahonaaa", sum := "9ac682d426666a48c5161a04146481b1f2521bf89f790eff797c9ae8f4ff773b", func := "duet/duetlaw02.CrcsTurned", spec := "crcsTurned", apart := false }
def CrcsTurnedSaid : Prop := crcsTurnedRow.holds Try.pinned (OpenSpec.ofChange crcsTurnedSpec)

/-- ITS FALSE NEIGHBOUR: 'it returns false'. Refute it at one input. -/
def crcsTurnedWrong : ChangeSpec := { name := "crcsTurned", fn := fun _ => fun
  | [d1, d2, d3] => { results := [.lit (.bool false)], args := [d1, d2, d3] }
  | _ => none }
def CrcsTurnedWrongFalsely : Prop := crcsTurnedRow.holds Try.pinned (OpenSpec.ofChange crcsTurnedWrong)

/-- 'duetlaw02.CrcsJoined': WHATEVER THE INPUT: true; the input reads as it did. -/
def crcsJoinedSpec : ChangeSpec := { name := "crcsJoined", fn := fun _ => fun
  | [d1, d2] => { results := [.lit (.bool true)], args := [d1, d2] }
  | _ => none }
def crcsJoinedRow : OpenClaim := { program := "ytiapjnidahonaaa", sum := "9ac682d426666a48c5161a04146481b1f2521bf89f790eff797c9ae8f4ff773b", func := "duet/duetlaw02.CrcsJoined", spec := "crcsJoined", apart := false }
def CrcsJoinedSaid : Prop := crcsJoinedRow.holds Try.pinned (OpenSpec.ofChange crcsJoinedSpec)

/-- ITS FALSE NEIGHBOUR: 'it returns false'. Refute it at one input. -/
def crcsJoinedWrong : ChangeSpec := { name := "crcsJoined", fn := fun _ => fun
  | [d1, d2] => { results := [.lit (.bool false)], args := [d1, d2] }
  | _ => none }
def CrcsJoinedWrongFalsely : Prop := crcsJoinedRow.holds Try.pinned (OpenSpec.ofChange crcsJoinedWrong)

/-- 'duetlaw02.CrcsApart': WHATEVER THE INPUT: true; the input reads as it did. -/
def crcsApartSpec : ChangeSpec := { name := "crcsApart", fn := fun _ => fun
  | [d1, d2, d3] => { results := [.lit (.bool true)], args := [d1, d2, d3] }
  | _ => none }
def crcsApartRow : OpenClaim := { program := "ytiapjnidahonaaa", sum := "9ac682d426666a48c5161a04146481b1f2521bf89f790eff797c9ae8f4ff773b", func := "duet/duetlaw02.CrcsApart", spec := "crcsApart", apart := false }
def CrcsApartSaid : Prop := crcsApartRow.holds Try.pinned (OpenSpec.ofChange crcsApartSpec)

/-- ITS FALSE NEIGHBOUR: 'it returns false'. Refute it at one input. -/
def crcsApartWrong : ChangeSpec := { name := "crcsApart", fn := fun _ => fun
  | [d1, d2, d3] => { results := [.lit (.bool false)], args := [d1, d2, d3] }
  | _ => none }
def CrcsApartWrongFalsely : Prop := crcsApartRow.holds Try.pinned (OpenSpec.ofChange crcsApartWrong)

/- THE SECOND FORM. 'bulk': how many values and letters a reading holds, each counted each time it is reached (what is shared counts as often as it is met; a slice's spare places count too). A statement '..UptoSaid' is the law's where the arguments, and the package variables that the reading takes, are together of bulk at most 1048576: NARROWER than '..Said'. Prove '..Said' where nothing that the law and all that it calls make is longer than what came in: it says more and counts as full. Else prove '..UptoSaid'. A law counts once. -/
mutual
def uptoBulk {H : Type} : DataW H → Nat
  | .lit (.string bytes) => bytes.length + 1
  | .lit _ => 1
  | .nil => 1
  | .ptr d => uptoBulk d + 1
  | .slice elems spare => uptoBulkAll elems + uptoBulkAll spare + 1
  | .agg parts => uptoBulkAll parts + 1
  | .iface _ d => uptoBulk d + 1
  | .map entries => uptoBulkEntries entries + 1
  | .held _ => 1
def uptoBulkAll {H : Type} : List (DataW H) → Nat
  | [] => 0
  | d :: r => uptoBulk d + uptoBulkAll r
def uptoBulkEntries {H : Type} : List (Lit × DataW H) → Nat
  | [] => 0
  | x :: r => uptoBulkEntry x + uptoBulkEntries r
def uptoBulkEntry {H : Type} : Lit × DataW H → Nat
  | (.string bytes, d) => bytes.length + uptoBulk d + 1
  | (_, d) => uptoBulk d + 1
 end
def uptoSmall : (H : Type) → List (DataW H) → Bool := fun _ ds => decide (uptoBulkAll ds ≤ 1048576)
def OpenSpec.upto (s : _root_.Go.ChangeSpec) : _root_.Go.OpenSpec := { _root_.Go.OpenSpec.ofChange s with cond := some uptoSmall }

/-- 'duetlaw02.CrcsSums', WHERE WHAT IT READS IS OF BULK AT MOST 1048576: true; the input reads as it did. -/
def crcsSumsUptoRow : OpenClaim := { program := "ytiapjnidahonaaa", sum := "9ac682d426666a48c5161a04146481b1f2521bf89f790eff797c9ae8f4ff773b", func := "duet/duetlaw02.CrcsSums", spec := "crcsSums", apart := false, narrowed := true }
def CrcsSumsUptoSaid : Prop := crcsSumsUptoRow.holds Try.pinned (OpenSpec.upto crcsSumsSpec)

/-- 'duetlaw02.CrcsOpens', WHERE WHAT IT READS IS OF BULK AT MOST 1048576: true; the input reads as it did. -/
def crcsOpensUptoRow : OpenClaim := { program := "ytiapjnidahonaaa", sum := "9ac682d426666a48c5161a04146481b1f2521bf89f790eff797c9ae8f4ff773b", func := "duet/duetlaw02.CrcsOpens", spec := "crcsOpens", apart := false, narrowed := true }
def CrcsOpensUptoSaid : Prop := crcsOpensUptoRow.holds Try.pinned (OpenSpec.upto crcsOpensSpec)

/-- 'duetlaw02.CrcsBack', WHERE WHAT IT READS IS OF BULK AT MOST 1048576: true; the input reads as it did. -/
def crcsBackUptoRow : OpenClaim := { program := "ytiapjnidahonaaa", sum := "9ac682d426666a48c5161a04146481b1f2521bf89f790eff797c9ae8f4ff773b", func := "duet/duetlaw02.CrcsBack", spec := "crcsBack", apart := false, narrowed := true }
def CrcsBackUptoSaid : Prop := crcsBackUptoRow.holds Try.pinned (OpenSpec.upto crcsBackSpec)

/-- 'duetlaw02.CrcsTurned', WHERE WHAT IT READS IS OF BULK AT MOST 1048576: true; the input reads as it did. -/
def crcsTurnedUptoRow : OpenClaim := { program := "ytiapjnidahonaaa", sum := "9ac682d426666a48c5161a04146481b1f2521bf89f790eff797c9ae8f4ff773b", func := "duet/duetlaw02.CrcsTurned", spec := "crcsTurned", apart := false, narrowed := true }
def CrcsTurnedUptoSaid : Prop := crcsTurnedUptoRow.holds Try.pinned (OpenSpec.upto crcsTurnedSpec)

/-- 'duetlaw02.CrcsJoined', WHERE WHAT IT READS IS OF BULK AT MOST 1048576: true; the input reads as it did. -/
def crcsJoinedUptoRow : OpenClaim := { program := "ytiapjnidahonaaa", sum := "9ac682d426666a48c5161a04146481b1f2521bf89f790eff797c9ae8f4ff773b", func := "duet/duetlaw02.CrcsJoined", spec := "crcsJoined", apart := false, narrowed := true }
def CrcsJoinedUptoSaid : Prop := crcsJoinedUptoRow.holds Try.pinned (OpenSpec.upto crcsJoinedSpec)

/-- 'duetlaw02.CrcsApart', WHERE WHAT IT READS IS OF BULK AT MOST 1048576: true; the input reads as it did. -/
def crcsApartUptoRow : OpenClaim := { program := "ytiapjnidahonaaa", sum := "9ac682d426666a48c5161a04146481b1f2521bf89f790eff797c9ae8f4ff773b", func := "duet/duetlaw02.CrcsApart", spec := "crcsApart", apart := false, narrowed := true }
def CrcsApartUptoSaid : Prop := crcsApartUptoRow.holds Try.pinned (OpenSpec.upto crcsApartSpec)

end Rows
end Go.Proofs.Ytiapjnidahonaaa
