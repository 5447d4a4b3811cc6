/-
  No cell of these rows narrows 'for every input' (looked for: loops, veiled, ifaces, maps, wideKeys, modest, calm, conditions, laid).
  DERIVED. THE GIVEN ROWS OF THIS SEAT. 5 by the template 'for every input the law returns true; each argument reads behind the call as it read before'; 0 by the template 'total and deterministic' (their statements: YtmbaagaeobcmaaaTotals.lean).
  GIVEN WITH THE SEED: the statements are not yours to turn. If you find one false, say at which input.
  Laid BY PROGRAM, IN A SANDBOX (cutbox-rows.mjs): the forced cells as the released guide's own fill.sh prints them over the translation 411f3c0ed5248a39… (all of the seat's roots in one cut). By AI agents, Wed Nov 11 2026. No macro, syntax, notation, axiom, sorry.
-/
import Derived.Test.YtmbaagaeobcmaaaChecked
import GoSem.Claim
import GoSem.ClaimJoined
import GoSem.ClaimMapViews
import Derived.JoinedTies
import Derived.KernelRfl
namespace Go.Proofs.Ytmbaagaeobcmaaa
/- THE CELL 'sum', in the pinned program and in every row, IS THE sha256 OF THE DUMP (.gsa) THAT YtmbaagaeobcmaaaProg.lean LOADS. Nothing in Lean hashes anything: it is a label: what it is worth is what the hold of that sum in a sandbox is worth. -/
noncomputable def Try.pinned : Pinned := { name := "ytmbaagaeobcmaaa", sum := "411f3c0ed5248a3973b9c11ce300fe6f16271dd4c7b1f76dbca618871f8ff379", checked := Try.checked }
namespace Rows
def none {H : Type} : Left H := { results := [], args := [] }

/-- 'duetlaw05.LinksScripts': WHATEVER THE INPUT: true; the input reads as it did. -/
def linksScriptsSpec : ChangeSpec := { name := "linksScripts", fn := fun _ => fun
  | [d1, d2, d3] => { results := [.lit (.bool true)], args := [d1, d2, d3] }
  | _ => none }
def linksScriptsRow : OpenClaim := { program := "ytmbaagaeobcmaaa", sum := "411f3c0ed5248a3973b9c11ce300fe6f16271dd4c7b1f76dbca618871f8ff379", func := "duet/duetlaw05.LinksScripts", spec := "linksScripts", plainKeys := false, apart := false }
def LinksScriptsSaid : Prop := linksScriptsRow.holds Try.pinned (OpenSpec.ofChange linksScriptsSpec)

/-- ITS FALSE NEIGHBOUR: 'it returns false'. Refute it at one input. -/
def linksScriptsWrong : ChangeSpec := { name := "linksScripts", fn := fun _ => fun
  | [d1, d2, d3] => { results := [.lit (.bool false)], args := [d1, d2, d3] }
  | _ => none }
def LinksScriptsWrongFalsely : Prop := linksScriptsRow.holds Try.pinned (OpenSpec.ofChange linksScriptsWrong)

/-- 'duetlaw05.LinksNil': WHATEVER THE INPUT: true; the input reads as it did. -/
def linksNilSpec : ChangeSpec := { name := "linksNil", fn := fun _ => fun
  | [d] => { results := [.lit (.bool true)], args := [d] }
  | _ => none }
def linksNilRow : OpenClaim := { program := "ytmbaagaeobcmaaa", sum := "411f3c0ed5248a3973b9c11ce300fe6f16271dd4c7b1f76dbca618871f8ff379", func := "duet/duetlaw05.LinksNil", spec := "linksNil", plainKeys := false, apart := false }
def LinksNilSaid : Prop := linksNilRow.holds Try.pinned (OpenSpec.ofChange linksNilSpec)

/-- ITS FALSE NEIGHBOUR: 'it returns false'. Refute it at one input. -/
def linksNilWrong : ChangeSpec := { name := "linksNil", fn := fun _ => fun
  | [d] => { results := [.lit (.bool false)], args := [d] }
  | _ => none }
def LinksNilWrongFalsely : Prop := linksNilRow.holds Try.pinned (OpenSpec.ofChange linksNilWrong)

/-- 'duetlaw05.LinksApart': WHATEVER THE INPUT: true; the input reads as it did. -/
def linksApartSpec : ChangeSpec := { name := "linksApart", fn := fun _ => fun
  | [d1, d2, d3] => { results := [.lit (.bool true)], args := [d1, d2, d3] }
  | _ => none }
def linksApartRow : OpenClaim := { program := "ytmbaagaeobcmaaa", sum := "411f3c0ed5248a3973b9c11ce300fe6f16271dd4c7b1f76dbca618871f8ff379", func := "duet/duetlaw05.LinksApart", spec := "linksApart", plainKeys := false, apart := false }
def LinksApartSaid : Prop := linksApartRow.holds Try.pinned (OpenSpec.ofChange linksApartSpec)

/-- ITS FALSE NEIGHBOUR: 'it returns false'. Refute it at one input. -/
def linksApartWrong : ChangeSpec := { name := "linksApart", fn := fun _ => fun
  | [d1, d2, d3] => { results := [.lit (.bool false)], args := [d1, d2, d3] }
  | _ => none }
def LinksApartWrongFalsely : Prop := linksApartRow.holds Try.pinned (OpenSpec.ofChange linksApartWrong)

/-- 'duetlaw05.LinksRoom': WHATEVER THE INPUT: true; the input reads as it did. -/
def linksRoomSpec : ChangeSpec := { name := "linksRoom", fn := fun _ => fun
  | [d1, d2] => { results := [.lit (.bool true)], args := [d1, d2] }
  | _ => none }
def linksRoomRow : OpenClaim := { program := "ytmbaagaeobcmaaa", sum := "411f3c0ed5248a3973b9c11ce300fe6f16271dd4c7b1f76dbca618871f8ff379", func := "duet/duetlaw05.LinksRoom", spec := "linksRoom", plainKeys := false, apart := false }
def LinksRoomSaid : Prop := linksRoomRow.holds Try.pinned (OpenSpec.ofChange linksRoomSpec)

/-- ITS FALSE NEIGHBOUR: 'it returns false'. Refute it at one input. -/
def linksRoomWrong : ChangeSpec := { name := "linksRoom", fn := fun _ => fun
  | [d1, d2] => { results := [.lit (.bool false)], args := [d1, d2] }
  | _ => none }
def LinksRoomWrongFalsely : Prop := linksRoomRow.holds Try.pinned (OpenSpec.ofChange linksRoomWrong)

/-- 'duetlaw05.LinksTurned': WHATEVER THE INPUT: true; the input reads as it did. -/
def linksTurnedSpec : ChangeSpec := { name := "linksTurned", fn := fun _ => fun
  | [d1, d2, d3] => { results := [.lit (.bool true)], args := [d1, d2, d3] }
  | _ => none }
def linksTurnedRow : OpenClaim := { program := "ytmbaagaeobcmaaa", sum := "411f3c0ed5248a3973b9c11ce300fe6f16271dd4c7b1f76dbca618871f8ff379", func := "duet/duetlaw05.LinksTurned", spec := "linksTurned", plainKeys := false, apart := false }
def LinksTurnedSaid : Prop := linksTurnedRow.holds Try.pinned (OpenSpec.ofChange linksTurnedSpec)

/-- ITS FALSE NEIGHBOUR: 'it returns false'. Refute it at one input. -/
def linksTurnedWrong : ChangeSpec := { name := "linksTurned", fn := fun _ => fun
  | [d1, d2, d3] => { results := [.lit (.bool false)], args := [d1, d2, d3] }
  | _ => none }
def LinksTurnedWrongFalsely : Prop := linksTurnedRow.holds Try.pinned (OpenSpec.ofChange linksTurnedWrong)

/- THE SECOND FORM. 'bulk': how many values and letters a reading holds, each counted each time it is reached (what is shared counts as often as it is met; a slice's spare places count too). A statement '..UptoSaid' is the law's where the arguments, and the package variables that the reading takes, are together of bulk at most 1048576: NARROWER than '..Said'. Prove '..Said' where nothing that the law and all that it calls make is longer than what came in: it says more and counts as full. Else prove '..UptoSaid'. A law counts once. -/
mutual
def uptoBulk {H : Type} : DataW H → Nat
  | .lit (.string bytes) => bytes.length + 1
  | .lit _ => 1
  | .nil => 1
  | .ptr d => uptoBulk d + 1
  | .slice elems spare => uptoBulkAll elems + uptoBulkAll spare + 1
  | .agg parts => uptoBulkAll parts + 1
  | .iface _ d => uptoBulk d + 1
  | .map entries => uptoBulkEntries entries + 1
  | .held _ => 1
def uptoBulkAll {H : Type} : List (DataW H) → Nat
  | [] => 0
  | d :: r => uptoBulk d + uptoBulkAll r
def uptoBulkEntries {H : Type} : List (Lit × DataW H) → Nat
  | [] => 0
  | x :: r => uptoBulkEntry x + uptoBulkEntries r
def uptoBulkEntry {H : Type} : Lit × DataW H → Nat
  | (.string bytes, d) => bytes.length + uptoBulk d + 1
  | (_, d) => uptoBulk d + 1
 end
def uptoSmall : (H : Type) → List (DataW H) → Bool := fun _ ds => decide (uptoBulkAll ds ≤ 1048576)
def OpenSpec.upto (s : _root_.Go.ChangeSpec) : _root_.Go.OpenSpec := { _root_.Go.OpenSpec.ofChange s with cond := some uptoSmall }

/-- 'duetlaw05.LinksScripts', WHERE WHAT IT READS IS OF BULK AT MOST 1048576: true; the input reads as it did. -/
def linksScriptsUptoRow : OpenClaim := { program := "ytmbaagaeobcmaaa", sum := "411f3c0ed5248a3973b9c11ce300fe6f16271dd4c7b1f76dbca618871f8ff379", func := "duet/duetlaw05.LinksScripts", spec := "linksScripts", plainKeys := false, apart := false, narrowed := true }
def LinksScriptsUptoSaid : Prop := linksScriptsUptoRow.holds Try.pinned (OpenSpec.upto linksScriptsSpec)

/-- 'duetlaw05.LinksNil', WHERE WHAT IT READS IS OF BULK AT MOST 1048576: true; the input reads as it did. -/
def linksNilUptoRow : OpenClaim := { program := "ytmbaagaeobcmaaa", sum := "411f3c0ed5248a3973b9c11ce300fe6f16271dd4c7b1f76dbca618871f8ff379", func := "duet/duetlaw05.LinksNil", spec := "linksNil", plainKeys := false, apart := false, narrowed := true }
def LinksNilUptoSaid : Prop := linksNilUptoRow.holds Try.pinned (OpenSpec.upto linksNilSpec)

/-- 'duetlaw05.LinksApart', WHERE WHAT IT READS IS OF BULK AT MOST 1048576: true; the input reads as it did. -/
def linksApartUptoRow : OpenClaim := { program := "ytmbaagaeobcmaaa", sum := "411f3c0ed5248a3973b9c11ce300fe6f16271dd4c7b1f76dbca618871f8ff379", func := "duet/duetlaw05.LinksApart", spec := "linksApart", plainKeys := false, apart := false, narrowed := true }
def LinksApartUptoSaid : Prop := linksApartUptoRow.holds Try.pinned (OpenSpec.upto linksApartSpec)

/-- 'duetlaw05.LinksRoom', WHERE WHAT IT READS IS OF BULK AT MOST 1048576: true; the input reads as it did. -/
def linksRoomUptoRow : OpenClaim := { program := "ytmbaagaeobcmaaa", sum := "411f3c0ed5248a3973b9c11ce300fe6f16271dd4c7b1f76dbca618871f8ff379", func := "duet/duetlaw05.LinksRoom", spec := "linksRoom", plainKeys := false, apart := false, narrowed := true }
def LinksRoomUptoSaid : Prop := linksRoomUptoRow.holds Try.pinned (OpenSpec.upto linksRoomSpec)

/-- 'duetlaw05.LinksTurned', WHERE WHAT IT READS IS OF BULK AT MOST 1048576: true; the input reads as it did. -/
def linksTurnedUptoRow : OpenClaim := { program := "ytmbaagaeobcmaaa", sum := "411f3c0ed5248a3973b9c11ce300fe6f16271dd4c7b1f76dbca618871f8ff379", func := "duet/duetlaw05.LinksTurned", spec := "linksTurned", plainKeys := false, apart := false, narrowed := true }
def LinksTurnedUptoSaid : Prop := linksTurnedUptoRow.holds Try.pinned (OpenSpec.upto linksTurnedSpec)

end Rows
end Go.Proofs.Ytmbaagaeobcmaaa
