/-
  DERIVED. GIVEN WITH THE SEED: THE CARDS: each row of YtoidlaonolkgkaaDoorRows.lean that lists a variable, with what it lists TIED to the program's text (the seventh form; the later family's looks); each row that meets fmt, with fmt's text TOLD by the authors' own Lean function (tested against real Go, not proved from fmt's source: count such statements apart). THE CARD IS WHAT COUNTS. Prove the row's statement (the work); the ties are given (YtoidlaonolkgkaaDoorTie.lean); close each card by the builder's one call (the guide's Derived/Test/ToyasCard.lean, 'card_holds'). Laid BY PROGRAM, IN A SANDBOX (cutbox-door.mjs). By AI agents, Wed Nov 11 2026. No macro, syntax, notation, axiom, sorry.
-/
import Derived.Test.YtoidlaonolkgkaaDoorRows
import GoSem.ClaimSeven
namespace Go.Proofs.YtoidlaonolkgkaaDoor
namespace Rows

/-- THE TIED CARD OF 'duetlaw21.LayoutLays'. -/
def layoutLaysCard : Claim7 := { stood := { row := layoutLaysRow, standIns := [], harness := (true, "f7a6280d01d98a4ebc51028e7b953dd97622f07e819627c31db684b4ed08b328"), looks := false }, kinds := [], alts := [], laidByText := true, laidKinds := [.data, .widerDeep, .widerDeep, .pinned], laidTests := true, laidLooks := .later }
def LayoutLaysCardSaid : Prop := Claim7.holds Tryd.pinned (.plain (OpenSpec.ofChange layoutLaysSpec)) layoutLaysCard

/-- THE TIED CARD OF 'duetlaw21.LayoutChecks'. -/
def layoutChecksCard : Claim7 := { stood := { row := layoutChecksRow, standIns := [], harness := (true, "f7a6280d01d98a4ebc51028e7b953dd97622f07e819627c31db684b4ed08b328"), looks := false }, kinds := [], alts := [], laidByText := true, laidKinds := [.data, .widerDeep, .widerDeep, .pinned], laidTests := true, laidLooks := .later }
def LayoutChecksCardSaid : Prop := Claim7.holds Tryd.pinned (.plain (OpenSpec.ofChange layoutChecksSpec)) layoutChecksCard

/-- THE TIED CARD OF 'duetlaw21.LayoutRight'. -/
def layoutRightCard : Claim7 := { stood := { row := layoutRightRow, standIns := [], harness := (true, "f7a6280d01d98a4ebc51028e7b953dd97622f07e819627c31db684b4ed08b328"), looks := false }, kinds := [], alts := [], laidByText := true, laidKinds := [.data, .widerDeep, .widerDeep, .pinned], laidTests := true, laidLooks := .later }
def LayoutRightCardSaid : Prop := Claim7.holds Tryd.pinned (.plain (OpenSpec.ofChange layoutRightSpec)) layoutRightCard

/-- THE TIED CARD OF 'duetlaw21.LayoutPlain'. -/
def layoutPlainCard : Claim7 := { stood := { row := layoutPlainRow, standIns := [], harness := (true, "f7a6280d01d98a4ebc51028e7b953dd97622f07e819627c31db684b4ed08b328"), looks := false }, kinds := [], alts := [], laidByText := true, laidKinds := [.data, .widerDeep, .widerDeep, .pinned], laidTests := true, laidLooks := .later }
def LayoutPlainCardSaid : Prop := Claim7.holds Tryd.pinned (.plain (OpenSpec.ofChange layoutPlainSpec)) layoutPlainCard

/-- THE TIED CARD OF 'duetlaw21.LayoutSays'. -/
def layoutSaysCard : Claim7 := { stood := { row := layoutSaysRow, standIns := [], harness := (true, "f7a6280d01d98a4ebc51028e7b953dd97622f07e819627c31db684b4ed08b328"), looks := false }, kinds := [], alts := [], laidByText := true, laidKinds := [.data, .widerDeep, .widerDeep, .pinned], laidTests := true, laidLooks := .later }
def LayoutSaysCardSaid : Prop := Claim7.holds Tryd.pinned (.plain (OpenSpec.ofChange layoutSaysSpec)) layoutSaysCard

/-- THE TIED CARD OF 'duetlaw21.LayoutCarets'. -/
def layoutCaretsCard : Claim7 := { stood := { row := layoutCaretsRow, standIns := [], harness := (true, "f7a6280d01d98a4ebc51028e7b953dd97622f07e819627c31db684b4ed08b328"), looks := false }, kinds := [], alts := [], laidByText := true, laidKinds := [.data, .widerDeep, .widerDeep, .pinned], laidTests := true, laidLooks := .later }
def LayoutCaretsCardSaid : Prop := Claim7.holds Tryd.pinned (.plain (OpenSpec.ofChange layoutCaretsSpec)) layoutCaretsCard

/-- THE SECOND FORM's CARD OF 'duetlaw21.LayoutLays'. -/
def layoutLaysUptoCard : Claim7 := { stood := { row := layoutLaysUptoRow, standIns := [], harness := (true, "f7a6280d01d98a4ebc51028e7b953dd97622f07e819627c31db684b4ed08b328"), looks := false }, kinds := [], alts := [], laidByText := true, laidKinds := [.data, .widerDeep, .widerDeep, .pinned], laidTests := true, laidLooks := .later }
def LayoutLaysUptoCardSaid : Prop := Claim7.holds Tryd.pinned (.plain (OpenSpec.upto layoutLaysSpec)) layoutLaysUptoCard

/-- THE SECOND FORM's CARD OF 'duetlaw21.LayoutChecks'. -/
def layoutChecksUptoCard : Claim7 := { stood := { row := layoutChecksUptoRow, standIns := [], harness := (true, "f7a6280d01d98a4ebc51028e7b953dd97622f07e819627c31db684b4ed08b328"), looks := false }, kinds := [], alts := [], laidByText := true, laidKinds := [.data, .widerDeep, .widerDeep, .pinned], laidTests := true, laidLooks := .later }
def LayoutChecksUptoCardSaid : Prop := Claim7.holds Tryd.pinned (.plain (OpenSpec.upto layoutChecksSpec)) layoutChecksUptoCard

/-- THE SECOND FORM's CARD OF 'duetlaw21.LayoutRight'. -/
def layoutRightUptoCard : Claim7 := { stood := { row := layoutRightUptoRow, standIns := [], harness := (true, "f7a6280d01d98a4ebc51028e7b953dd97622f07e819627c31db684b4ed08b328"), looks := false }, kinds := [], alts := [], laidByText := true, laidKinds := [.data, .widerDeep, .widerDeep, .pinned], laidTests := true, laidLooks := .later }
def LayoutRightUptoCardSaid : Prop := Claim7.holds Tryd.pinned (.plain (OpenSpec.upto layoutRightSpec)) layoutRightUptoCard

/-- THE SECOND FORM's CARD OF 'duetlaw21.LayoutPlain'. -/
def layoutPlainUptoCard : Claim7 := { stood := { row := layoutPlainUptoRow, standIns := [], harness := (true, "f7a6280d01d98a4ebc51028e7b953dd97622f07e819627c31db684b4ed08b328"), looks := false }, kinds := [], alts := [], laidByText := true, laidKinds := [.data, .widerDeep, .widerDeep, .pinned], laidTests := true, laidLooks := .later }
def LayoutPlainUptoCardSaid : Prop := Claim7.holds Tryd.pinned (.plain (OpenSpec.upto layoutPlainSpec)) layoutPlainUptoCard

/-- THE SECOND FORM's CARD OF 'duetlaw21.LayoutSays'. -/
def layoutSaysUptoCard : Claim7 := { stood := { row := layoutSaysUptoRow, standIns := [], harness := (true, "f7a6280d01d98a4ebc51028e7b953dd97622f07e819627c31db684b4ed08b328"), looks := false }, kinds := [], alts := [], laidByText := true, laidKinds := [.data, .widerDeep, .widerDeep, .pinned], laidTests := true, laidLooks := .later }
def LayoutSaysUptoCardSaid : Prop := Claim7.holds Tryd.pinned (.plain (OpenSpec.upto layoutSaysSpec)) layoutSaysUptoCard

/-- THE SECOND FORM's CARD OF 'duetlaw21.LayoutCarets'. -/
def layoutCaretsUptoCard : Claim7 := { stood := { row := layoutCaretsUptoRow, standIns := [], harness := (true, "f7a6280d01d98a4ebc51028e7b953dd97622f07e819627c31db684b4ed08b328"), looks := false }, kinds := [], alts := [], laidByText := true, laidKinds := [.data, .widerDeep, .widerDeep, .pinned], laidTests := true, laidLooks := .later }
def LayoutCaretsUptoCardSaid : Prop := Claim7.holds Tryd.pinned (.plain (OpenSpec.upto layoutCaretsSpec)) layoutCaretsUptoCard
end Rows
end Go.Proofs.YtoidlaonolkgkaaDoor
