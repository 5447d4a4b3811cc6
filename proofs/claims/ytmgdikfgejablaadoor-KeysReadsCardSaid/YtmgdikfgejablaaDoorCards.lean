/-
  DERIVED. GIVEN WITH THE SEED: THE CARDS: each row of YtmgdikfgejablaaDoorRows.lean that lists a variable, with what it lists TIED to the program's text (the seventh form; the later family's looks); each row that meets fmt, with fmt's text TOLD by the authors' own Lean function (tested against real Go, not proved from fmt's source: count such statements apart). THE CARD IS WHAT COUNTS. Prove the row's statement (the work); the ties are given (YtmgdikfgejablaaDoorTie.lean); close each card by the builder's one call (the guide's Derived/Test/ToyasCard.lean, 'card_holds'). Laid BY PROGRAM, IN A SANDBOX (cutbox-door.mjs). By AI agents, Wed Nov 11 2026. No macro, syntax, notation, axiom, sorry.
-/
import Derived.Test.YtmgdikfgejablaaDoorRows
import GoSem.ClaimSeven
namespace Go.Proofs.YtmgdikfgejablaaDoor
namespace Rows

/-- THE TIED CARD OF 'duetlaw17.KeysReads'. -/
def keysReadsCard : Claim7 := { stood := { row := keysReadsRow, standIns := [], harness := (true, "956906f8f6ba54df9c53d41129eabacad206f2c5c8d3a9ccbdf63cc1f1171618"), looks := false }, kinds := [], alts := [], laidByText := true, laidKinds := [.data, .pinned], laidTests := true, laidLooks := .later }
def KeysReadsCardSaid : Prop := Claim7.holds Tryd.pinned (.plain (OpenSpec.ofChange keysReadsSpec)) keysReadsCard

/-- THE TIED CARD OF 'duetlaw17.KeysNil'. -/
def keysNilCard : Claim7 := { stood := { row := keysNilRow, standIns := [], harness := (true, "956906f8f6ba54df9c53d41129eabacad206f2c5c8d3a9ccbdf63cc1f1171618"), looks := false }, kinds := [], alts := [], laidByText := true, laidKinds := [.data, .pinned], laidTests := true, laidLooks := .later }
def KeysNilCardSaid : Prop := Claim7.holds Tryd.pinned (.plain (OpenSpec.ofChange keysNilSpec)) keysNilCard

/-- THE TIED CARD OF 'duetlaw17.KeysCut'. -/
def keysCutCard : Claim7 := { stood := { row := keysCutRow, standIns := [], harness := (true, "956906f8f6ba54df9c53d41129eabacad206f2c5c8d3a9ccbdf63cc1f1171618"), looks := false }, kinds := [], alts := [], laidByText := true, laidKinds := [.data, .pinned], laidTests := true, laidLooks := .later }
def KeysCutCardSaid : Prop := Claim7.holds Tryd.pinned (.plain (OpenSpec.ofChange keysCutSpec)) keysCutCard

/-- THE TIED CARD OF 'duetlaw17.KeysRunes'. -/
def keysRunesCard : Claim7 := { stood := { row := keysRunesRow, standIns := [], harness := (true, "956906f8f6ba54df9c53d41129eabacad206f2c5c8d3a9ccbdf63cc1f1171618"), looks := false }, kinds := [], alts := [], laidByText := true, laidKinds := [.data, .pinned], laidTests := true, laidLooks := .later }
def KeysRunesCardSaid : Prop := Claim7.holds Tryd.pinned (.plain (OpenSpec.ofChange keysRunesSpec)) keysRunesCard

/-- THE TIED CARD OF 'duetlaw17.KeysPlain'. -/
def keysPlainCard : Claim7 := { stood := { row := keysPlainRow, standIns := [], harness := (true, "956906f8f6ba54df9c53d41129eabacad206f2c5c8d3a9ccbdf63cc1f1171618"), looks := false }, kinds := [], alts := [], laidByText := true, laidKinds := [.data, .pinned], laidTests := true, laidLooks := .later }
def KeysPlainCardSaid : Prop := Claim7.holds Tryd.pinned (.plain (OpenSpec.ofChange keysPlainSpec)) keysPlainCard

/-- THE SECOND FORM's CARD OF 'duetlaw17.KeysReads'. -/
def keysReadsUptoCard : Claim7 := { stood := { row := keysReadsUptoRow, standIns := [], harness := (true, "956906f8f6ba54df9c53d41129eabacad206f2c5c8d3a9ccbdf63cc1f1171618"), looks := false }, kinds := [], alts := [], laidByText := true, laidKinds := [.data, .pinned], laidTests := true, laidLooks := .later }
def KeysReadsUptoCardSaid : Prop := Claim7.holds Tryd.pinned (.plain (OpenSpec.upto keysReadsSpec)) keysReadsUptoCard

/-- THE SECOND FORM's CARD OF 'duetlaw17.KeysNil'. -/
def keysNilUptoCard : Claim7 := { stood := { row := keysNilUptoRow, standIns := [], harness := (true, "956906f8f6ba54df9c53d41129eabacad206f2c5c8d3a9ccbdf63cc1f1171618"), looks := false }, kinds := [], alts := [], laidByText := true, laidKinds := [.data, .pinned], laidTests := true, laidLooks := .later }
def KeysNilUptoCardSaid : Prop := Claim7.holds Tryd.pinned (.plain (OpenSpec.upto keysNilSpec)) keysNilUptoCard

/-- THE SECOND FORM's CARD OF 'duetlaw17.KeysCut'. -/
def keysCutUptoCard : Claim7 := { stood := { row := keysCutUptoRow, standIns := [], harness := (true, "956906f8f6ba54df9c53d41129eabacad206f2c5c8d3a9ccbdf63cc1f1171618"), looks := false }, kinds := [], alts := [], laidByText := true, laidKinds := [.data, .pinned], laidTests := true, laidLooks := .later }
def KeysCutUptoCardSaid : Prop := Claim7.holds Tryd.pinned (.plain (OpenSpec.upto keysCutSpec)) keysCutUptoCard

/-- THE SECOND FORM's CARD OF 'duetlaw17.KeysRunes'. -/
def keysRunesUptoCard : Claim7 := { stood := { row := keysRunesUptoRow, standIns := [], harness := (true, "956906f8f6ba54df9c53d41129eabacad206f2c5c8d3a9ccbdf63cc1f1171618"), looks := false }, kinds := [], alts := [], laidByText := true, laidKinds := [.data, .pinned], laidTests := true, laidLooks := .later }
def KeysRunesUptoCardSaid : Prop := Claim7.holds Tryd.pinned (.plain (OpenSpec.upto keysRunesSpec)) keysRunesUptoCard

/-- THE SECOND FORM's CARD OF 'duetlaw17.KeysPlain'. -/
def keysPlainUptoCard : Claim7 := { stood := { row := keysPlainUptoRow, standIns := [], harness := (true, "956906f8f6ba54df9c53d41129eabacad206f2c5c8d3a9ccbdf63cc1f1171618"), looks := false }, kinds := [], alts := [], laidByText := true, laidKinds := [.data, .pinned], laidTests := true, laidLooks := .later }
def KeysPlainUptoCardSaid : Prop := Claim7.holds Tryd.pinned (.plain (OpenSpec.upto keysPlainSpec)) keysPlainUptoCard
end Rows
end Go.Proofs.YtmgdikfgejablaaDoor
