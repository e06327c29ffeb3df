/-
  DERIVED. GIVEN WITH THE SEED: THE CARDS: each row of YtnhdmnhfllecgaaGreatDoorRows.lean that lists a variable, with what it lists TIED to the program's text (the seventh form; the later family's looks); each row that meets fmt, with fmt's text TOLD by the authors' own Lean function (tested against real Go, not proved from fmt's source: count such statements apart). THE CARD IS WHAT COUNTS. Prove the row's statement (the work); the ties are given (YtnhdmnhfllecgaaGreatDoorTie.lean); close each card by the builder's one call (the guide's Derived/Test/ToyasCard.lean, 'card_holds'). Laid BY PROGRAM, IN A SANDBOX (cutbox-door.mjs). By AI agents, Wed Nov 11 2026. No macro, syntax, notation, axiom, sorry.
-/
import Derived.Test.YtnhdmnhfllecgaaGreatDoorRows
import GoSem.ClaimSeven
namespace Go.Proofs.YtnhdmnhfllecgaaGreatDoor
namespace Rows

/-- THE TIED CARD OF 'civiltimelaw55.LocaleTexts'. -/
def localeTextsCard : Claim7 := { stood := { row := localeTextsRow, standIns := [], harness := (true, "07f7f22e7b554293b475c85737c3d8e97f758be366c7323a9c1bcbc8aa4761b6"), looks := true }, kinds := [], alts := [], laidByText := true, laidKinds := [.data, .data, .data, .data, .sentinel, .sentinel, .pinned], laidTests := true, laidLooks := .later }
def LocaleTextsCardSaid : Prop := Claim7.holds Tryz.pinned (.plain (OpenSpec.ofChange localeTextsSpec)) localeTextsCard

/-- THE TIED CARD OF 'civiltimelaw55.LocaleBack'. -/
def localeBackCard : Claim7 := { stood := { row := localeBackRow, standIns := [], harness := (true, "07f7f22e7b554293b475c85737c3d8e97f758be366c7323a9c1bcbc8aa4761b6"), looks := true }, kinds := [], alts := [], laidByText := true, laidKinds := [.data, .data, .data, .data, .sentinel, .sentinel, .pinned], laidTests := true, laidLooks := .later }
def LocaleBackCardSaid : Prop := Claim7.holds Tryz.pinned (.plain (OpenSpec.ofChange localeBackSpec)) localeBackCard

/-- THE SECOND FORM's CARD OF 'civiltimelaw55.LocaleTexts'. -/
def localeTextsUptoCard : Claim7 := { stood := { row := localeTextsUptoRow, standIns := [], harness := (true, "07f7f22e7b554293b475c85737c3d8e97f758be366c7323a9c1bcbc8aa4761b6"), looks := true }, kinds := [], alts := [], laidByText := true, laidKinds := [.data, .data, .data, .data, .sentinel, .sentinel, .pinned], laidTests := true, laidLooks := .later }
def LocaleTextsUptoCardSaid : Prop := Claim7.holds Tryz.pinned (.plain (OpenSpec.upto localeTextsSpec)) localeTextsUptoCard

/-- THE SECOND FORM's CARD OF 'civiltimelaw55.LocaleBack'. -/
def localeBackUptoCard : Claim7 := { stood := { row := localeBackUptoRow, standIns := [], harness := (true, "07f7f22e7b554293b475c85737c3d8e97f758be366c7323a9c1bcbc8aa4761b6"), looks := true }, kinds := [], alts := [], laidByText := true, laidKinds := [.data, .data, .data, .data, .sentinel, .sentinel, .pinned], laidTests := true, laidLooks := .later }
def LocaleBackUptoCardSaid : Prop := Claim7.holds Tryz.pinned (.plain (OpenSpec.upto localeBackSpec)) localeBackUptoCard
end Rows
end Go.Proofs.YtnhdmnhfllecgaaGreatDoor
