/-
  DERIVED. GIVEN WITH THE SEED: THE CARDS: each row of YticckkadmhklmaaGreatDoorRows.lean that lists a variable, with what it lists TIED to the program's text (the seventh form; the later family's looks); each row that meets fmt, with fmt's text TOLD by the authors' own Lean function (tested against real Go, not proved from fmt's source: count such statements apart). THE CARD IS WHAT COUNTS. Prove the row's statement (the work); the ties are given (YticckkadmhklmaaGreatDoorTie.lean); close each card by the builder's one call (the guide's Derived/Test/ToyasCard.lean, 'card_holds'). Laid BY PROGRAM, IN A SANDBOX (cutbox-door.mjs). By AI agents, Wed Nov 11 2026. No macro, syntax, notation, axiom, sorry.
-/
import Derived.Test.YticckkadmhklmaaGreatDoorRows
import GoSem.ClaimSeven
namespace Go.Proofs.YticckkadmhklmaaGreatDoor
namespace Rows

/-- THE TIED CARD OF 'civiltimelaw54.PatternTexts'. -/
def patternTextsCard : Claim7 := { stood := { row := patternTextsRow, standIns := [], harness := (true, "d2022ae86ca740b5f92a0215f5e3f24e1e7521259005426f10f95e518a98dd1a"), looks := false }, kinds := [], alts := [], laidByText := true, laidKinds := [.data, .pinned], laidTests := true, laidLooks := .later }
def PatternTextsCardSaid : Prop := Claim7.holds Tryz.pinned (.plain (OpenSpec.ofChange patternTextsSpec)) patternTextsCard

/-- THE TIED CARD OF 'civiltimelaw54.PatternLiterals'. -/
def patternLiteralsCard : Claim7 := { stood := { row := patternLiteralsRow, standIns := [], harness := (true, "d2022ae86ca740b5f92a0215f5e3f24e1e7521259005426f10f95e518a98dd1a"), looks := false }, kinds := [], alts := [], laidByText := true, laidKinds := [.data, .pinned], laidTests := true, laidLooks := .later }
def PatternLiteralsCardSaid : Prop := Claim7.holds Tryz.pinned (.plain (OpenSpec.ofChange patternLiteralsSpec)) patternLiteralsCard

/-- THE SECOND FORM's CARD OF 'civiltimelaw54.PatternTexts'. -/
def patternTextsUptoCard : Claim7 := { stood := { row := patternTextsUptoRow, standIns := [], harness := (true, "d2022ae86ca740b5f92a0215f5e3f24e1e7521259005426f10f95e518a98dd1a"), looks := false }, kinds := [], alts := [], laidByText := true, laidKinds := [.data, .pinned], laidTests := true, laidLooks := .later }
def PatternTextsUptoCardSaid : Prop := Claim7.holds Tryz.pinned (.plain (OpenSpec.upto patternTextsSpec)) patternTextsUptoCard

/-- THE SECOND FORM's CARD OF 'civiltimelaw54.PatternLiterals'. -/
def patternLiteralsUptoCard : Claim7 := { stood := { row := patternLiteralsUptoRow, standIns := [], harness := (true, "d2022ae86ca740b5f92a0215f5e3f24e1e7521259005426f10f95e518a98dd1a"), looks := false }, kinds := [], alts := [], laidByText := true, laidKinds := [.data, .pinned], laidTests := true, laidLooks := .later }
def PatternLiteralsUptoCardSaid : Prop := Claim7.holds Tryz.pinned (.plain (OpenSpec.upto patternLiteralsSpec)) patternLiteralsUptoCard
end Rows
end Go.Proofs.YticckkadmhklmaaGreatDoor
