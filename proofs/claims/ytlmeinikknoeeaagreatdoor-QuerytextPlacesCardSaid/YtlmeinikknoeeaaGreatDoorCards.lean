/-
  DERIVED. GIVEN WITH THE SEED: THE CARDS: each row of YtlmeinikknoeeaaGreatDoorRows.lean that lists a variable, with what it lists TIED to the program's text (the seventh form; the later family's looks); each row that meets fmt, with fmt's text TOLD by the authors' own Lean function (tested against real Go, not proved from fmt's source: count such statements apart). THE CARD IS WHAT COUNTS. Prove the row's statement (the work); the ties are given (YtlmeinikknoeeaaGreatDoorTie.lean); close each card by the builder's one call (the guide's Derived/Test/ToyasCard.lean, 'card_holds'). Laid BY PROGRAM, IN A SANDBOX (cutbox-door.mjs). By AI agents, Wed Nov 11 2026. No macro, syntax, notation, axiom, sorry.
-/
import Derived.Test.YtlmeinikknoeeaaGreatDoorRows
import GoSem.ClaimSeven
namespace Go.Proofs.YtlmeinikknoeeaaGreatDoor
namespace Rows

/-- THE TIED CARD OF 'civiltimelaw40.QuerytextTyped'. -/
def querytextTypedCard : Claim7 := { stood := { row := querytextTypedRow, standIns := [], harness := (true, "9c089b4edf9d27cc2e5c7023545807b800e1eb2ab75007187f473352fd5448a6"), looks := true }, kinds := [], alts := [], laidByText := true, laidKinds := [.data, .data, .data, .data, .sentinel, .sentinel, .widerDeep, .pinned], laidTests := true, laidLooks := .later }
def QuerytextTypedCardSaid : Prop := Claim7.holds Tryz.pinned (.plain (OpenSpec.ofChange querytextTypedSpec)) querytextTypedCard

/-- THE TIED CARD OF 'civiltimelaw40.QuerytextValid'. -/
def querytextValidCard : Claim7 := { stood := { row := querytextValidRow, standIns := [], harness := (true, "9c089b4edf9d27cc2e5c7023545807b800e1eb2ab75007187f473352fd5448a6"), looks := true }, kinds := [], alts := [], laidByText := true, laidKinds := [.data, .data, .data, .data, .sentinel, .sentinel, .widerDeep, .pinned], laidTests := true, laidLooks := .later }
def QuerytextValidCardSaid : Prop := Claim7.holds Tryz.pinned (.plain (OpenSpec.ofChange querytextValidSpec)) querytextValidCard

/-- THE TIED CARD OF 'civiltimelaw40.QuerytextParses'. -/
def querytextParsesCard : Claim7 := { stood := { row := querytextParsesRow, standIns := [], harness := (true, "9c089b4edf9d27cc2e5c7023545807b800e1eb2ab75007187f473352fd5448a6"), looks := true }, kinds := [], alts := [], laidByText := true, laidKinds := [.data, .data, .data, .data, .sentinel, .sentinel, .widerDeep, .pinned], laidTests := true, laidLooks := .later }
def QuerytextParsesCardSaid : Prop := Claim7.holds Tryz.pinned (.plain (OpenSpec.ofChange querytextParsesSpec)) querytextParsesCard

/-- THE TIED CARD OF 'civiltimelaw40.QuerytextConds'. -/
def querytextCondsCard : Claim7 := { stood := { row := querytextCondsRow, standIns := [], harness := (true, "9c089b4edf9d27cc2e5c7023545807b800e1eb2ab75007187f473352fd5448a6"), looks := true }, kinds := [], alts := [], laidByText := true, laidKinds := [.data, .data, .data, .data, .sentinel, .sentinel, .widerDeep, .pinned], laidTests := true, laidLooks := .later }
def QuerytextCondsCardSaid : Prop := Claim7.holds Tryz.pinned (.plain (OpenSpec.ofChange querytextCondsSpec)) querytextCondsCard

/-- THE TIED CARD OF 'civiltimelaw40.QuerytextPlaces'. -/
def querytextPlacesCard : Claim7 := { stood := { row := querytextPlacesRow, standIns := [], harness := (true, "9c089b4edf9d27cc2e5c7023545807b800e1eb2ab75007187f473352fd5448a6"), looks := true }, kinds := [], alts := [], laidByText := true, laidKinds := [.data, .data, .data, .data, .sentinel, .sentinel, .widerDeep, .pinned], laidTests := true, laidLooks := .later }
def QuerytextPlacesCardSaid : Prop := Claim7.holds Tryz.pinned (.plain (OpenSpec.ofChange querytextPlacesSpec)) querytextPlacesCard

/-- THE TIED CARD OF 'civiltimelaw40.QuerytextTexts'. -/
def querytextTextsCard : Claim7 := { stood := { row := querytextTextsRow, standIns := [], harness := (true, "9c089b4edf9d27cc2e5c7023545807b800e1eb2ab75007187f473352fd5448a6"), looks := true }, kinds := [], alts := [], laidByText := true, laidKinds := [.data, .data, .data, .data, .sentinel, .sentinel, .widerDeep, .pinned], laidTests := true, laidLooks := .later }
def QuerytextTextsCardSaid : Prop := Claim7.holds Tryz.pinned (.plain (OpenSpec.ofChange querytextTextsSpec)) querytextTextsCard

/-- THE TIED CARD OF 'civiltimelaw40.QuerytextBlanks'. -/
def querytextBlanksCard : Claim7 := { stood := { row := querytextBlanksRow, standIns := [], harness := (true, "9c089b4edf9d27cc2e5c7023545807b800e1eb2ab75007187f473352fd5448a6"), looks := true }, kinds := [], alts := [], laidByText := true, laidKinds := [.data, .data, .data, .data, .sentinel, .sentinel, .widerDeep, .pinned], laidTests := true, laidLooks := .later }
def QuerytextBlanksCardSaid : Prop := Claim7.holds Tryz.pinned (.plain (OpenSpec.ofChange querytextBlanksSpec)) querytextBlanksCard

/-- THE TIED CARD OF 'civiltimelaw40.QuerytextBack'. -/
def querytextBackCard : Claim7 := { stood := { row := querytextBackRow, standIns := [], harness := (true, "9c089b4edf9d27cc2e5c7023545807b800e1eb2ab75007187f473352fd5448a6"), looks := true }, kinds := [], alts := [], laidByText := true, laidKinds := [.data, .data, .data, .data, .sentinel, .sentinel, .widerDeep, .pinned], laidTests := true, laidLooks := .later }
def QuerytextBackCardSaid : Prop := Claim7.holds Tryz.pinned (.plain (OpenSpec.ofChange querytextBackSpec)) querytextBackCard

/-- THE TIED CARD OF 'civiltimelaw40.QuerytextColumns'. -/
def querytextColumnsCard : Claim7 := { stood := { row := querytextColumnsRow, standIns := [], harness := (true, "9c089b4edf9d27cc2e5c7023545807b800e1eb2ab75007187f473352fd5448a6"), looks := true }, kinds := [], alts := [], laidByText := true, laidKinds := [.data, .data, .data, .data, .sentinel, .sentinel, .widerDeep, .pinned], laidTests := true, laidLooks := .later }
def QuerytextColumnsCardSaid : Prop := Claim7.holds Tryz.pinned (.plain (OpenSpec.ofChange querytextColumnsSpec)) querytextColumnsCard

/-- THE SECOND FORM's CARD OF 'civiltimelaw40.QuerytextTyped'. -/
def querytextTypedUptoCard : Claim7 := { stood := { row := querytextTypedUptoRow, standIns := [], harness := (true, "9c089b4edf9d27cc2e5c7023545807b800e1eb2ab75007187f473352fd5448a6"), looks := true }, kinds := [], alts := [], laidByText := true, laidKinds := [.data, .data, .data, .data, .sentinel, .sentinel, .widerDeep, .pinned], laidTests := true, laidLooks := .later }
def QuerytextTypedUptoCardSaid : Prop := Claim7.holds Tryz.pinned (.plain (OpenSpec.upto querytextTypedSpec)) querytextTypedUptoCard

/-- THE SECOND FORM's CARD OF 'civiltimelaw40.QuerytextValid'. -/
def querytextValidUptoCard : Claim7 := { stood := { row := querytextValidUptoRow, standIns := [], harness := (true, "9c089b4edf9d27cc2e5c7023545807b800e1eb2ab75007187f473352fd5448a6"), looks := true }, kinds := [], alts := [], laidByText := true, laidKinds := [.data, .data, .data, .data, .sentinel, .sentinel, .widerDeep, .pinned], laidTests := true, laidLooks := .later }
def QuerytextValidUptoCardSaid : Prop := Claim7.holds Tryz.pinned (.plain (OpenSpec.upto querytextValidSpec)) querytextValidUptoCard

/-- THE SECOND FORM's CARD OF 'civiltimelaw40.QuerytextParses'. -/
def querytextParsesUptoCard : Claim7 := { stood := { row := querytextParsesUptoRow, standIns := [], harness := (true, "9c089b4edf9d27cc2e5c7023545807b800e1eb2ab75007187f473352fd5448a6"), looks := true }, kinds := [], alts := [], laidByText := true, laidKinds := [.data, .data, .data, .data, .sentinel, .sentinel, .widerDeep, .pinned], laidTests := true, laidLooks := .later }
def QuerytextParsesUptoCardSaid : Prop := Claim7.holds Tryz.pinned (.plain (OpenSpec.upto querytextParsesSpec)) querytextParsesUptoCard

/-- THE SECOND FORM's CARD OF 'civiltimelaw40.QuerytextConds'. -/
def querytextCondsUptoCard : Claim7 := { stood := { row := querytextCondsUptoRow, standIns := [], harness := (true, "9c089b4edf9d27cc2e5c7023545807b800e1eb2ab75007187f473352fd5448a6"), looks := true }, kinds := [], alts := [], laidByText := true, laidKinds := [.data, .data, .data, .data, .sentinel, .sentinel, .widerDeep, .pinned], laidTests := true, laidLooks := .later }
def QuerytextCondsUptoCardSaid : Prop := Claim7.holds Tryz.pinned (.plain (OpenSpec.upto querytextCondsSpec)) querytextCondsUptoCard

/-- THE SECOND FORM's CARD OF 'civiltimelaw40.QuerytextPlaces'. -/
def querytextPlacesUptoCard : Claim7 := { stood := { row := querytextPlacesUptoRow, standIns := [], harness := (true, "9c089b4edf9d27cc2e5c7023545807b800e1eb2ab75007187f473352fd5448a6"), looks := true }, kinds := [], alts := [], laidByText := true, laidKinds := [.data, .data, .data, .data, .sentinel, .sentinel, .widerDeep, .pinned], laidTests := true, laidLooks := .later }
def QuerytextPlacesUptoCardSaid : Prop := Claim7.holds Tryz.pinned (.plain (OpenSpec.upto querytextPlacesSpec)) querytextPlacesUptoCard

/-- THE SECOND FORM's CARD OF 'civiltimelaw40.QuerytextTexts'. -/
def querytextTextsUptoCard : Claim7 := { stood := { row := querytextTextsUptoRow, standIns := [], harness := (true, "9c089b4edf9d27cc2e5c7023545807b800e1eb2ab75007187f473352fd5448a6"), looks := true }, kinds := [], alts := [], laidByText := true, laidKinds := [.data, .data, .data, .data, .sentinel, .sentinel, .widerDeep, .pinned], laidTests := true, laidLooks := .later }
def QuerytextTextsUptoCardSaid : Prop := Claim7.holds Tryz.pinned (.plain (OpenSpec.upto querytextTextsSpec)) querytextTextsUptoCard

/-- THE SECOND FORM's CARD OF 'civiltimelaw40.QuerytextBlanks'. -/
def querytextBlanksUptoCard : Claim7 := { stood := { row := querytextBlanksUptoRow, standIns := [], harness := (true, "9c089b4edf9d27cc2e5c7023545807b800e1eb2ab75007187f473352fd5448a6"), looks := true }, kinds := [], alts := [], laidByText := true, laidKinds := [.data, .data, .data, .data, .sentinel, .sentinel, .widerDeep, .pinned], laidTests := true, laidLooks := .later }
def QuerytextBlanksUptoCardSaid : Prop := Claim7.holds Tryz.pinned (.plain (OpenSpec.upto querytextBlanksSpec)) querytextBlanksUptoCard

/-- THE SECOND FORM's CARD OF 'civiltimelaw40.QuerytextBack'. -/
def querytextBackUptoCard : Claim7 := { stood := { row := querytextBackUptoRow, standIns := [], harness := (true, "9c089b4edf9d27cc2e5c7023545807b800e1eb2ab75007187f473352fd5448a6"), looks := true }, kinds := [], alts := [], laidByText := true, laidKinds := [.data, .data, .data, .data, .sentinel, .sentinel, .widerDeep, .pinned], laidTests := true, laidLooks := .later }
def QuerytextBackUptoCardSaid : Prop := Claim7.holds Tryz.pinned (.plain (OpenSpec.upto querytextBackSpec)) querytextBackUptoCard

/-- THE SECOND FORM's CARD OF 'civiltimelaw40.QuerytextColumns'. -/
def querytextColumnsUptoCard : Claim7 := { stood := { row := querytextColumnsUptoRow, standIns := [], harness := (true, "9c089b4edf9d27cc2e5c7023545807b800e1eb2ab75007187f473352fd5448a6"), looks := true }, kinds := [], alts := [], laidByText := true, laidKinds := [.data, .data, .data, .data, .sentinel, .sentinel, .widerDeep, .pinned], laidTests := true, laidLooks := .later }
def QuerytextColumnsUptoCardSaid : Prop := Claim7.holds Tryz.pinned (.plain (OpenSpec.upto querytextColumnsSpec)) querytextColumnsUptoCard
end Rows
end Go.Proofs.YtlmeinikknoeeaaGreatDoor
