/-
  DERIVED. GIVEN WITH THE SEED: THE CARDS: each row of YtgndogpgfgliaaaGreatDoorRows.lean that lists a variable, with what it lists TIED to the program's text (the seventh form; the later family's looks); each row that meets fmt, with fmt's text TOLD by the authors' own Lean function (tested against real Go, not proved from fmt's source: count such statements apart). THE CARD IS WHAT COUNTS. Prove the row's statement (the work); the ties are given (YtgndogpgfgliaaaGreatDoorTie.lean); close each card by the builder's one call (the guide's Derived/Test/ToyasCard.lean, 'card_holds'). Laid BY PROGRAM, IN A SANDBOX (cutbox-door.mjs). By AI agents, Wed Nov 11 2026. No macro, syntax, notation, axiom, sorry.
-/
import Derived.Test.YtgndogpgfgliaaaGreatDoorRows
import GoSem.ClaimSeven
namespace Go.Proofs.YtgndogpgfgliaaaGreatDoor
namespace Rows

/-- THE TIED CARD OF 'civiltimelaw30.RecurtextWrites'. -/
def recurtextWritesCard : Claim7 := { stood := { row := recurtextWritesRow, standIns := [], harness := (true, "53171e5faf8877c0ebb1a9b7ea805c12ca0a785cdfc7ce478497ff7850eea666"), looks := true }, kinds := [], alts := [], laidByText := true, laidKinds := [.data, .data, .data, .data, .sentinel, .sentinel, .pinned], laidTests := true, laidLooks := .later }
def RecurtextWritesCardSaid : Prop := Claim7.holds Tryz.pinned (.plain (OpenSpec.ofChange recurtextWritesSpec)) recurtextWritesCard

/-- THE TIED CARD OF 'civiltimelaw30.RecurtextParses'. -/
def recurtextParsesCard : Claim7 := { stood := { row := recurtextParsesRow, standIns := [], harness := (true, "53171e5faf8877c0ebb1a9b7ea805c12ca0a785cdfc7ce478497ff7850eea666"), looks := true }, kinds := [], alts := [], laidByText := true, laidKinds := [.data, .data, .data, .data, .sentinel, .sentinel, .pinned], laidTests := true, laidLooks := .later }
def RecurtextParsesCardSaid : Prop := Claim7.holds Tryz.pinned (.plain (OpenSpec.ofChange recurtextParsesSpec)) recurtextParsesCard

/-- THE TIED CARD OF 'civiltimelaw30.RecurtextPart'. -/
def recurtextPartCard : Claim7 := { stood := { row := recurtextPartRow, standIns := [], harness := (true, "53171e5faf8877c0ebb1a9b7ea805c12ca0a785cdfc7ce478497ff7850eea666"), looks := true }, kinds := [], alts := [], laidByText := true, laidKinds := [.data, .data, .data, .data, .sentinel, .sentinel, .pinned], laidTests := true, laidLooks := .later }
def RecurtextPartCardSaid : Prop := Claim7.holds Tryz.pinned (.plain (OpenSpec.ofChange recurtextPartSpec)) recurtextPartCard

/-- THE TIED CARD OF 'civiltimelaw30.RecurtextDays'. -/
def recurtextDaysCard : Claim7 := { stood := { row := recurtextDaysRow, standIns := [], harness := (true, "53171e5faf8877c0ebb1a9b7ea805c12ca0a785cdfc7ce478497ff7850eea666"), looks := true }, kinds := [], alts := [], laidByText := true, laidKinds := [.data, .data, .data, .data, .sentinel, .sentinel, .pinned], laidTests := true, laidLooks := .later }
def RecurtextDaysCardSaid : Prop := Claim7.holds Tryz.pinned (.plain (OpenSpec.ofChange recurtextDaysSpec)) recurtextDaysCard

/-- THE TIED CARD OF 'civiltimelaw30.RecurtextBack'. -/
def recurtextBackCard : Claim7 := { stood := { row := recurtextBackRow, standIns := [], harness := (true, "53171e5faf8877c0ebb1a9b7ea805c12ca0a785cdfc7ce478497ff7850eea666"), looks := true }, kinds := [], alts := [], laidByText := true, laidKinds := [.data, .data, .data, .data, .sentinel, .sentinel, .pinned], laidTests := true, laidLooks := .later }
def RecurtextBackCardSaid : Prop := Claim7.holds Tryz.pinned (.plain (OpenSpec.ofChange recurtextBackSpec)) recurtextBackCard

/-- THE TIED CARD OF 'civiltimelaw30.RecurtextUnique'. -/
def recurtextUniqueCard : Claim7 := { stood := { row := recurtextUniqueRow, standIns := [], harness := (true, "53171e5faf8877c0ebb1a9b7ea805c12ca0a785cdfc7ce478497ff7850eea666"), looks := true }, kinds := [], alts := [], laidByText := true, laidKinds := [.data, .data, .data, .data, .sentinel, .sentinel, .pinned], laidTests := true, laidLooks := .later }
def RecurtextUniqueCardSaid : Prop := Claim7.holds Tryz.pinned (.plain (OpenSpec.ofChange recurtextUniqueSpec)) recurtextUniqueCard

/-- THE TIED CARD OF 'civiltimelaw30.RecurtextFields'. -/
def recurtextFieldsCard : Claim7 := { stood := { row := recurtextFieldsRow, standIns := [], harness := (true, "53171e5faf8877c0ebb1a9b7ea805c12ca0a785cdfc7ce478497ff7850eea666"), looks := true }, kinds := [], alts := [], laidByText := true, laidKinds := [.data, .data, .data, .data, .sentinel, .sentinel, .pinned], laidTests := true, laidLooks := .later }
def RecurtextFieldsCardSaid : Prop := Claim7.holds Tryz.pinned (.plain (OpenSpec.ofChange recurtextFieldsSpec)) recurtextFieldsCard

/-- THE TIED CARD OF 'civiltimelaw30.RecurtextOrder'. -/
def recurtextOrderCard : Claim7 := { stood := { row := recurtextOrderRow, standIns := [], harness := (true, "53171e5faf8877c0ebb1a9b7ea805c12ca0a785cdfc7ce478497ff7850eea666"), looks := true }, kinds := [], alts := [], laidByText := true, laidKinds := [.data, .data, .data, .data, .sentinel, .sentinel, .pinned], laidTests := true, laidLooks := .later }
def RecurtextOrderCardSaid : Prop := Claim7.holds Tryz.pinned (.plain (OpenSpec.ofChange recurtextOrderSpec)) recurtextOrderCard

/-- THE SECOND FORM's CARD OF 'civiltimelaw30.RecurtextWrites'. -/
def recurtextWritesUptoCard : Claim7 := { stood := { row := recurtextWritesUptoRow, standIns := [], harness := (true, "53171e5faf8877c0ebb1a9b7ea805c12ca0a785cdfc7ce478497ff7850eea666"), looks := true }, kinds := [], alts := [], laidByText := true, laidKinds := [.data, .data, .data, .data, .sentinel, .sentinel, .pinned], laidTests := true, laidLooks := .later }
def RecurtextWritesUptoCardSaid : Prop := Claim7.holds Tryz.pinned (.plain (OpenSpec.upto recurtextWritesSpec)) recurtextWritesUptoCard

/-- THE SECOND FORM's CARD OF 'civiltimelaw30.RecurtextParses'. -/
def recurtextParsesUptoCard : Claim7 := { stood := { row := recurtextParsesUptoRow, standIns := [], harness := (true, "53171e5faf8877c0ebb1a9b7ea805c12ca0a785cdfc7ce478497ff7850eea666"), looks := true }, kinds := [], alts := [], laidByText := true, laidKinds := [.data, .data, .data, .data, .sentinel, .sentinel, .pinned], laidTests := true, laidLooks := .later }
def RecurtextParsesUptoCardSaid : Prop := Claim7.holds Tryz.pinned (.plain (OpenSpec.upto recurtextParsesSpec)) recurtextParsesUptoCard

/-- THE SECOND FORM's CARD OF 'civiltimelaw30.RecurtextPart'. -/
def recurtextPartUptoCard : Claim7 := { stood := { row := recurtextPartUptoRow, standIns := [], harness := (true, "53171e5faf8877c0ebb1a9b7ea805c12ca0a785cdfc7ce478497ff7850eea666"), looks := true }, kinds := [], alts := [], laidByText := true, laidKinds := [.data, .data, .data, .data, .sentinel, .sentinel, .pinned], laidTests := true, laidLooks := .later }
def RecurtextPartUptoCardSaid : Prop := Claim7.holds Tryz.pinned (.plain (OpenSpec.upto recurtextPartSpec)) recurtextPartUptoCard

/-- THE SECOND FORM's CARD OF 'civiltimelaw30.RecurtextDays'. -/
def recurtextDaysUptoCard : Claim7 := { stood := { row := recurtextDaysUptoRow, standIns := [], harness := (true, "53171e5faf8877c0ebb1a9b7ea805c12ca0a785cdfc7ce478497ff7850eea666"), looks := true }, kinds := [], alts := [], laidByText := true, laidKinds := [.data, .data, .data, .data, .sentinel, .sentinel, .pinned], laidTests := true, laidLooks := .later }
def RecurtextDaysUptoCardSaid : Prop := Claim7.holds Tryz.pinned (.plain (OpenSpec.upto recurtextDaysSpec)) recurtextDaysUptoCard

/-- THE SECOND FORM's CARD OF 'civiltimelaw30.RecurtextBack'. -/
def recurtextBackUptoCard : Claim7 := { stood := { row := recurtextBackUptoRow, standIns := [], harness := (true, "53171e5faf8877c0ebb1a9b7ea805c12ca0a785cdfc7ce478497ff7850eea666"), looks := true }, kinds := [], alts := [], laidByText := true, laidKinds := [.data, .data, .data, .data, .sentinel, .sentinel, .pinned], laidTests := true, laidLooks := .later }
def RecurtextBackUptoCardSaid : Prop := Claim7.holds Tryz.pinned (.plain (OpenSpec.upto recurtextBackSpec)) recurtextBackUptoCard

/-- THE SECOND FORM's CARD OF 'civiltimelaw30.RecurtextUnique'. -/
def recurtextUniqueUptoCard : Claim7 := { stood := { row := recurtextUniqueUptoRow, standIns := [], harness := (true, "53171e5faf8877c0ebb1a9b7ea805c12ca0a785cdfc7ce478497ff7850eea666"), looks := true }, kinds := [], alts := [], laidByText := true, laidKinds := [.data, .data, .data, .data, .sentinel, .sentinel, .pinned], laidTests := true, laidLooks := .later }
def RecurtextUniqueUptoCardSaid : Prop := Claim7.holds Tryz.pinned (.plain (OpenSpec.upto recurtextUniqueSpec)) recurtextUniqueUptoCard

/-- THE SECOND FORM's CARD OF 'civiltimelaw30.RecurtextFields'. -/
def recurtextFieldsUptoCard : Claim7 := { stood := { row := recurtextFieldsUptoRow, standIns := [], harness := (true, "53171e5faf8877c0ebb1a9b7ea805c12ca0a785cdfc7ce478497ff7850eea666"), looks := true }, kinds := [], alts := [], laidByText := true, laidKinds := [.data, .data, .data, .data, .sentinel, .sentinel, .pinned], laidTests := true, laidLooks := .later }
def RecurtextFieldsUptoCardSaid : Prop := Claim7.holds Tryz.pinned (.plain (OpenSpec.upto recurtextFieldsSpec)) recurtextFieldsUptoCard

/-- THE SECOND FORM's CARD OF 'civiltimelaw30.RecurtextOrder'. -/
def recurtextOrderUptoCard : Claim7 := { stood := { row := recurtextOrderUptoRow, standIns := [], harness := (true, "53171e5faf8877c0ebb1a9b7ea805c12ca0a785cdfc7ce478497ff7850eea666"), looks := true }, kinds := [], alts := [], laidByText := true, laidKinds := [.data, .data, .data, .data, .sentinel, .sentinel, .pinned], laidTests := true, laidLooks := .later }
def RecurtextOrderUptoCardSaid : Prop := Claim7.holds Tryz.pinned (.plain (OpenSpec.upto recurtextOrderSpec)) recurtextOrderUptoCard
end Rows
end Go.Proofs.YtgndogpgfgliaaaGreatDoor
