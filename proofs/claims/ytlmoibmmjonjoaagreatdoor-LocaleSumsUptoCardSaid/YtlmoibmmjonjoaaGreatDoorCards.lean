/-
  DERIVED. GIVEN WITH THE SEED: THE CARDS: each row of YtlmoibmmjonjoaaGreatDoorRows.lean that lists a variable, with what it lists TIED to the program's text (the seventh form; the later family's looks); each row that meets fmt, with fmt's text TOLD by the authors' own Lean function (tested against real Go, not proved from fmt's source: count such statements apart). THE CARD IS WHAT COUNTS. Prove the row's statement (the work); the ties are given (YtlmoibmmjonjoaaGreatDoorTie.lean); close each card by the builder's one call (the guide's Derived/Test/ToyasCard.lean, 'card_holds'). Laid BY PROGRAM, IN A SANDBOX (cutbox-door.mjs). By AI agents, Wed Nov 11 2026. No macro, syntax, notation, axiom, sorry.
-/
import Derived.Test.YtlmoibmmjonjoaaGreatDoorRows
import GoSem.ClaimSeven
namespace Go.Proofs.YtlmoibmmjonjoaaGreatDoor
namespace Rows

/-- THE TIED CARD OF 'civiltimelaw55.LocalePlurals'. -/
def localePluralsCard : Claim7 := { stood := { row := localePluralsRow, standIns := [], harness := (true, "5c76790c3064743e5f033ae4d604b7599ea567b842d6ffeaee1af965402e47ea"), looks := true }, kinds := [], alts := [], laidByText := true, laidKinds := [.data, .data, .data, .data, .sentinel, .sentinel, .pinned], laidTests := true, laidLooks := .later }
def LocalePluralsCardSaid : Prop := Claim7.holds Tryz.pinned (.plain (OpenSpec.ofChange localePluralsSpec)) localePluralsCard

/-- THE TIED CARD OF 'civiltimelaw55.LocaleCategories'. -/
def localeCategoriesCard : Claim7 := { stood := { row := localeCategoriesRow, standIns := [], harness := (true, "5c76790c3064743e5f033ae4d604b7599ea567b842d6ffeaee1af965402e47ea"), looks := true }, kinds := [], alts := [], laidByText := true, laidKinds := [.data, .data, .data, .data, .sentinel, .sentinel, .pinned], laidTests := true, laidLooks := .later }
def LocaleCategoriesCardSaid : Prop := Claim7.holds Tryz.pinned (.plain (OpenSpec.ofChange localeCategoriesSpec)) localeCategoriesCard

/-- THE TIED CARD OF 'civiltimelaw55.LocaleDurations'. -/
def localeDurationsCard : Claim7 := { stood := { row := localeDurationsRow, standIns := [], harness := (true, "5c76790c3064743e5f033ae4d604b7599ea567b842d6ffeaee1af965402e47ea"), looks := true }, kinds := [], alts := [], laidByText := true, laidKinds := [.data, .data, .data, .data, .sentinel, .sentinel, .pinned], laidTests := true, laidLooks := .later }
def LocaleDurationsCardSaid : Prop := Claim7.holds Tryz.pinned (.plain (OpenSpec.ofChange localeDurationsSpec)) localeDurationsCard

/-- THE TIED CARD OF 'civiltimelaw55.LocaleSums'. -/
def localeSumsCard : Claim7 := { stood := { row := localeSumsRow, standIns := [], harness := (true, "5c76790c3064743e5f033ae4d604b7599ea567b842d6ffeaee1af965402e47ea"), looks := true }, kinds := [], alts := [], laidByText := true, laidKinds := [.data, .data, .data, .data, .sentinel, .sentinel, .pinned], laidTests := true, laidLooks := .later }
def LocaleSumsCardSaid : Prop := Claim7.holds Tryz.pinned (.plain (OpenSpec.ofChange localeSumsSpec)) localeSumsCard

/-- THE SECOND FORM's CARD OF 'civiltimelaw55.LocalePlurals'. -/
def localePluralsUptoCard : Claim7 := { stood := { row := localePluralsUptoRow, standIns := [], harness := (true, "5c76790c3064743e5f033ae4d604b7599ea567b842d6ffeaee1af965402e47ea"), looks := true }, kinds := [], alts := [], laidByText := true, laidKinds := [.data, .data, .data, .data, .sentinel, .sentinel, .pinned], laidTests := true, laidLooks := .later }
def LocalePluralsUptoCardSaid : Prop := Claim7.holds Tryz.pinned (.plain (OpenSpec.upto localePluralsSpec)) localePluralsUptoCard

/-- THE SECOND FORM's CARD OF 'civiltimelaw55.LocaleCategories'. -/
def localeCategoriesUptoCard : Claim7 := { stood := { row := localeCategoriesUptoRow, standIns := [], harness := (true, "5c76790c3064743e5f033ae4d604b7599ea567b842d6ffeaee1af965402e47ea"), looks := true }, kinds := [], alts := [], laidByText := true, laidKinds := [.data, .data, .data, .data, .sentinel, .sentinel, .pinned], laidTests := true, laidLooks := .later }
def LocaleCategoriesUptoCardSaid : Prop := Claim7.holds Tryz.pinned (.plain (OpenSpec.upto localeCategoriesSpec)) localeCategoriesUptoCard

/-- THE SECOND FORM's CARD OF 'civiltimelaw55.LocaleDurations'. -/
def localeDurationsUptoCard : Claim7 := { stood := { row := localeDurationsUptoRow, standIns := [], harness := (true, "5c76790c3064743e5f033ae4d604b7599ea567b842d6ffeaee1af965402e47ea"), looks := true }, kinds := [], alts := [], laidByText := true, laidKinds := [.data, .data, .data, .data, .sentinel, .sentinel, .pinned], laidTests := true, laidLooks := .later }
def LocaleDurationsUptoCardSaid : Prop := Claim7.holds Tryz.pinned (.plain (OpenSpec.upto localeDurationsSpec)) localeDurationsUptoCard

/-- THE SECOND FORM's CARD OF 'civiltimelaw55.LocaleSums'. -/
def localeSumsUptoCard : Claim7 := { stood := { row := localeSumsUptoRow, standIns := [], harness := (true, "5c76790c3064743e5f033ae4d604b7599ea567b842d6ffeaee1af965402e47ea"), looks := true }, kinds := [], alts := [], laidByText := true, laidKinds := [.data, .data, .data, .data, .sentinel, .sentinel, .pinned], laidTests := true, laidLooks := .later }
def LocaleSumsUptoCardSaid : Prop := Claim7.holds Tryz.pinned (.plain (OpenSpec.upto localeSumsSpec)) localeSumsUptoCard
end Rows
end Go.Proofs.YtlmoibmmjonjoaaGreatDoor
