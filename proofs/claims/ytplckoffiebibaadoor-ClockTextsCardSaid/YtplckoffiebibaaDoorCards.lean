/-
  DERIVED. GIVEN WITH THE SEED: THE CARDS: each row of YtplckoffiebibaaDoorRows.lean that lists a variable, with what it lists TIED to the program's text (the seventh form; the later family's looks); each row that meets fmt, with fmt's text TOLD by the authors' own Lean function (tested against real Go, not proved from fmt's source: count such statements apart). THE CARD IS WHAT COUNTS. Prove the row's statement (the work); the ties are given (YtplckoffiebibaaDoorTie.lean); close each card by the builder's one call (the guide's Derived/Test/ToyasCard.lean, 'card_holds'). Laid BY PROGRAM, IN A SANDBOX (cutbox-door.mjs). By AI agents, Wed Nov 11 2026. No macro, syntax, notation, axiom, sorry.
-/
import Derived.Test.YtplckoffiebibaaDoorRows
import GoSem.ClaimSeven
namespace Go.Proofs.YtplckoffiebibaaDoor
namespace Rows

/-- THE TIED CARD OF 'civiltimelaw04.ClockTimes'. -/
def clockTimesCard : Claim7 := { stood := { row := clockTimesRow, standIns := [], harness := (true, "cac3a49f99d43b14a7333c52e02b09ba936cc5026c729cb67f8e4dbe8cdd5664"), looks := true }, kinds := [], alts := [], laidByText := true, laidKinds := [.data, .data, .data, .data], laidTests := true, laidLooks := .later }
def ClockTimesCardSaid : Prop := Claim7.holds Tryd.pinned (.plain (OpenSpec.ofChange clockTimesSpec)) clockTimesCard

/-- THE TIED CARD OF 'civiltimelaw04.ClockInstants'. -/
def clockInstantsCard : Claim7 := { stood := { row := clockInstantsRow, standIns := [], harness := (true, "cac3a49f99d43b14a7333c52e02b09ba936cc5026c729cb67f8e4dbe8cdd5664"), looks := true }, kinds := [], alts := [], laidByText := true, laidKinds := [.data, .data, .data, .data], laidTests := true, laidLooks := .later }
def ClockInstantsCardSaid : Prop := Claim7.holds Tryd.pinned (.plain (OpenSpec.ofChange clockInstantsSpec)) clockInstantsCard

/-- THE TIED CARD OF 'civiltimelaw04.ClockMoments'. -/
def clockMomentsCard : Claim7 := { stood := { row := clockMomentsRow, standIns := [], harness := (true, "cac3a49f99d43b14a7333c52e02b09ba936cc5026c729cb67f8e4dbe8cdd5664"), looks := true }, kinds := [], alts := [], laidByText := true, laidKinds := [.data, .data, .data, .data], laidTests := true, laidLooks := .later }
def ClockMomentsCardSaid : Prop := Claim7.holds Tryd.pinned (.plain (OpenSpec.ofChange clockMomentsSpec)) clockMomentsCard

/-- THE TIED CARD OF 'civiltimelaw04.ClockSteps'. -/
def clockStepsCard : Claim7 := { stood := { row := clockStepsRow, standIns := [], harness := (true, "cac3a49f99d43b14a7333c52e02b09ba936cc5026c729cb67f8e4dbe8cdd5664"), looks := true }, kinds := [], alts := [], laidByText := true, laidKinds := [.data, .data, .data, .data], laidTests := true, laidLooks := .later }
def ClockStepsCardSaid : Prop := Claim7.holds Tryd.pinned (.plain (OpenSpec.ofChange clockStepsSpec)) clockStepsCard

/-- THE TIED CARD OF 'civiltimelaw04.ClockDurations'. -/
def clockDurationsCard : Claim7 := { stood := { row := clockDurationsRow, standIns := [], harness := (true, "cac3a49f99d43b14a7333c52e02b09ba936cc5026c729cb67f8e4dbe8cdd5664"), looks := true }, kinds := [], alts := [], laidByText := true, laidKinds := [.data, .data, .data, .data], laidTests := true, laidLooks := .later }
def ClockDurationsCardSaid : Prop := Claim7.holds Tryd.pinned (.plain (OpenSpec.ofChange clockDurationsSpec)) clockDurationsCard

/-- THE TIED CARD OF 'civiltimelaw04.ClockSums'. -/
def clockSumsCard : Claim7 := { stood := { row := clockSumsRow, standIns := [], harness := (true, "cac3a49f99d43b14a7333c52e02b09ba936cc5026c729cb67f8e4dbe8cdd5664"), looks := true }, kinds := [], alts := [], laidByText := true, laidKinds := [.data, .data, .data, .data], laidTests := true, laidLooks := .later }
def ClockSumsCardSaid : Prop := Claim7.holds Tryd.pinned (.plain (OpenSpec.ofChange clockSumsSpec)) clockSumsCard

/-- THE TIED CARD OF 'civiltimelaw04.ClockRounds'. -/
def clockRoundsCard : Claim7 := { stood := { row := clockRoundsRow, standIns := [], harness := (true, "cac3a49f99d43b14a7333c52e02b09ba936cc5026c729cb67f8e4dbe8cdd5664"), looks := true }, kinds := [], alts := [], laidByText := true, laidKinds := [.data, .data, .data, .data], laidTests := true, laidLooks := .later }
def ClockRoundsCardSaid : Prop := Claim7.holds Tryd.pinned (.plain (OpenSpec.ofChange clockRoundsSpec)) clockRoundsCard

/-- THE TIED CARD OF 'civiltimelaw04.ClockNear'. -/
def clockNearCard : Claim7 := { stood := { row := clockNearRow, standIns := [], harness := (true, "cac3a49f99d43b14a7333c52e02b09ba936cc5026c729cb67f8e4dbe8cdd5664"), looks := true }, kinds := [], alts := [], laidByText := true, laidKinds := [.data, .data, .data, .data], laidTests := true, laidLooks := .later }
def ClockNearCardSaid : Prop := Claim7.holds Tryd.pinned (.plain (OpenSpec.ofChange clockNearSpec)) clockNearCard

/-- THE TIED CARD OF 'civiltimelaw04.ClockOrder'. -/
def clockOrderCard : Claim7 := { stood := { row := clockOrderRow, standIns := [], harness := (true, "cac3a49f99d43b14a7333c52e02b09ba936cc5026c729cb67f8e4dbe8cdd5664"), looks := true }, kinds := [], alts := [], laidByText := true, laidKinds := [.data, .data, .data, .data], laidTests := true, laidLooks := .later }
def ClockOrderCardSaid : Prop := Claim7.holds Tryd.pinned (.plain (OpenSpec.ofChange clockOrderSpec)) clockOrderCard

/-- THE TIED CARD OF 'civiltimelaw04.ClockTexts'. -/
def clockTextsCard : Claim7 := { stood := { row := clockTextsRow, standIns := [], harness := (true, "cac3a49f99d43b14a7333c52e02b09ba936cc5026c729cb67f8e4dbe8cdd5664"), looks := true }, kinds := [], alts := [], laidByText := true, laidKinds := [.data, .data, .data, .sentinel, .sentinel, .data], laidTests := true, laidLooks := .later }
def ClockTextsCardSaid : Prop := Claim7.holds Tryd.pinned (.plain (OpenSpec.ofChange clockTextsSpec)) clockTextsCard

/-- THE SECOND FORM's CARD OF 'civiltimelaw04.ClockTimes'. -/
def clockTimesUptoCard : Claim7 := { stood := { row := clockTimesUptoRow, standIns := [], harness := (true, "cac3a49f99d43b14a7333c52e02b09ba936cc5026c729cb67f8e4dbe8cdd5664"), looks := true }, kinds := [], alts := [], laidByText := true, laidKinds := [.data, .data, .data, .data], laidTests := true, laidLooks := .later }
def ClockTimesUptoCardSaid : Prop := Claim7.holds Tryd.pinned (.plain (OpenSpec.upto clockTimesSpec)) clockTimesUptoCard

/-- THE SECOND FORM's CARD OF 'civiltimelaw04.ClockInstants'. -/
def clockInstantsUptoCard : Claim7 := { stood := { row := clockInstantsUptoRow, standIns := [], harness := (true, "cac3a49f99d43b14a7333c52e02b09ba936cc5026c729cb67f8e4dbe8cdd5664"), looks := true }, kinds := [], alts := [], laidByText := true, laidKinds := [.data, .data, .data, .data], laidTests := true, laidLooks := .later }
def ClockInstantsUptoCardSaid : Prop := Claim7.holds Tryd.pinned (.plain (OpenSpec.upto clockInstantsSpec)) clockInstantsUptoCard

/-- THE SECOND FORM's CARD OF 'civiltimelaw04.ClockMoments'. -/
def clockMomentsUptoCard : Claim7 := { stood := { row := clockMomentsUptoRow, standIns := [], harness := (true, "cac3a49f99d43b14a7333c52e02b09ba936cc5026c729cb67f8e4dbe8cdd5664"), looks := true }, kinds := [], alts := [], laidByText := true, laidKinds := [.data, .data, .data, .data], laidTests := true, laidLooks := .later }
def ClockMomentsUptoCardSaid : Prop := Claim7.holds Tryd.pinned (.plain (OpenSpec.upto clockMomentsSpec)) clockMomentsUptoCard

/-- THE SECOND FORM's CARD OF 'civiltimelaw04.ClockSteps'. -/
def clockStepsUptoCard : Claim7 := { stood := { row := clockStepsUptoRow, standIns := [], harness := (true, "cac3a49f99d43b14a7333c52e02b09ba936cc5026c729cb67f8e4dbe8cdd5664"), looks := true }, kinds := [], alts := [], laidByText := true, laidKinds := [.data, .data, .data, .data], laidTests := true, laidLooks := .later }
def ClockStepsUptoCardSaid : Prop := Claim7.holds Tryd.pinned (.plain (OpenSpec.upto clockStepsSpec)) clockStepsUptoCard

/-- THE SECOND FORM's CARD OF 'civiltimelaw04.ClockDurations'. -/
def clockDurationsUptoCard : Claim7 := { stood := { row := clockDurationsUptoRow, standIns := [], harness := (true, "cac3a49f99d43b14a7333c52e02b09ba936cc5026c729cb67f8e4dbe8cdd5664"), looks := true }, kinds := [], alts := [], laidByText := true, laidKinds := [.data, .data, .data, .data], laidTests := true, laidLooks := .later }
def ClockDurationsUptoCardSaid : Prop := Claim7.holds Tryd.pinned (.plain (OpenSpec.upto clockDurationsSpec)) clockDurationsUptoCard

/-- THE SECOND FORM's CARD OF 'civiltimelaw04.ClockSums'. -/
def clockSumsUptoCard : Claim7 := { stood := { row := clockSumsUptoRow, standIns := [], harness := (true, "cac3a49f99d43b14a7333c52e02b09ba936cc5026c729cb67f8e4dbe8cdd5664"), looks := true }, kinds := [], alts := [], laidByText := true, laidKinds := [.data, .data, .data, .data], laidTests := true, laidLooks := .later }
def ClockSumsUptoCardSaid : Prop := Claim7.holds Tryd.pinned (.plain (OpenSpec.upto clockSumsSpec)) clockSumsUptoCard

/-- THE SECOND FORM's CARD OF 'civiltimelaw04.ClockRounds'. -/
def clockRoundsUptoCard : Claim7 := { stood := { row := clockRoundsUptoRow, standIns := [], harness := (true, "cac3a49f99d43b14a7333c52e02b09ba936cc5026c729cb67f8e4dbe8cdd5664"), looks := true }, kinds := [], alts := [], laidByText := true, laidKinds := [.data, .data, .data, .data], laidTests := true, laidLooks := .later }
def ClockRoundsUptoCardSaid : Prop := Claim7.holds Tryd.pinned (.plain (OpenSpec.upto clockRoundsSpec)) clockRoundsUptoCard

/-- THE SECOND FORM's CARD OF 'civiltimelaw04.ClockNear'. -/
def clockNearUptoCard : Claim7 := { stood := { row := clockNearUptoRow, standIns := [], harness := (true, "cac3a49f99d43b14a7333c52e02b09ba936cc5026c729cb67f8e4dbe8cdd5664"), looks := true }, kinds := [], alts := [], laidByText := true, laidKinds := [.data, .data, .data, .data], laidTests := true, laidLooks := .later }
def ClockNearUptoCardSaid : Prop := Claim7.holds Tryd.pinned (.plain (OpenSpec.upto clockNearSpec)) clockNearUptoCard

/-- THE SECOND FORM's CARD OF 'civiltimelaw04.ClockOrder'. -/
def clockOrderUptoCard : Claim7 := { stood := { row := clockOrderUptoRow, standIns := [], harness := (true, "cac3a49f99d43b14a7333c52e02b09ba936cc5026c729cb67f8e4dbe8cdd5664"), looks := true }, kinds := [], alts := [], laidByText := true, laidKinds := [.data, .data, .data, .data], laidTests := true, laidLooks := .later }
def ClockOrderUptoCardSaid : Prop := Claim7.holds Tryd.pinned (.plain (OpenSpec.upto clockOrderSpec)) clockOrderUptoCard

/-- THE SECOND FORM's CARD OF 'civiltimelaw04.ClockTexts'. -/
def clockTextsUptoCard : Claim7 := { stood := { row := clockTextsUptoRow, standIns := [], harness := (true, "cac3a49f99d43b14a7333c52e02b09ba936cc5026c729cb67f8e4dbe8cdd5664"), looks := true }, kinds := [], alts := [], laidByText := true, laidKinds := [.data, .data, .data, .sentinel, .sentinel, .data], laidTests := true, laidLooks := .later }
def ClockTextsUptoCardSaid : Prop := Claim7.holds Tryd.pinned (.plain (OpenSpec.upto clockTextsSpec)) clockTextsUptoCard
end Rows
end Go.Proofs.YtplckoffiebibaaDoor
