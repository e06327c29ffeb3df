/-
  DERIVED. GIVEN WITH THE SEED: THE CARDS: each row of YtbagbnceiadpdaaDoorRows.lean that lists a variable, with what it lists TIED to the program's text (the seventh form; the later family's looks); each row that meets fmt, with fmt's text TOLD by the authors' own Lean function (tested against real Go, not proved from fmt's source: count such statements apart). THE CARD IS WHAT COUNTS. Prove the row's statement (the work); the ties are given (YtbagbnceiadpdaaDoorTie.lean); close each card by the builder's one call (the guide's Derived/Test/ToyasCard.lean, 'card_holds'). Laid BY PROGRAM, IN A SANDBOX (cutbox-door.mjs). By AI agents, Wed Nov 11 2026. No macro, syntax, notation, axiom, sorry.
-/
import Derived.Test.YtbagbnceiadpdaaDoorRows
import GoSem.ClaimSeven
namespace Go.Proofs.YtbagbnceiadpdaaDoor
namespace Rows

/-- THE TIED CARD OF 'civiltimelaw55.LocaleRules'. -/
def localeRulesCard : Claim7 := { stood := { row := localeRulesRow, standIns := [], harness := (true, "32120d220139c7f83827894fdce3fa6a278ede8c691614c52348cfa72d1e1461"), looks := true }, kinds := [], alts := [], laidByText := true, laidKinds := [.data, .data, .data, .data, .sentinel, .sentinel, .pinned], laidTests := true, laidLooks := .later }
def LocaleRulesCardSaid : Prop := Claim7.holds Tryd.pinned (.plain (OpenSpec.ofChange localeRulesSpec)) localeRulesCard

/-- THE TIED CARD OF 'civiltimelaw55.LocalePeriodic'. -/
def localePeriodicCard : Claim7 := { stood := { row := localePeriodicRow, standIns := [], harness := (true, "32120d220139c7f83827894fdce3fa6a278ede8c691614c52348cfa72d1e1461"), looks := true }, kinds := [], alts := [], laidByText := true, laidKinds := [.data, .data, .data, .data, .sentinel, .sentinel, .pinned], laidTests := true, laidLooks := .later }
def LocalePeriodicCardSaid : Prop := Claim7.holds Tryd.pinned (.plain (OpenSpec.ofChange localePeriodicSpec)) localePeriodicCard

/-- THE TIED CARD OF 'civiltimelaw55.LocaleLogic'. -/
def localeLogicCard : Claim7 := { stood := { row := localeLogicRow, standIns := [], harness := (true, "32120d220139c7f83827894fdce3fa6a278ede8c691614c52348cfa72d1e1461"), looks := true }, kinds := [], alts := [], laidByText := true, laidKinds := [.data, .data, .data, .data, .sentinel, .sentinel, .pinned], laidTests := true, laidLooks := .later }
def LocaleLogicCardSaid : Prop := Claim7.holds Tryd.pinned (.plain (OpenSpec.ofChange localeLogicSpec)) localeLogicCard

/-- THE SECOND FORM's CARD OF 'civiltimelaw55.LocaleRules'. -/
def localeRulesUptoCard : Claim7 := { stood := { row := localeRulesUptoRow, standIns := [], harness := (true, "32120d220139c7f83827894fdce3fa6a278ede8c691614c52348cfa72d1e1461"), looks := true }, kinds := [], alts := [], laidByText := true, laidKinds := [.data, .data, .data, .data, .sentinel, .sentinel, .pinned], laidTests := true, laidLooks := .later }
def LocaleRulesUptoCardSaid : Prop := Claim7.holds Tryd.pinned (.plain (OpenSpec.upto localeRulesSpec)) localeRulesUptoCard

/-- THE SECOND FORM's CARD OF 'civiltimelaw55.LocalePeriodic'. -/
def localePeriodicUptoCard : Claim7 := { stood := { row := localePeriodicUptoRow, standIns := [], harness := (true, "32120d220139c7f83827894fdce3fa6a278ede8c691614c52348cfa72d1e1461"), looks := true }, kinds := [], alts := [], laidByText := true, laidKinds := [.data, .data, .data, .data, .sentinel, .sentinel, .pinned], laidTests := true, laidLooks := .later }
def LocalePeriodicUptoCardSaid : Prop := Claim7.holds Tryd.pinned (.plain (OpenSpec.upto localePeriodicSpec)) localePeriodicUptoCard

/-- THE SECOND FORM's CARD OF 'civiltimelaw55.LocaleLogic'. -/
def localeLogicUptoCard : Claim7 := { stood := { row := localeLogicUptoRow, standIns := [], harness := (true, "32120d220139c7f83827894fdce3fa6a278ede8c691614c52348cfa72d1e1461"), looks := true }, kinds := [], alts := [], laidByText := true, laidKinds := [.data, .data, .data, .data, .sentinel, .sentinel, .pinned], laidTests := true, laidLooks := .later }
def LocaleLogicUptoCardSaid : Prop := Claim7.holds Tryd.pinned (.plain (OpenSpec.upto localeLogicSpec)) localeLogicUptoCard
end Rows
end Go.Proofs.YtbagbnceiadpdaaDoor
