/-
  DERIVED. GIVEN WITH THE SEED: THE CARDS: each row of YtccpelfnkjckiaaDoorRows.lean that lists a variable, with what it lists TIED to the program's text (the seventh form; the later family's looks); each row that meets fmt, with fmt's text TOLD by the authors' own Lean function (tested against real Go, not proved from fmt's source: count such statements apart). THE CARD IS WHAT COUNTS. Prove the row's statement (the work); the ties are given (YtccpelfnkjckiaaDoorTie.lean); close each card by the builder's one call (the guide's Derived/Test/ToyasCard.lean, 'card_holds'). Laid BY PROGRAM, IN A SANDBOX (cutbox-door.mjs). By AI agents, Wed Nov 11 2026. No macro, syntax, notation, axiom, sorry.
-/
import Derived.Test.YtccpelfnkjckiaaDoorRows
import GoSem.ClaimSeven
namespace Go.Proofs.YtccpelfnkjckiaaDoor
namespace Rows

/-- THE TIED CARD OF 'interleavelaw31.FormulaModels'. -/
def formulaModelsCard : Claim7 := { stood := { row := formulaModelsRow, standIns := [], harness := (true, "5cc6bffd9613edb62b16358f1ad8081262115fdfdb3bce30cfc66483622393a6"), looks := false }, kinds := [], alts := [], laidByText := true, laidKinds := [.data, .data, .data], laidTests := true, laidLooks := .later }
def FormulaModelsCardSaid : Prop := Claim7.holds Tryd.pinned (.plain (OpenSpec.ofChange formulaModelsSpec)) formulaModelsCard

/-- THE TIED CARD OF 'interleavelaw39.ReportScores'. -/
def reportScoresCard : Claim7 := { stood := { row := reportScoresRow, standIns := [], harness := (true, "5cc6bffd9613edb62b16358f1ad8081262115fdfdb3bce30cfc66483622393a6"), looks := false }, kinds := [], alts := [], laidByText := true, laidKinds := [.data, .data, .data, .data], laidTests := true, laidLooks := .later }
def ReportScoresCardSaid : Prop := Claim7.holds Tryd.pinned (.plain (OpenSpec.ofChange reportScoresSpec)) reportScoresCard

/-- THE TIED CARD OF 'interleavelaw39.ReportGroups'. -/
def reportGroupsCard : Claim7 := { stood := { row := reportGroupsRow, standIns := [], harness := (true, "5cc6bffd9613edb62b16358f1ad8081262115fdfdb3bce30cfc66483622393a6"), looks := false }, kinds := [], alts := [], laidByText := true, laidKinds := [.data, .data, .data, .data], laidTests := true, laidLooks := .later }
def ReportGroupsCardSaid : Prop := Claim7.holds Tryd.pinned (.plain (OpenSpec.ofChange reportGroupsSpec)) reportGroupsCard

/-- THE TIED CARD OF 'interleavelaw39.ReportAny'. -/
def reportAnyCard : Claim7 := { stood := { row := reportAnyRow, standIns := [], harness := (true, "5cc6bffd9613edb62b16358f1ad8081262115fdfdb3bce30cfc66483622393a6"), looks := false }, kinds := [], alts := [], laidByText := true, laidKinds := [.data, .data, .data, .data], laidTests := true, laidLooks := .later }
def ReportAnyCardSaid : Prop := Claim7.holds Tryd.pinned (.plain (OpenSpec.ofChange reportAnySpec)) reportAnyCard

/-- THE TIED CARD OF 'interleavelaw39.ReportLess'. -/
def reportLessCard : Claim7 := { stood := { row := reportLessRow, standIns := [], harness := (true, "5cc6bffd9613edb62b16358f1ad8081262115fdfdb3bce30cfc66483622393a6"), looks := false }, kinds := [], alts := [], laidByText := true, laidKinds := [.data, .data, .data, .data], laidTests := true, laidLooks := .later }
def ReportLessCardSaid : Prop := Claim7.holds Tryd.pinned (.plain (OpenSpec.ofChange reportLessSpec)) reportLessCard

/-- THE TIED CARD OF 'interleavelaw39.ReportFormats'. -/
def reportFormatsCard : Claim7 := { stood := { row := reportFormatsRow, standIns := [], harness := (true, "5cc6bffd9613edb62b16358f1ad8081262115fdfdb3bce30cfc66483622393a6"), looks := false }, kinds := [], alts := [], laidByText := true, laidKinds := [.data, .data, .data, .data], laidTests := true, laidLooks := .later }
def ReportFormatsCardSaid : Prop := Claim7.holds Tryd.pinned (.plain (OpenSpec.ofChange reportFormatsSpec)) reportFormatsCard

/-- THE TIED CARD OF 'interleavelaw39.ReportScenes'. -/
def reportScenesCard : Claim7 := { stood := { row := reportScenesRow, standIns := [], harness := (true, "5cc6bffd9613edb62b16358f1ad8081262115fdfdb3bce30cfc66483622393a6"), looks := false }, kinds := [], alts := [], laidByText := true, laidKinds := [.data, .data, .data, .data], laidTests := true, laidLooks := .later }
def ReportScenesCardSaid : Prop := Claim7.holds Tryd.pinned (.plain (OpenSpec.ofChange reportScenesSpec)) reportScenesCard

/-- THE TIED CARD OF 'interleavelaw39.ReportCounts'. -/
def reportCountsCard : Claim7 := { stood := { row := reportCountsRow, standIns := [], harness := (true, "5cc6bffd9613edb62b16358f1ad8081262115fdfdb3bce30cfc66483622393a6"), looks := false }, kinds := [], alts := [], laidByText := true, laidKinds := [.data, .data, .data, .data], laidTests := true, laidLooks := .later }
def ReportCountsCardSaid : Prop := Claim7.holds Tryd.pinned (.plain (OpenSpec.ofChange reportCountsSpec)) reportCountsCard

/-- THE TIED CARD OF 'interleavelaw39.ReportOrders'. -/
def reportOrdersCard : Claim7 := { stood := { row := reportOrdersRow, standIns := [], harness := (true, "5cc6bffd9613edb62b16358f1ad8081262115fdfdb3bce30cfc66483622393a6"), looks := false }, kinds := [], alts := [], laidByText := true, laidKinds := [.data, .data, .data, .data], laidTests := true, laidLooks := .later }
def ReportOrdersCardSaid : Prop := Claim7.holds Tryd.pinned (.plain (OpenSpec.ofChange reportOrdersSpec)) reportOrdersCard

/-- THE SECOND FORM's CARD OF 'interleavelaw31.FormulaModels'. -/
def formulaModelsUptoCard : Claim7 := { stood := { row := formulaModelsUptoRow, standIns := [], harness := (true, "5cc6bffd9613edb62b16358f1ad8081262115fdfdb3bce30cfc66483622393a6"), looks := false }, kinds := [], alts := [], laidByText := true, laidKinds := [.data, .data, .data], laidTests := true, laidLooks := .later }
def FormulaModelsUptoCardSaid : Prop := Claim7.holds Tryd.pinned (.plain (OpenSpec.upto formulaModelsSpec)) formulaModelsUptoCard

/-- THE SECOND FORM's CARD OF 'interleavelaw39.ReportScores'. -/
def reportScoresUptoCard : Claim7 := { stood := { row := reportScoresUptoRow, standIns := [], harness := (true, "5cc6bffd9613edb62b16358f1ad8081262115fdfdb3bce30cfc66483622393a6"), looks := false }, kinds := [], alts := [], laidByText := true, laidKinds := [.data, .data, .data, .data], laidTests := true, laidLooks := .later }
def ReportScoresUptoCardSaid : Prop := Claim7.holds Tryd.pinned (.plain (OpenSpec.upto reportScoresSpec)) reportScoresUptoCard

/-- THE SECOND FORM's CARD OF 'interleavelaw39.ReportGroups'. -/
def reportGroupsUptoCard : Claim7 := { stood := { row := reportGroupsUptoRow, standIns := [], harness := (true, "5cc6bffd9613edb62b16358f1ad8081262115fdfdb3bce30cfc66483622393a6"), looks := false }, kinds := [], alts := [], laidByText := true, laidKinds := [.data, .data, .data, .data], laidTests := true, laidLooks := .later }
def ReportGroupsUptoCardSaid : Prop := Claim7.holds Tryd.pinned (.plain (OpenSpec.upto reportGroupsSpec)) reportGroupsUptoCard

/-- THE SECOND FORM's CARD OF 'interleavelaw39.ReportAny'. -/
def reportAnyUptoCard : Claim7 := { stood := { row := reportAnyUptoRow, standIns := [], harness := (true, "5cc6bffd9613edb62b16358f1ad8081262115fdfdb3bce30cfc66483622393a6"), looks := false }, kinds := [], alts := [], laidByText := true, laidKinds := [.data, .data, .data, .data], laidTests := true, laidLooks := .later }
def ReportAnyUptoCardSaid : Prop := Claim7.holds Tryd.pinned (.plain (OpenSpec.upto reportAnySpec)) reportAnyUptoCard

/-- THE SECOND FORM's CARD OF 'interleavelaw39.ReportLess'. -/
def reportLessUptoCard : Claim7 := { stood := { row := reportLessUptoRow, standIns := [], harness := (true, "5cc6bffd9613edb62b16358f1ad8081262115fdfdb3bce30cfc66483622393a6"), looks := false }, kinds := [], alts := [], laidByText := true, laidKinds := [.data, .data, .data, .data], laidTests := true, laidLooks := .later }
def ReportLessUptoCardSaid : Prop := Claim7.holds Tryd.pinned (.plain (OpenSpec.upto reportLessSpec)) reportLessUptoCard

/-- THE SECOND FORM's CARD OF 'interleavelaw39.ReportFormats'. -/
def reportFormatsUptoCard : Claim7 := { stood := { row := reportFormatsUptoRow, standIns := [], harness := (true, "5cc6bffd9613edb62b16358f1ad8081262115fdfdb3bce30cfc66483622393a6"), looks := false }, kinds := [], alts := [], laidByText := true, laidKinds := [.data, .data, .data, .data], laidTests := true, laidLooks := .later }
def ReportFormatsUptoCardSaid : Prop := Claim7.holds Tryd.pinned (.plain (OpenSpec.upto reportFormatsSpec)) reportFormatsUptoCard

/-- THE SECOND FORM's CARD OF 'interleavelaw39.ReportScenes'. -/
def reportScenesUptoCard : Claim7 := { stood := { row := reportScenesUptoRow, standIns := [], harness := (true, "5cc6bffd9613edb62b16358f1ad8081262115fdfdb3bce30cfc66483622393a6"), looks := false }, kinds := [], alts := [], laidByText := true, laidKinds := [.data, .data, .data, .data], laidTests := true, laidLooks := .later }
def ReportScenesUptoCardSaid : Prop := Claim7.holds Tryd.pinned (.plain (OpenSpec.upto reportScenesSpec)) reportScenesUptoCard

/-- THE SECOND FORM's CARD OF 'interleavelaw39.ReportCounts'. -/
def reportCountsUptoCard : Claim7 := { stood := { row := reportCountsUptoRow, standIns := [], harness := (true, "5cc6bffd9613edb62b16358f1ad8081262115fdfdb3bce30cfc66483622393a6"), looks := false }, kinds := [], alts := [], laidByText := true, laidKinds := [.data, .data, .data, .data], laidTests := true, laidLooks := .later }
def ReportCountsUptoCardSaid : Prop := Claim7.holds Tryd.pinned (.plain (OpenSpec.upto reportCountsSpec)) reportCountsUptoCard

/-- THE SECOND FORM's CARD OF 'interleavelaw39.ReportOrders'. -/
def reportOrdersUptoCard : Claim7 := { stood := { row := reportOrdersUptoRow, standIns := [], harness := (true, "5cc6bffd9613edb62b16358f1ad8081262115fdfdb3bce30cfc66483622393a6"), looks := false }, kinds := [], alts := [], laidByText := true, laidKinds := [.data, .data, .data, .data], laidTests := true, laidLooks := .later }
def ReportOrdersUptoCardSaid : Prop := Claim7.holds Tryd.pinned (.plain (OpenSpec.upto reportOrdersSpec)) reportOrdersUptoCard
end Rows
end Go.Proofs.YtccpelfnkjckiaaDoor
