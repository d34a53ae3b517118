/-
  DERIVED. GIVEN WITH THE SEED: THE CARDS: each row of YtfffalfnjficaaaDoorRows.lean that lists a variable, with what it lists TIED to the program's text (the seventh form; the later family's looks); each row that meets fmt, with fmt's text TOLD by the authors' own Lean function (tested against real Go, not proved from fmt's source: count such statements apart). THE CARD IS WHAT COUNTS. Prove the row's statement (the work); the ties are given (YtfffalfnjficaaaDoorTie.lean); close each card by the builder's one call (the guide's Derived/Test/ToyasCard.lean, 'card_holds'). Laid BY PROGRAM, IN A SANDBOX (cutbox-door.mjs). By AI agents, Wed Nov 11 2026. No macro, syntax, notation, axiom, sorry.
-/
import Derived.Test.YtfffalfnjficaaaDoorRows
import GoSem.ClaimSeven
namespace Go.Proofs.YtfffalfnjficaaaDoor
namespace Rows

/-- THE TIED CARD OF 'interleavelaw31.FormulaParses'. -/
def formulaParsesCard : Claim7 := { stood := { row := formulaParsesRow, standIns := [], harness := (true, "86b0d6dff154bd7135c54d9bfe46ccba56873ea0c13a94db8198120d1fa02bf7"), looks := true }, kinds := [], alts := [], laidByText := true, laidKinds := [.data, .data, .data, .data, .sentinel, .sentinel, .pinned], laidTests := true, laidLooks := .later }
def FormulaParsesCardSaid : Prop := Claim7.holds Tryd.pinned (.plain (OpenSpec.ofChange formulaParsesSpec)) formulaParsesCard

/-- THE TIED CARD OF 'interleavelaw31.FormulaSpoilt'. -/
def formulaSpoiltCard : Claim7 := { stood := { row := formulaSpoiltRow, standIns := [], harness := (true, "86b0d6dff154bd7135c54d9bfe46ccba56873ea0c13a94db8198120d1fa02bf7"), looks := true }, kinds := [], alts := [], laidByText := true, laidKinds := [.data, .data, .data, .data, .sentinel, .sentinel, .pinned], laidTests := true, laidLooks := .later }
def FormulaSpoiltCardSaid : Prop := Claim7.holds Tryd.pinned (.plain (OpenSpec.ofChange formulaSpoiltSpec)) formulaSpoiltCard

/-- THE TIED CARD OF 'interleavelaw31.FormulaRoundTrip'. -/
def formulaRoundTripCard : Claim7 := { stood := { row := formulaRoundTripRow, standIns := [], harness := (true, "86b0d6dff154bd7135c54d9bfe46ccba56873ea0c13a94db8198120d1fa02bf7"), looks := true }, kinds := [], alts := [], laidByText := true, laidKinds := [.data, .data, .data, .data, .sentinel, .sentinel, .pinned], laidTests := true, laidLooks := .later }
def FormulaRoundTripCardSaid : Prop := Claim7.holds Tryd.pinned (.plain (OpenSpec.ofChange formulaRoundTripSpec)) formulaRoundTripCard

/-- THE TIED CARD OF 'interleavelaw33.ProofParses'. -/
def proofParsesCard : Claim7 := { stood := { row := proofParsesRow, standIns := [], harness := (true, "86b0d6dff154bd7135c54d9bfe46ccba56873ea0c13a94db8198120d1fa02bf7"), looks := true }, kinds := [], alts := [], laidByText := true, laidKinds := [.data, .data, .data, .data, .sentinel, .sentinel, .pinned], laidTests := true, laidLooks := .later }
def ProofParsesCardSaid : Prop := Claim7.holds Tryd.pinned (.plain (OpenSpec.ofChange proofParsesSpec)) proofParsesCard

/-- THE SECOND FORM's CARD OF 'interleavelaw31.FormulaParses'. -/
def formulaParsesUptoCard : Claim7 := { stood := { row := formulaParsesUptoRow, standIns := [], harness := (true, "86b0d6dff154bd7135c54d9bfe46ccba56873ea0c13a94db8198120d1fa02bf7"), looks := true }, kinds := [], alts := [], laidByText := true, laidKinds := [.data, .data, .data, .data, .sentinel, .sentinel, .pinned], laidTests := true, laidLooks := .later }
def FormulaParsesUptoCardSaid : Prop := Claim7.holds Tryd.pinned (.plain (OpenSpec.upto formulaParsesSpec)) formulaParsesUptoCard

/-- THE SECOND FORM's CARD OF 'interleavelaw31.FormulaSpoilt'. -/
def formulaSpoiltUptoCard : Claim7 := { stood := { row := formulaSpoiltUptoRow, standIns := [], harness := (true, "86b0d6dff154bd7135c54d9bfe46ccba56873ea0c13a94db8198120d1fa02bf7"), looks := true }, kinds := [], alts := [], laidByText := true, laidKinds := [.data, .data, .data, .data, .sentinel, .sentinel, .pinned], laidTests := true, laidLooks := .later }
def FormulaSpoiltUptoCardSaid : Prop := Claim7.holds Tryd.pinned (.plain (OpenSpec.upto formulaSpoiltSpec)) formulaSpoiltUptoCard

/-- THE SECOND FORM's CARD OF 'interleavelaw31.FormulaRoundTrip'. -/
def formulaRoundTripUptoCard : Claim7 := { stood := { row := formulaRoundTripUptoRow, standIns := [], harness := (true, "86b0d6dff154bd7135c54d9bfe46ccba56873ea0c13a94db8198120d1fa02bf7"), looks := true }, kinds := [], alts := [], laidByText := true, laidKinds := [.data, .data, .data, .data, .sentinel, .sentinel, .pinned], laidTests := true, laidLooks := .later }
def FormulaRoundTripUptoCardSaid : Prop := Claim7.holds Tryd.pinned (.plain (OpenSpec.upto formulaRoundTripSpec)) formulaRoundTripUptoCard

/-- THE SECOND FORM's CARD OF 'interleavelaw33.ProofParses'. -/
def proofParsesUptoCard : Claim7 := { stood := { row := proofParsesUptoRow, standIns := [], harness := (true, "86b0d6dff154bd7135c54d9bfe46ccba56873ea0c13a94db8198120d1fa02bf7"), looks := true }, kinds := [], alts := [], laidByText := true, laidKinds := [.data, .data, .data, .data, .sentinel, .sentinel, .pinned], laidTests := true, laidLooks := .later }
def ProofParsesUptoCardSaid : Prop := Claim7.holds Tryd.pinned (.plain (OpenSpec.upto proofParsesSpec)) proofParsesUptoCard
end Rows
end Go.Proofs.YtfffalfnjficaaaDoor
