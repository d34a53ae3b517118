/-
  DERIVED. GIVEN WITH THE SEED: THE CARDS: each row of YtmnjmegejaejlaaDoorRows.lean that lists a variable, with what it lists TIED to the program's text (the seventh form; the later family's looks); each row that meets fmt, with fmt's text TOLD by the authors' own Lean function (tested against real Go, not proved from fmt's source: count such statements apart). THE CARD IS WHAT COUNTS. Prove the row's statement (the work); the ties are given (YtmnjmegejaejlaaDoorTie.lean); close each card by the builder's one call (the guide's Derived/Test/ToyasCard.lean, 'card_holds'). Laid BY PROGRAM, IN A SANDBOX (cutbox-door.mjs). By AI agents, Wed Nov 11 2026. No macro, syntax, notation, axiom, sorry.
-/
import Derived.Test.YtmnjmegejaejlaaDoorRows
import GoSem.ClaimSeven
namespace Go.Proofs.YtmnjmegejaejlaaDoor
namespace Rows

/-- THE TIED CARD OF 'interleavelaw16.TraceReads'. -/
def traceReadsCard : Claim7 := { stood := { row := traceReadsRow, standIns := [], harness := (true, "8cedec3833feeab8380aba1aba1af5cb6f3cfda759fd4b37d3d9c88dcd33013e"), looks := true }, kinds := [], alts := [], laidByText := true, laidKinds := [.data, .data, .data, .data, .sentinel, .sentinel, .data, .data, .pinned], laidTests := true, laidLooks := .later }
def TraceReadsCardSaid : Prop := Claim7.holds Tryd.pinned (.plain (OpenSpec.ofChange traceReadsSpec)) traceReadsCard

/-- THE TIED CARD OF 'interleavelaw16.TraceTells'. -/
def traceTellsCard : Claim7 := { stood := { row := traceTellsRow, standIns := [], harness := (true, "8cedec3833feeab8380aba1aba1af5cb6f3cfda759fd4b37d3d9c88dcd33013e"), looks := true }, kinds := [], alts := [], laidByText := true, laidKinds := [.data, .data, .data, .data, .sentinel, .sentinel, .data, .data, .pinned], laidTests := true, laidLooks := .later }
def TraceTellsCardSaid : Prop := Claim7.holds Tryd.pinned (.plain (OpenSpec.ofChange traceTellsSpec)) traceTellsCard

/-- THE TIED CARD OF 'interleavelaw16.TraceRoundTrip'. -/
def traceRoundTripCard : Claim7 := { stood := { row := traceRoundTripRow, standIns := [], harness := (true, "8cedec3833feeab8380aba1aba1af5cb6f3cfda759fd4b37d3d9c88dcd33013e"), looks := true }, kinds := [], alts := [], laidByText := true, laidKinds := [.data, .data, .data, .data, .sentinel, .sentinel, .data, .data, .pinned], laidTests := true, laidLooks := .later }
def TraceRoundTripCardSaid : Prop := Claim7.holds Tryd.pinned (.plain (OpenSpec.ofChange traceRoundTripSpec)) traceRoundTripCard

/-- THE SECOND FORM's CARD OF 'interleavelaw16.TraceReads'. -/
def traceReadsUptoCard : Claim7 := { stood := { row := traceReadsUptoRow, standIns := [], harness := (true, "8cedec3833feeab8380aba1aba1af5cb6f3cfda759fd4b37d3d9c88dcd33013e"), looks := true }, kinds := [], alts := [], laidByText := true, laidKinds := [.data, .data, .data, .data, .sentinel, .sentinel, .data, .data, .pinned], laidTests := true, laidLooks := .later }
def TraceReadsUptoCardSaid : Prop := Claim7.holds Tryd.pinned (.plain (OpenSpec.upto traceReadsSpec)) traceReadsUptoCard

/-- THE SECOND FORM's CARD OF 'interleavelaw16.TraceTells'. -/
def traceTellsUptoCard : Claim7 := { stood := { row := traceTellsUptoRow, standIns := [], harness := (true, "8cedec3833feeab8380aba1aba1af5cb6f3cfda759fd4b37d3d9c88dcd33013e"), looks := true }, kinds := [], alts := [], laidByText := true, laidKinds := [.data, .data, .data, .data, .sentinel, .sentinel, .data, .data, .pinned], laidTests := true, laidLooks := .later }
def TraceTellsUptoCardSaid : Prop := Claim7.holds Tryd.pinned (.plain (OpenSpec.upto traceTellsSpec)) traceTellsUptoCard

/-- THE SECOND FORM's CARD OF 'interleavelaw16.TraceRoundTrip'. -/
def traceRoundTripUptoCard : Claim7 := { stood := { row := traceRoundTripUptoRow, standIns := [], harness := (true, "8cedec3833feeab8380aba1aba1af5cb6f3cfda759fd4b37d3d9c88dcd33013e"), looks := true }, kinds := [], alts := [], laidByText := true, laidKinds := [.data, .data, .data, .data, .sentinel, .sentinel, .data, .data, .pinned], laidTests := true, laidLooks := .later }
def TraceRoundTripUptoCardSaid : Prop := Claim7.holds Tryd.pinned (.plain (OpenSpec.upto traceRoundTripSpec)) traceRoundTripUptoCard
end Rows
end Go.Proofs.YtmnjmegejaejlaaDoor
