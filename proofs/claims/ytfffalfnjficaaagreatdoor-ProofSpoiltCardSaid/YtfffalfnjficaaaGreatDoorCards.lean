/-
  DERIVED. GIVEN WITH THE SEED: THE CARDS: each row of YtfffalfnjficaaaGreatDoorRows.lean that lists a variable, with what it lists TIED to the program's text (the seventh form; the later family's looks); each row that meets fmt, with fmt's text TOLD by the authors' own Lean function (tested against real Go, not proved from fmt's source: count such statements apart). THE CARD IS WHAT COUNTS. Prove the row's statement (the work); the ties are given (YtfffalfnjficaaaGreatDoorTie.lean); close each card by the builder's one call (the guide's Derived/Test/ToyasCard.lean, 'card_holds'). Laid BY PROGRAM, IN A SANDBOX (cutbox-door.mjs). By AI agents, Wed Nov 11 2026. No macro, syntax, notation, axiom, sorry.
-/
import Derived.Test.YtfffalfnjficaaaGreatDoorRows
import GoSem.ClaimSeven
namespace Go.Proofs.YtfffalfnjficaaaGreatDoor
namespace Rows

/-- THE TIED CARD OF 'interleavelaw33.ProofSpoilt'. -/
def proofSpoiltCard : Claim7 := { stood := { row := proofSpoiltRow, standIns := [], harness := (true, "adb44b65245111dba250ec2dc4f2aeb18fcf485b83b50c07896314e45496b5c7"), looks := true }, kinds := [], alts := [], laidByText := true, laidKinds := [.data, .data, .data, .data, .sentinel, .sentinel, .pinned], laidTests := true, laidLooks := .later }
def ProofSpoiltCardSaid : Prop := Claim7.holds Tryz.pinned (.plain (OpenSpec.ofChange proofSpoiltSpec)) proofSpoiltCard

/-- THE TIED CARD OF 'interleavelaw33.ProofRoundTrip'. -/
def proofRoundTripCard : Claim7 := { stood := { row := proofRoundTripRow, standIns := [], harness := (true, "adb44b65245111dba250ec2dc4f2aeb18fcf485b83b50c07896314e45496b5c7"), looks := true }, kinds := [], alts := [], laidByText := true, laidKinds := [.data, .data, .data, .data, .sentinel, .sentinel, .pinned], laidTests := true, laidLooks := .later }
def ProofRoundTripCardSaid : Prop := Claim7.holds Tryz.pinned (.plain (OpenSpec.ofChange proofRoundTripSpec)) proofRoundTripCard

/-- THE SECOND FORM's CARD OF 'interleavelaw33.ProofSpoilt'. -/
def proofSpoiltUptoCard : Claim7 := { stood := { row := proofSpoiltUptoRow, standIns := [], harness := (true, "adb44b65245111dba250ec2dc4f2aeb18fcf485b83b50c07896314e45496b5c7"), looks := true }, kinds := [], alts := [], laidByText := true, laidKinds := [.data, .data, .data, .data, .sentinel, .sentinel, .pinned], laidTests := true, laidLooks := .later }
def ProofSpoiltUptoCardSaid : Prop := Claim7.holds Tryz.pinned (.plain (OpenSpec.upto proofSpoiltSpec)) proofSpoiltUptoCard

/-- THE SECOND FORM's CARD OF 'interleavelaw33.ProofRoundTrip'. -/
def proofRoundTripUptoCard : Claim7 := { stood := { row := proofRoundTripUptoRow, standIns := [], harness := (true, "adb44b65245111dba250ec2dc4f2aeb18fcf485b83b50c07896314e45496b5c7"), looks := true }, kinds := [], alts := [], laidByText := true, laidKinds := [.data, .data, .data, .data, .sentinel, .sentinel, .pinned], laidTests := true, laidLooks := .later }
def ProofRoundTripUptoCardSaid : Prop := Claim7.holds Tryz.pinned (.plain (OpenSpec.upto proofRoundTripSpec)) proofRoundTripUptoCard
end Rows
end Go.Proofs.YtfffalfnjficaaaGreatDoor
