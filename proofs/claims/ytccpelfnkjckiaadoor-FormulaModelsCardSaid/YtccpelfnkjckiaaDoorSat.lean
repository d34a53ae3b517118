/-
  WALKS: formula.Satisfies and interleaveref31.Satisfies.
-/
import Derived.Test.YtccpelfnkjckiaaDoorSatF
import Derived.Test.YtccpelfnkjckiaaDoorSatR
namespace Go.Proofs.YtccpelfnkjckiaaDoor
open Go.RowKit

end Go.Proofs.YtccpelfnkjckiaaDoor
