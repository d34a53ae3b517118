/-
  WORDS: what formula.Parse answers.
-/
import Derived.Test.YtfffalfnjficaaaDoorParseSpec
import Derived.Test.YtfffalfnjficaaaDoorOk
namespace Go.Proofs.YtfffalfnjficaaaDoor
open Go.RowKit

def zeroV : Value := .agg #[.int .i64 0, .int .i64 0, .slice none 0 0, .slice none 0 0]
/-- What Parse answers. -/
def ParseRet (w : World) (s : List UInt8) (e : Ending) (w' : World) : Prop :=
  Below w.heap.size w w' ∧ ((∃ f v, ParseR s (.ok f) ∧ validF f = 0 ∧ e = .returned (.tuple #[v, .int .i64 0, .int .i64 0]) ∧ IsForm w' v f) ∨
    (∃ f, ParseR s (.ok f) ∧ validF f ≠ 0 ∧ e = .returned (.tuple #[zeroV, .int .i64 (validF f), .int .i64 0])) ∨
    (∃ k, ParseR s (.bad k) ∧ e = .returned (.tuple #[zeroV, .int .i64 3, .int .i64 (k : Int)])))
end Go.Proofs.YtfffalfnjficaaaDoor
