/-
  WORDS: what the reading of a text of steps answers.
-/
import Derived.Test.YtfffalfnjficaaaDoorPStep
import Derived.Test.YtfffalfnjficaaaDoorOwnStps
namespace Go.Proofs.YtfffalfnjficaaaDoor
open Go.RowKit

/-- What the reading of a text of steps answers. -/
def StepsEnd (w : World) (s : List UInt8) (e : Ending) (w' : World) : Prop :=
  Below w.heap.size w w' ∧ ((∃ l v, RunP [] 1 s (.ok l) ∧ e = .returned (.tuple #[v, .int .i64 0, .int .i64 0]) ∧ Stps w' v l) ∨ (∃ k, RunP [] 1 s (.bad k) ∧ e = .returned (.tuple #[.slice none 0 0, .int .i64 3, .int .i64 (k : Int)])))
theorem info_stepP : (Tryd.prog.info? 81).map (fun i => (i.zero, i.size, i.bytes)) = some (some (.agg #[.int .i64 0, .int .i64 0, .slice none 0 0, .int .i64 0, .int .i64 0, .int .i64 0]), 6, 64) := by kernel_rfl
end Go.Proofs.YtfffalfnjficaaaDoor
