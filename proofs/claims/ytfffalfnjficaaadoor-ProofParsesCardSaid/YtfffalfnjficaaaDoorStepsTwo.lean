/-
  PLAIN LAW: two readings of one text of steps answer alike.
-/
import Derived.Test.YtfffalfnjficaaaDoorStepsEnd
namespace Go.Proofs.YtfffalfnjficaaaDoor
open Go.RowKit

/-- What a text is read as: steps, an error, a line. -/
def StepsIs (s : List UInt8) (l : List Stp) (er ln : Int) : Prop := (RunP [] 1 s (.ok l) ∧ er = 0 ∧ ln = 0) ∨ ∃ k : Nat, RunP [] 1 s (.bad k) ∧ l = [] ∧ er = 3 ∧ ln = k
theorem StepsEnd.shape {w w1 : World} {s : List UInt8} {e : Ending} (h : StepsEnd w s e w1) : ∃ l A n c er ln, e = .returned (.tuple #[.slice A n c, .int .i64 er, .int .i64 ln]) ∧ Stps w1 (.slice A n c) l ∧ StepsIs s l er ln := by
  obtain ⟨-, h⟩ := h
  rcases h with ⟨l, v, p1, rfl, h1⟩ | ⟨k, p1, rfl⟩
  · have h2 := h1
    obtain ⟨A, c, ps, -, rfl, -, -, -, -⟩ := h2
    exact ⟨l, A, ps.length, c, 0, 0, rfl, h1, .inl ⟨p1, rfl, rfl⟩⟩
  · exact ⟨[], none, 0, 0, 3, _, rfl, (OwnStps.nil w1 0 (fun _ => True)).stps, .inr ⟨k, p1, rfl, rfl, rfl⟩⟩
theorem StepsIs.fn {s : List UInt8} {l l' : List Stp} {er ln er' ln' : Int} (h1 : StepsIs s l er ln) (h2 : StepsIs s l' er' ln') : l' = l ∧ er' = er ∧ ln' = ln := by
  rcases h1 with ⟨p1, rfl, rfl⟩ | ⟨k, p1, rfl, rfl, rfl⟩ <;> rcases h2 with ⟨p2, rfl, rfl⟩ | ⟨k', p2, rfl, rfl, rfl⟩
  · have e := p1.fn p2; injection e with e
    exact ⟨e.symm, rfl, rfl⟩
  · have e := p1.fn p2; cases e
  · have e := p1.fn p2; cases e
  · have e := p1.fn p2; injection e with e; subst e
    exact ⟨rfl, rfl, rfl⟩
end Go.Proofs.YtfffalfnjficaaaDoor
