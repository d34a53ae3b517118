/-
  WORDS: the text of steps.
-/
import Derived.Test.YtfffalfnjficaaaDoorTextP
import Derived.Test.YtfffalfnjficaaaDoorDerive
namespace Go.Proofs.YtfffalfnjficaaaDoor
open Go.RowKit

/-- The words of the lines. -/
def wInput : List UInt8 := [105, 110, 112, 117, 116]
def wCycle : List UInt8 := [99, 121, 99, 108, 101]
def wResolve : List UInt8 := [114, 101, 115, 111, 108, 118, 101]
def wStep : List UInt8 := [115, 116, 101, 112]
def stepText (s : Stp) : List UInt8 := if s.kind = 1 then lineText wInput [s.index] else if s.kind = 2 then lineText wCycle s.lits else if s.kind = 3 then lineText wResolve [s.p, s.q, s.var] else lineText wStep [s.kind]
def stepsText (l : List Stp) : List UInt8 := l.flatMap stepText
theorem stepText_len (s : Stp) (h : s.ok) (hl : ∀ x ∈ s.lits, I64 x) : (stepText s).length ≤ 74 + 22 * s.lits.length := by
  obtain ⟨h1, h2, h3, h4, h5⟩ := h
  have e1 := lineText_len wInput [s.index] (by simp; exact h2)
  have e2 := lineText_len wCycle s.lits hl
  have e3 := lineText_len wResolve [s.p, s.q, s.var] (by simp; exact ⟨h3, h4, h5⟩)
  have e4 := lineText_len wStep [s.kind] (by simp; exact h1)
  simp only [wInput, wCycle, wResolve, wStep, List.length_cons, List.length_nil] at e1 e2 e3 e4
  unfold stepText
  simp only [wInput, wCycle, wResolve, wStep]
  split
  · omega
  · split
    · omega
    · split <;> omega
theorem stepsText_len (l : List Stp) (h : ∀ s ∈ l, s.ok ∧ (∀ x ∈ s.lits, I64 x) ∧ s.lits.length ≤ 1000) : (stepsText l).length ≤ 30000 * l.length := by
  induction l with
  | nil => simp [stepsText]
  | cons s r ih =>
    obtain ⟨k1, k2, k3⟩ := h s (by simp)
    have h1 := stepText_len s k1 k2
    have h2 := ih fun y hy => h y (by simp [hy])
    simp only [stepsText, List.flatMap_cons, List.length_append, List.length_cons] at h2 ⊢
    omega
theorem stepsText_succ {l : List Stp} {k : Nat} {s : Stp} (h : l[k]? = some s) : stepsText (l.take (k + 1)) = stepsText (l.take k) ++ stepText s := flatMap_take_succ h

end Go.Proofs.YtfffalfnjficaaaDoor
