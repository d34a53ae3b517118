/-
  PLAIN LAW: two readings of one text answer alike.
-/
import Derived.Test.YtfffalfnjficaaaDoorParseRet
namespace Go.Proofs.YtfffalfnjficaaaDoor
open Go.RowKit

/-- The empty formula. -/
def form0 : Form := ⟨0, 0, [], []⟩
theorem form0_at (w : World) : IsForm w zeroV form0 := by
  refine ⟨_, _, rfl, ?_, ?_, ?_, ?_⟩
  · show I64 0; unfold I64; omega
  · show I64 0; unfold I64; omega
  · exact ⟨none, 0, rfl, by simp [form0], by unfold maxLen; omega, by simp [form0], Rd.nil _ _⟩
  · exact ⟨none, 0, [], rfl, by simp [form0], by unfold maxLen; omega, rfl, Rd.nil _ _, by intro k u xs h; simp at h⟩
/-- What a text is read as: a formula, an error, a line. -/
def ParseIs (s : List UInt8) (f : Form) (er ln : Int) : Prop :=
  (ParseR s (.ok f) ∧ validF f = 0 ∧ er = 0 ∧ ln = 0) ∨ (∃ g, ParseR s (.ok g) ∧ validF g ≠ 0 ∧ f = form0 ∧ er = validF g ∧ ln = 0) ∨ (∃ k : Nat, ParseR s (.bad k) ∧ f = form0 ∧ er = 3 ∧ ln = k)
theorem ParseRet.shape {w w1 : World} {s : List UInt8} {e : Ending} (h : ParseRet w s e w1) : ∃ f a er ln, e = .returned (.tuple #[a, .int .i64 er, .int .i64 ln]) ∧ IsForm w1 a f ∧ ParseIs s f er ln := by
  obtain ⟨-, h⟩ := h
  rcases h with ⟨f, v, p1, v1, rfl, i1⟩ | ⟨f, p1, v1, rfl⟩ | ⟨k, p1, rfl⟩
  · exact ⟨f, v, 0, 0, rfl, i1, .inl ⟨p1, v1, rfl, rfl⟩⟩
  · exact ⟨form0, zeroV, _, 0, rfl, form0_at _, .inr (.inl ⟨f, p1, v1, rfl, rfl, rfl⟩)⟩
  · exact ⟨form0, zeroV, 3, _, rfl, form0_at _, .inr (.inr ⟨k, p1, rfl, rfl, rfl⟩)⟩
theorem ParseIs.fn {s : List UInt8} {f f' : Form} {er ln er' ln' : Int} (h1 : ParseIs s f er ln) (h2 : ParseIs s f' er' ln') : f' = f ∧ er' = er ∧ ln' = ln := by
  rcases h1 with ⟨p1, v1, rfl, rfl⟩ | ⟨g, p1, v1, rfl, rfl, rfl⟩ | ⟨k, p1, rfl, rfl, rfl⟩ <;> rcases h2 with ⟨p2, v2, rfl, rfl⟩ | ⟨g', p2, v2, rfl, rfl, rfl⟩ | ⟨k', p2, rfl, rfl, rfl⟩
  · have e := p1.fn p2; injection e with e
    exact ⟨e.symm, rfl, rfl⟩
  · have e := p1.fn p2; injection e with e; subst e
    exact absurd v1 v2
  · have e := p1.fn p2; cases e
  · have e := p1.fn p2; injection e with e; subst e
    exact absurd v2 v1
  · have e := p1.fn p2; injection e with e; subst e
    exact ⟨rfl, rfl, rfl⟩
  · have e := p1.fn p2; cases e
  · have e := p1.fn p2; cases e
  · have e := p1.fn p2; cases e
  · have e := p1.fn p2; injection e with e; subst e
    exact ⟨rfl, rfl, rfl⟩
end Go.Proofs.YtfffalfnjficaaaDoor
