/-
  PLAIN: a formula's text is read as that formula.
-/
import Derived.Test.YtfffalfnjficaaaDoorParseSpec
import Derived.Test.YtfffalfnjficaaaDoorText
import Derived.Test.YtfffalfnjficaaaDoorNumsT
namespace Go.Proofs.YtfffalfnjficaaaDoor

theorem run_clauses (cs : List (List Int)) (h : ∀ c ∈ cs, ∀ x ∈ c, I64 x) : ∀ (f : Form) (k : Nat), RunR f k (cs.flatMap (lineText wClause)) (.ok { f with clauses := f.clauses ++ cs }) := by
  induction cs with
  | nil => intro f k; simpa using RunR.done f k
  | cons c r ih =>
    intro f k
    have hs : stepF f (wClause ++ numsText c) = some { f with clauses := f.clauses ++ [c] } := by
      rw [stepF_clause (h := wClause) (ps := c.map Lib.itoa) (pieces_nums c wClause (by decide)) (fun e => by have := e.1; revert this; decide), List.length_map, numsW_text wClause c (h c (by simp))]
      rfl
    have := ih (fun c' hc => h c' (by simp [hc])) { f with clauses := f.clauses ++ [c] } (k + 1)
    rw [List.flatMap_cons, line_split]
    refine .next rfl (line_not _ _ (by decide)) hs ?_
    simpa using this
theorem run_atoms (cs : List (List Int)) (h : ∀ c ∈ cs, ∀ x ∈ c, I64 x) (ats : List Diff) (ha : ∀ d ∈ ats, d.ok) : ∀ (f : Form) (k : Nat), f.clauses = [] → RunR f k (ats.flatMap (fun d => lineText wAtom [d.x, d.y, d.c]) ++ cs.flatMap (lineText wClause)) (.ok { f with atoms := f.atoms ++ ats, clauses := cs }) := by
  induction ats with
  | nil => intro f k hf; have := run_clauses cs h f k; simp only [hf, List.nil_append] at this; simpa using this
  | cons d r ih =>
    intro f k hf
    have hd := ha d (by simp)
    have hs : stepF f (wAtom ++ numsText [d.x, d.y, d.c]) = some { f with atoms := f.atoms ++ [d] } := by
      rw [stepF_atom (h := wAtom) (pieces_nums [d.x, d.y, d.c] wAtom (by decide)) rfl hf, show (3 : Nat) = [d.x, d.y, d.c].length from rfl, numsW_text wAtom [d.x, d.y, d.c] (by intro x hx; simp at hx; rcases hx with rfl | rfl | rfl <;> first | exact hd.1 | exact hd.2.1 | exact hd.2.2)]
      rfl
    have := ih (fun d' hd' => ha d' (by simp [hd'])) { f with atoms := f.atoms ++ [d] } (k + 1) hf
    rw [List.flatMap_cons, List.append_assoc, line_split]
    refine .next rfl (line_not _ _ (by decide)) hs ?_
    simpa using this
/-- A formula's text is read as that formula. -/
theorem text_read (f : Form) (h1 : I64 f.ints) (h2 : I64 f.bools) (ha : ∀ d ∈ f.atoms, d.ok) (hc : ∀ c ∈ f.clauses, ∀ x ∈ c, I64 x) :
    ParseR (lineText wFormula [f.ints, f.bools] ++ (f.atoms.flatMap (fun d => lineText wAtom [d.x, d.y, d.c]) ++ f.clauses.flatMap (lineText wClause))) (.ok f) := by
  rw [line_split]
  have hh : headF (wFormula ++ numsText [f.ints, f.bools]) = some ⟨f.ints, f.bools, [], []⟩ := by
    unfold headF
    rw [pieces_nums [f.ints, f.bools] wFormula (by decide), show (2 : Nat) = [f.ints, f.bools].length from rfl, numsW_text wFormula [f.ints, f.bools] (by intro x hx; simp at hx; rcases hx with rfl | rfl <;> first | exact h1 | exact h2)]
  refine .go rfl (line_not _ _ (by decide)) hh ?_
  have := run_atoms f.clauses hc f.atoms ha ⟨f.ints, f.bools, [], []⟩ 2 rfl
  simpa using this
end Go.Proofs.YtfffalfnjficaaaDoor
