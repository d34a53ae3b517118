/-
  PLAIN LAW: what a text is read as: line by line.
-/
import Derived.Test.YtfffalfnjficaaaDoorRNums
import Derived.Test.YtfffalfnjficaaaDoorForm
import Derived.Test.YtfffalfnjficaaaDoorFormat
namespace Go.Proofs.YtfffalfnjficaaaDoor

/-- The head of a formula's text. -/
def headF (line : List UInt8) : Option Form := match numsW wFormula 2 (pieces 32 line) with
  | some [a, b] => some ⟨a, b, [], []⟩
  | _ => none
def stepAtom (f : Form) : Option (List Int) → Option Form
  | some [x, y, c] => some { f with atoms := f.atoms ++ [⟨x, y, c⟩] }
  | _ => none
def stepClause (f : Form) (o : Option (List Int)) : Option Form := o.map fun ns => { f with clauses := f.clauses ++ [ns] }
/-- A further line. -/
def stepF (f : Form) (line : List UInt8) : Option Form := match pieces 32 line with
  | [] => none
  | h :: ps => if h = wAtom ∧ f.clauses = [] then stepAtom f (numsW wAtom 3 (h :: ps)) else stepClause f (numsW wClause ps.length (h :: ps))
theorem stepF_atom {f : Form} {a h : List UInt8} {ps : List (List UInt8)} (hp : pieces 32 a = h :: ps) (h1 : h = wAtom) (h2 : f.clauses = []) : stepF f a = stepAtom f (numsW wAtom 3 (h :: ps)) := by
  unfold stepF; rw [hp]; exact if_pos ⟨h1, h2⟩
theorem stepF_clause {f : Form} {a h : List UInt8} {ps : List (List UInt8)} (hp : pieces 32 a = h :: ps) (h1 : ¬ (h = wAtom ∧ f.clauses = [])) : stepF f a = stepClause f (numsW wClause ps.length (h :: ps)) := by
  unfold stepF; rw [hp]; exact if_neg h1
/-- How a reading ends. -/
inductive PEnd where
  | ok (f : Form)
  | bad (line : Nat)
/-- The reading of what is behind line k - 1. -/
inductive RunR : Form → Nat → List UInt8 → PEnd → Prop where
  | done (f : Form) (k : Nat) : RunR f k [] (.ok f)
  | cut {f : Form} {k : Nat} {r : List UInt8} : r ≠ [] → (10 : UInt8) ∉ r → RunR f k r (.bad k)
  | wrong {f : Form} {k : Nat} {r a b : List UInt8} : r = a ++ 10 :: b → (10 : UInt8) ∉ a → stepF f a = none → RunR f k r (.bad k)
  | next {f f' : Form} {k : Nat} {r a b : List UInt8} {e : PEnd} : r = a ++ 10 :: b → (10 : UInt8) ∉ a → stepF f a = some f' → RunR f' (k + 1) b e → RunR f k r e
inductive ParseR : List UInt8 → PEnd → Prop where
  | cut {s : List UInt8} : (10 : UInt8) ∉ s → ParseR s (.bad 1)
  | wrong {s a b : List UInt8} : s = a ++ 10 :: b → (10 : UInt8) ∉ a → headF a = none → ParseR s (.bad 1)
  | go {s a b : List UInt8} {f : Form} {e : PEnd} : s = a ++ 10 :: b → (10 : UInt8) ∉ a → headF a = some f → RunR f 2 b e → ParseR s e
theorem nl_unique {a b a' b' : List UInt8} (h1 : (10 : UInt8) ∉ a) (h2 : (10 : UInt8) ∉ a') (h : a ++ 10 :: b = a' ++ 10 :: b') : a = a' ∧ b = b' := by
  have e := congrArg (fun l => pieces 10 l) h
  simp only [pieces_app b h1, pieces_app b' h2, List.cons.injEq] at e
  have e1 := e.1
  subst e1
  have e2 := List.append_cancel_left h
  injection e2 with _ e2
  exact ⟨rfl, e2⟩
theorem RunR.fn {f : Form} {k : Nat} {r : List UInt8} {e e' : PEnd} (h : RunR f k r e) (h' : RunR f k r e') : e = e' := by
  induction h with
  | done f k =>
    cases h' with
    | done => rfl
    | cut h1 _ => exact absurd rfl h1
    | wrong h1 _ _ => simp at h1
    | next h1 _ _ _ => simp at h1
  | cut h1 h2 =>
    cases h' with
    | done => exact absurd rfl h1
    | cut _ _ => rfl
    | wrong h3 _ _ => exact absurd (by rw [h3]; simp) h2
    | next h3 _ _ _ => exact absurd (by rw [h3]; simp) h2
  | wrong h1 h2 h3 =>
    cases h' with
    | done => simp at h1
    | cut _ h4 => exact absurd (by rw [h1]; simp) h4
    | wrong _ _ _ => rfl
    | next h4 h5 h6 _ =>
      obtain ⟨rfl, rfl⟩ := nl_unique h2 h5 (h1.symm.trans h4)
      rw [h3] at h6; cases h6
  | next h1 h2 h3 _ ih =>
    cases h' with
    | done => simp at h1
    | cut _ h4 => exact absurd (by rw [h1]; simp) h4
    | wrong h4 h5 h6 =>
      obtain ⟨rfl, rfl⟩ := nl_unique h2 h5 (h1.symm.trans h4)
      rw [h3] at h6; cases h6
    | next h4 h5 h6 h7 =>
      obtain ⟨rfl, rfl⟩ := nl_unique h2 h5 (h1.symm.trans h4)
      rw [h3] at h6
      injection h6 with h6
      subst h6
      exact ih h7
theorem nl_split (s : List UInt8) : (10 : UInt8) ∉ s ∨ ∃ a b, s = a ++ 10 :: b ∧ (10 : UInt8) ∉ a := by
  rcases index_split 10 s with ⟨_, h⟩ | ⟨a, b, h1, h2, _⟩
  · exact .inl h
  · exact .inr ⟨a, b, h1, h2⟩
theorem ParseR.fn {s : List UInt8} {e e' : PEnd} (h : ParseR s e) (h' : ParseR s e') : e = e' := by
  cases h with
  | cut h1 =>
    cases h' with
    | cut _ => rfl
    | wrong h2 _ _ => exact absurd (by rw [h2]; simp) h1
    | go h2 _ _ _ => exact absurd (by rw [h2]; simp) h1
  | wrong h1 h2 h3 =>
    cases h' with
    | cut h4 => exact absurd (by rw [h1]; simp) h4
    | wrong _ _ _ => rfl
    | go h4 h5 h6 _ =>
      obtain ⟨rfl, rfl⟩ := nl_unique h2 h5 (h1.symm.trans h4)
      rw [h3] at h6; cases h6
  | go h1 h2 h3 h7 =>
    cases h' with
    | cut h4 => exact absurd (by rw [h1]; simp) h4
    | wrong h4 h5 h6 =>
      obtain ⟨rfl, rfl⟩ := nl_unique h2 h5 (h1.symm.trans h4)
      rw [h3] at h6; cases h6
    | go h4 h5 h6 h8 =>
      obtain ⟨rfl, rfl⟩ := nl_unique h2 h5 (h1.symm.trans h4)
      rw [h3] at h6
      injection h6 with h6
      subst h6
      exact h7.fn h8
end Go.Proofs.YtfffalfnjficaaaDoor
