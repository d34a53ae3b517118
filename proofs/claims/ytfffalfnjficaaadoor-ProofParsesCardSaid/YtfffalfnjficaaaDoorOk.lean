/-
  WORDS: a valid formula; a formula that holds.
-/
import Derived.Test.YtfffalfnjficaaaDoorForm
namespace Go.Proofs.YtfffalfnjficaaaDoor
open Go.RowKit

def okAtom (ints : Int) (d : Diff) : Bool :=
  decide (0 ≤ d.x) && decide (d.x < ints) && decide (0 ≤ d.y) && decide (d.y < ints) && decide (d.x ≠ d.y) && decide (-1048576 ≤ d.c) && decide (d.c ≤ 1048576)
def okLit (bools lit : Int) : Bool := decide (lit ≠ 0) && decide (-bools ≤ lit) && decide (lit ≤ bools)
def bodyOk (f : Form) : Bool := f.atoms.all (okAtom f.ints) && f.clauses.all fun c => c.all (okLit f.bools)
def okNo (b : Bool) : Int := if b = true then 0 else 1
/-- What Valid returns. -/
def validF (f : Form) : Int :=
  if 32 < f.ints ∨ 1024 < f.bools ∨ 32768 < f.clauses.length then 2
  else if f.ints < 0 ∨ f.bools < 0 ∨ f.bools < f.atoms.length then 1
  else okNo (bodyOk f)

theorem validF_body {f : Form} (h1 : ¬ 32 < f.ints) (h2 : ¬ 1024 < f.bools) (h3 : ¬ 32768 < f.clauses.length) (h4 : ¬ f.ints < 0) (h5 : ¬ f.bools < 0) (h6 : ¬ f.bools < f.atoms.length) :
    validF f = okNo (bodyOk f) := by
  unfold validF
  rw [if_neg (by omega), if_neg (by omega)]

theorem okAtom_iff {ints x y z : Int} : okAtom ints ⟨x, y, z⟩ = true ↔ 0 ≤ x ∧ x < ints ∧ 0 ≤ y ∧ y < ints ∧ x ≠ y ∧ -1048576 ≤ z ∧ z ≤ 1048576 := by
  simp [okAtom, and_assoc]
theorem okLit_iff {bools x : Int} : okLit bools x = true ↔ x ≠ 0 ∧ -bools ≤ x ∧ x ≤ bools := by
  simp [okLit, and_assoc]
theorem not_ok {b : Bool} (h : ¬ b = true) : b = false := by simpa using h
theorem all_take {α : Type} {l : List α} {p : α → Bool} {k : Nat} (h : (l.take k).all p = true) (hk : l.length ≤ k) : l.all p = true := by
  rwa [List.take_of_length_le hk] at h
theorem bodyOk_all {f : Form} (h1 : f.atoms.all (okAtom f.ints) = true) (h2 : (f.clauses.all fun c => c.all (okLit f.bools)) = true) : bodyOk f = true := by
  unfold bodyOk; rw [h1, h2]; rfl

theorem bodyOk_atom {f : Form} {k : Nat} {d : Diff} (hd : f.atoms[k]? = some d) (h : okAtom f.ints d = false) : bodyOk f = false := by
  unfold bodyOk
  rw [Bool.and_eq_false_iff]
  left
  rw [List.all_eq_false]
  exact ⟨d, List.mem_of_getElem? hd, by simp [h]⟩
theorem bodyOk_lit {f : Form} {k j : Nat} {c : List Int} {x : Int} (hc : f.clauses[k]? = some c) (hx : c[j]? = some x) (h : okLit f.bools x = false) : bodyOk f = false := by
  unfold bodyOk
  rw [Bool.and_eq_false_iff]
  right
  rw [List.all_eq_false]
  exact ⟨c, List.mem_of_getElem? hc, by simp only [Bool.not_eq_true, List.all_eq_false]; exact ⟨x, List.mem_of_getElem? hx, by simp [h]⟩⟩
theorem all_take_succ {α : Type} {l : List α} {p : α → Bool} {k : Nat} {x : α} (h : (l.take k).all p = true) (hk : l[k]? = some x) (hx : p x = true) : (l.take (k + 1)).all p = true := by
  rw [take_succ_of hk, List.all_append, h]; simp [hx]

theorem validF_ok {f : Form} (h : validF f = 0) : f.ints ≤ 32 ∧ 0 ≤ f.ints ∧ f.bools ≤ 1024 ∧ 0 ≤ f.bools ∧ (f.atoms.length : Int) ≤ f.bools ∧ f.clauses.length ≤ 32768 ∧
    (∀ d ∈ f.atoms, okAtom f.ints d = true) ∧ ∀ c ∈ f.clauses, ∀ x ∈ c, okLit f.bools x = true := by
  unfold validF at h
  split at h
  · cases h
  · split at h
    · cases h
    · have hb : bodyOk f = true := by
        cases hb : bodyOk f with
        | true => rfl
        | false => rw [hb] at h; cases h
      unfold bodyOk at hb
      simp only [Bool.and_eq_true, List.all_eq_true] at hb
      exact ⟨by omega, by omega, by omega, by omega, by omega, by omega, hb.1, hb.2⟩

def atomOk (xs : List Int) (bs : List Bool) (j : Nat) (d : Diff) : Bool := bs.getD j false == decide (xs.getD d.x.toNat 0 - xs.getD d.y.toNat 0 ≤ d.c)
/-- The atoms and clauses of a formula hold. -/
def SatB (atoms : List Diff) (clauses : List (List Int)) (xs : List Int) (bs : List Bool) : Prop :=
  (∀ (j : Nat) (d : Diff), atoms[j]? = some d → atomOk xs bs j d = true) ∧ ∀ c ∈ clauses, c.any (holds bs) = true
/-- The model satisfies the formula. -/
def Sat (f : Form) (xs : List Int) (bs : List Bool) : Prop := (bs.length : Int) = f.bools ∧ (xs.length : Int) = f.ints ∧ SatB f.atoms f.clauses xs bs
def SatRet (w : World) (p : Prop) (e : Ending) (w' : World) : Prop := (∃ b, e = .returned (.bool b) ∧ (b = true ↔ p)) ∧ Below w.heap.size w w'
def Forty (x : Int) : Prop := -1099511627776 ≤ x ∧ x ≤ 1099511627776

theorem getD_of {α : Type} {l : List α} {k : Nat} {x d : α} (h : l[k]? = some x) : l.getD k d = x := by simp [List.getD, h]

end Go.Proofs.YtfffalfnjficaaaDoor
