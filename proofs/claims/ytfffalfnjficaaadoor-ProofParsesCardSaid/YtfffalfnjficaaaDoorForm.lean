/-
  WORDS: slices of slices of numbers; a formula.
-/
import Derived.Test.YtfffalfnjficaaaDoorBound
namespace Go.Proofs.YtfffalfnjficaaaDoor
open Go.RowKit

/-- The value v is a slice of slices of numbers: xss. -/
def Mat (w : World) (v : Value) (xss : List (List Int)) : Prop :=
  ∃ A c vs, v = .slice A xss.length c ∧ xss.length ≤ c ∧ c ≤ maxLen ∧ vs.length = xss.length ∧ Rd w A vs ∧ ∀ (k : Nat) (u : Value) (xs : List Int), vs[k]? = some u → xss[k]? = some xs → Ints w u xs

theorem Mat.keep {w w' : World} {v : Value} {xss : List (List Int)} (h : Mat w v xss) (hb : Below w.heap.size w w') : Mat w' v xss := by
  obtain ⟨A, c, vs, hv, hl, hm, hx, hr, hi⟩ := h
  exact ⟨A, c, vs, hv, hl, hm, hx, hr.keep hb, fun k u xs h1 h2 => (hi k u xs h1 h2).keep hb⟩

/-- A formula. -/
structure Form where
  ints : Int
  bools : Int
  atoms : List Diff
  clauses : List (List Int)

/-- The value v is the formula f. -/
def IsForm (w : World) (v : Value) (f : Form) : Prop :=
  ∃ av cv, v = .agg #[.int .i64 f.ints, .int .i64 f.bools, av, cv] ∧ I64 f.ints ∧ I64 f.bools ∧ Diffs w av f.atoms ∧ Mat w cv f.clauses

theorem IsForm.keep {w w' : World} {v : Value} {f : Form} (h : IsForm w v f) (hb : Below w.heap.size w w') : IsForm w' v f := by
  obtain ⟨av, cv, hv, h1, h2, h3, h4⟩ := h
  exact ⟨av, cv, hv, h1, h2, h3.keep hb, h4.keep hb⟩

theorem IsForm.parts {w : World} {a b av cv : Value} {f : Form} (h : IsForm w (.agg #[a, b, av, cv]) f) :
    a = .int .i64 f.ints ∧ b = .int .i64 f.bools ∧ I64 f.ints ∧ I64 f.bools ∧ Diffs w av f.atoms ∧ Mat w cv f.clauses := by
  obtain ⟨av', cv', hv, h1, h2, h3, h4⟩ := h
  injection hv with hv
  simp only [Array.mk.injEq, List.cons.injEq, and_true] at hv
  obtain ⟨e1, e2, e3, e4⟩ := hv
  subst e3 e4
  exact ⟨e1, e2, h1, h2, h3, h4⟩

theorem Mat.at_ {w : World} {A : Option Addr} {vs : List Value} {xss : List (List Int)} (hr : Rd w A vs) (hl : vs.length = xss.length)
    (hi : ∀ (k : Nat) (u : Value) (xs : List Int), vs[k]? = some u → xss[k]? = some xs → Ints w u xs) {k : Nat} {xs : List Int} (hk : xss[k]? = some xs) :
    ∃ b off A' c', A = some ⟨b, off, none⟩ ∧ b < w.heap.size ∧ w.cell? ⟨b, off + k, none⟩ = some (.slice A' xs.length c') ∧ Ints w (.slice A' xs.length c') xs := by
  have hlt : k < vs.length := by have := (List.getElem?_eq_some_iff.1 hk).1; omega
  obtain ⟨u, hu⟩ : ∃ u, vs[k]? = some u := ⟨_, List.getElem?_eq_getElem hlt⟩
  obtain ⟨b, off, hA, hb, hc⟩ := hr.at_ hu
  have h := hi k u xs hu hk
  obtain ⟨A', c', rfl, h'⟩ := h
  exact ⟨b, off, A', c', hA, hb, hc, A', c', rfl, h'⟩

def sumTo : Nat → List Nat → Nat
  | n, [] => n
  | n, l :: r => if n < 1048576 then sumTo (n + l) r else n
def largeF (f : Form) : Bool := decide (2000 < sumTo (f.atoms.length + f.clauses.length) (f.clauses.map List.length))

theorem sumTo_small {n : Nat} {l : List Nat} (h : ¬ 2000 < sumTo n l) : n + l.sum ≤ 2000 := by
  induction l generalizing n with
  | nil => simp [sumTo] at h ⊢; exact h
  | cons a r ih =>
    rw [sumTo] at h
    by_cases hn : n < 1048576
    · rw [if_pos hn] at h
      have := ih h
      simp; omega
    · rw [if_neg hn] at h; omega

theorem largeF_small {f : Form} (h : largeF f = false) : f.atoms.length + f.clauses.length + (f.clauses.map List.length).sum ≤ 2000 :=
  sumTo_small (by simpa [largeF] using h)

theorem ret_bool {a b : Bool} (h : a = b) : Ending.returned (.bool a) = .returned (.bool b) := by rw [h]
theorem ret_int {k : IntKind} {a b : Int} (h : a = b) : Ending.returned (.int k a) = .returned (.int k b) := by rw [h]
theorem decide_congr {p q : Prop} [Decidable p] [Decidable q] (h : p ↔ q) : decide p = decide q := by simp [h]

end Go.Proofs.YtfffalfnjficaaaDoor
