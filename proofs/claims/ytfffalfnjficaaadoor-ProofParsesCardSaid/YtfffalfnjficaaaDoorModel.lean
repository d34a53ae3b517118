/-
  WORDS: a model; which literals hold in it.
-/
import Derived.Test.YtfffalfnjficaaaDoorNum
namespace Go.Proofs.YtfffalfnjficaaaDoor
open Go.RowKit

/-- The value v is a slice of bs.length elements, and these are bs. -/
def Bools (w : World) (v : Value) (bs : List Bool) : Prop :=
  ∃ A c, v = .slice A bs.length c ∧ bs.length ≤ c ∧ c ≤ maxLen ∧ Rd w A (bs.map Value.bool)

theorem Bools.keep {w w' : World} {v : Value} {xs : List Bool} (h : Bools w v xs) (hb : Below w.heap.size w w') : Bools w' v xs := by
  obtain ⟨A, c, hv, hl, hm, hr⟩ := h
  exact ⟨A, c, hv, hl, hm, hr.keep hb⟩

theorem Rd.bool {w : World} {A : Option Addr} {xs : List Bool} (h : Rd w A (xs.map Value.bool)) {k : Nat} {x : Bool} (hk : xs[k]? = some x) :
    ∃ b off, A = some ⟨b, off, none⟩ ∧ b < w.heap.size ∧ w.cell? ⟨b, off + k, none⟩ = some (.bool x) :=
  h.at_ (by rw [List.getElem?_map, hk]; rfl)

/-- Whether a literal holds. -/
def holds (bs : List Bool) (lit : Int) : Bool :=
  if 0 < lit then bs.getD (lit - 1).toNat false else if lit < 0 then (bs[(-lit - 1).toNat]?).any (!·) else false

theorem holds_zero (bs : List Bool) : holds bs 0 = false := rfl
theorem holds_pos (bs : List Bool) (n : Nat) : holds bs ((n : Int) + 1) = bs.getD n false := by
  unfold holds
  rw [if_pos (by omega), show ((n : Int) + 1 - 1).toNat = n from by omega]
theorem holds_neg (bs : List Bool) (n : Nat) : holds bs (-((n : Int) + 1)) = (bs[n]?).any (!·) := by
  unfold holds
  rw [if_neg (by omega), if_pos (by omega), show (-(-((n : Int) + 1)) - 1).toNat = n from by omega]
theorem lit_cases (lit : Int) : lit = 0 ∨ (∃ n : Nat, lit = (n : Int) + 1) ∨ (∃ n : Nat, lit = -((n : Int) + 1)) := by
  rcases Int.lt_trichotomy lit 0 with h | h | h
  · exact .inr (.inr ⟨(-lit - 1).toNat, by omega⟩)
  · exact .inl h
  · exact .inr (.inl ⟨(lit - 1).toNat, by omega⟩)

theorem any_take_succ {α : Type} {l : List α} {p : α → Bool} {k : Nat} {x : α} (h : (l.take k).any p = false) (hk : l[k]? = some x) (hx : p x = false) : (l.take (k + 1)).any p = false := by
  rw [take_succ_of hk, List.any_append, h]; simp [hx]
theorem any_at {α : Type} {l : List α} {p : α → Bool} {k : Nat} {x : α} (hk : l[k]? = some x) (hx : p x = true) : l.any p = true := by
  rw [List.any_eq_true]; exact ⟨x, List.mem_of_getElem? hk, hx⟩
theorem any_take_all {α : Type} {l : List α} {p : α → Bool} {k : Nat} (h : (l.take k).any p = false) (hk : l.length ≤ k) : l.any p = false := by
  rwa [List.take_of_length_le hk] at h

end Go.Proofs.YtfffalfnjficaaaDoor
