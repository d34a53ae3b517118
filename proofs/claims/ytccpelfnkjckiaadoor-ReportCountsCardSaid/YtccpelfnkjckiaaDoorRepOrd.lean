/-
  PLAIN LAW: the order of lists of numbers; the orders of findings and of reports come from it.
-/
import Derived.Test.YtccpelfnkjckiaaDoorRepFnd
import Derived.Test.YtccpelfnkjckiaaDoorStab
namespace Go.Proofs.YtccpelfnkjckiaaDoor

theorem compareInt_anti (x y : Int) : Lib.compareInt x y < 0 ↔ 0 < Lib.compareInt y x := by
  unfold Lib.compareInt
  by_cases h1 : x < y
  · simp [h1, show ¬ y < x by omega]
  · by_cases h2 : y < x <;> simp [h1, h2]
theorem compareInt_lt_iff {x y : Int} : Lib.compareInt x y < 0 ↔ x < y := by rw [compareInt_neg]
theorem cmpL_anti (xs ys : List Int) : cmpL xs ys < 0 ↔ 0 < cmpL ys xs := by
  induction xs generalizing ys with
  | nil => cases ys <;> simp [cmpL]
  | cons x xs ih =>
    cases ys with
    | nil => simp [cmpL]
    | cons y ys =>
      unfold cmpL
      by_cases h : x = y
      · rw [if_pos h, if_pos h.symm]; exact ih ys
      · rw [if_neg h, if_neg (Ne.symm h)]; exact compareInt_anti x y
theorem cmpL_eq {xs ys : List Int} : cmpL xs ys = 0 ↔ xs = ys := by
  induction xs generalizing ys with
  | nil => cases ys <;> simp [cmpL]
  | cons x xs ih =>
    cases ys with
    | nil => simp [cmpL]
    | cons y ys =>
      unfold cmpL
      by_cases h : x = y
      · rw [if_pos h, ih]; simp [h]
      · rw [if_neg h]; simp [h, compareInt_ne h]
theorem cmpL_lt_trans {xs ys zs : List Int} (h1 : cmpL xs ys < 0) (h2 : cmpL ys zs < 0) : cmpL xs zs < 0 := by
  induction xs generalizing ys zs with
  | nil =>
    cases ys with
    | nil => simp [cmpL] at h1
    | cons y ys => cases zs with
      | nil => simp [cmpL] at h2
      | cons z zs => simp [cmpL]
  | cons x xs ih =>
    cases ys with
    | nil => simp [cmpL] at h1
    | cons y ys =>
      cases zs with
      | nil => simp [cmpL] at h2
      | cons z zs =>
        unfold cmpL at h1 h2 ⊢
        by_cases e1 : x = y
        · subst e1
          rw [if_pos rfl] at h1
          by_cases e2 : x = z
          · rw [if_pos e2] at h2 ⊢; exact ih h1 h2
          · rw [if_neg e2] at h2 ⊢; exact h2
        · rw [if_neg e1, compareInt_lt_iff] at h1
          by_cases e2 : y = z
          · subst e2
            rw [if_neg e1, compareInt_lt_iff]; exact h1
          · rw [if_neg e2, compareInt_lt_iff] at h2
            rw [if_neg (by omega), compareInt_lt_iff]; omega
theorem cmpL_trans (xs ys zs : List Int) (h1 : cmpL xs ys ≤ 0) (h2 : cmpL ys zs ≤ 0) : cmpL xs zs ≤ 0 := by
  rcases Int.lt_or_eq_of_le h1 with h1 | h1
  · rcases Int.lt_or_eq_of_le h2 with h2 | h2
    · exact Int.le_of_lt (cmpL_lt_trans h1 h2)
    · rw [cmpL_eq] at h2; subst h2; omega
  · rw [cmpL_eq] at h1; subst h1; exact h2

def Fnd.key (f : Fnd) : List Int := f.kind :: f.sites
def Rep.rank (r : Rep) : List Int := (-r.score) :: r.kind :: r.sites
theorem orL_two (a b : Int) : orL [a, b] = if a = 0 then b else a := by
  unfold orL
  by_cases h : a = 0
  · rw [if_pos h, if_pos h]; unfold orL; by_cases h2 : b = 0
    · rw [if_pos h2, h2]; rfl
    · rw [if_neg h2]
  · rw [if_neg h, if_neg h]
theorem compareInt_zero {x y : Int} : Lib.compareInt x y = 0 ↔ x = y := by
  constructor
  · intro h
    rcases Classical.em (x = y) with e | e
    · exact e
    · exact absurd h (compareInt_ne e)
  · intro h; rw [h]; exact compareInt_self y
theorem cmpF_key (a b : Fnd) : cmpF a b = cmpL a.key b.key := by
  unfold cmpF Fnd.key
  rw [orL_two, cmpL]
  by_cases h : a.kind = b.kind
  · rw [if_pos (compareInt_zero.2 h), if_pos h]
  · rw [if_neg (fun e => h (compareInt_zero.1 e)), if_neg h]
theorem compareInt_negs (x y : Int) : Lib.compareInt (-x) (-y) = Lib.compareInt y x := by
  unfold Lib.compareInt
  by_cases h1 : y < x
  · simp [h1]
  · by_cases h2 : x < y <;> simp [h1, h2]
theorem cmpR_rank (a b : Rep) : cmpR a b = cmpL a.rank b.rank := by
  unfold cmpR Rep.rank
  have e : orL [Lib.compareInt b.score a.score, Lib.compareInt a.kind b.kind, cmpL a.sites b.sites] = if Lib.compareInt b.score a.score = 0 then orL [Lib.compareInt a.kind b.kind, cmpL a.sites b.sites] else Lib.compareInt b.score a.score := by rw [orL]
  rw [e, orL_two]
  rw [cmpL, cmpL]
  by_cases h : a.score = b.score
  · rw [if_pos (compareInt_zero.2 h.symm), if_pos (show -a.score = -b.score by rw [h])]
    by_cases h2 : a.kind = b.kind
    · rw [if_pos (compareInt_zero.2 h2), if_pos h2]
    · rw [if_neg (fun e => h2 (compareInt_zero.1 e)), if_neg h2]
  · rw [if_neg (fun e => h (compareInt_zero.1 e).symm), if_neg (by omega), compareInt_negs]

/-- Findings are ordered by kind and sites, then by their index. -/
theorem cmpOk_fnd (ps : List (Fnd × FndM)) : CmpOk (fun x y : Fin ps.length => cmpF ps[x].1 ps[y].1) (fun x => x.1) where
  anti x y := by rw [cmpF_key, cmpF_key]; exact cmpL_anti _ _
  trans x y z h1 h2 := by rw [cmpF_key] at h1 h2 ⊢; exact cmpL_trans _ _ _ h1 h2
  inj x y h := Fin.ext h

/-- The comparison of reports is a strict weak order. -/
def cmpG (a b : Rep) : Int := if lessR a b then -1 else if lessR b a then 1 else 0
theorem lessR_iff {a b : Rep} : lessR a b = true ↔ cmpL a.rank b.rank < 0 := by unfold lessR; rw [decide_eq_true_iff, cmpR_rank]
theorem cmpG_lt {a b : Rep} : cmpG a b < 0 ↔ cmpL a.rank b.rank < 0 := by
  unfold cmpG
  rw [← lessR_iff]
  cases h1 : lessR a b
  · cases h2 : lessR b a <;> simp
  · simp
theorem swo_rep {α : Type} (r : α → Rep) : Go.Sort.SWO (fun x y : α => decide (cmpG (r x) (r y) < 0)) where
  irrefl x := by
    rw [decide_eq_false_iff_not, cmpG_lt]
    have := (cmpL_eq (xs := (r x).rank) (ys := (r x).rank)).2 rfl
    omega
  trans x y z h1 h2 := by
    rw [decide_eq_true_iff, cmpG_lt] at h1 h2 ⊢
    exact cmpL_lt_trans h1 h2
  ntrans x y z h1 h2 := by
    rw [decide_eq_false_iff_not, cmpG_lt] at h1 h2 ⊢
    have a1 := cmpL_anti (r y).rank (r x).rank
    have a2 := cmpL_anti (r z).rank (r y).rank
    have a3 := cmpL_anti (r z).rank (r x).rank
    have b1 := cmpL_anti (r x).rank (r y).rank
    have b2 := cmpL_anti (r y).rank (r z).rank
    have b3 := cmpL_anti (r x).rank (r z).rank
    have t := cmpL_trans (r z).rank (r y).rank (r x).rank (by omega) (by omega)
    omega
end Go.Proofs.YtccpelfnkjckiaaDoor
