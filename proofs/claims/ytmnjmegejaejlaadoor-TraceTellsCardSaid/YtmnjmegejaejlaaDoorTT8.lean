/-
  PLAIN LAW: the numbers of a line's words.
-/
import Derived.Test.YtmnjmegejaejlaaDoorTT4
import Derived.Test.YtmnjmegejaejlaaDoorTT5
namespace Go.Proofs.YtmnjmegejaejlaaDoor
open Go.RowKit

/-- The numbers of a line's words, which begin with a word and have as many numbers as count. -/
def numsW (word : List UInt8) (count : Nat) : List (List UInt8) → Option (List Int)
  | [] => none
  | h :: ps => if h = word ∧ ps.length = count then ps.mapM canonI else none
theorem mapM_take {ps : List (List UInt8)} {k : Nat} {p : List UInt8} {vs : List Int} {v : Int} (h : (ps.take k).mapM canonI = some vs) (hp : ps[k]? = some p) (hv : canonI p = some v) : (ps.take (k + 1)).mapM canonI = some (vs ++ [v]) := by
  rw [take_succ_of hp, List.mapM_append, h]
  simp [hv]
theorem mapM_bad {ps : List (List UInt8)} {p : List UInt8} (hp : p ∈ ps) (hv : canonI p = none) : ps.mapM canonI = none := by
  induction ps with
  | nil => cases hp
  | cons a t ih =>
    rw [List.mapM_cons]
    rcases List.mem_cons.1 hp with rfl | hp
    · simp [hv]
    · rw [ih hp]
      cases canonI a <;> simp
theorem mapM_len {ps : List (List UInt8)} {vs : List Int} (h : ps.mapM canonI = some vs) : vs.length = ps.length := by
  induction ps generalizing vs with
  | nil => simp at h; subst h; rfl
  | cons a t ih =>
    rw [List.mapM_cons] at h
    cases ha : canonI a with
    | none => rw [ha] at h; simp at h
    | some v =>
      rw [ha] at h
      cases ht : t.mapM canonI with
      | none => rw [ht] at h; simp at h
      | some us =>
        rw [ht] at h
        simp at h
        subst h
        simp [ih ht]
theorem mapM_i64 {ps : List (List UInt8)} {vs : List Int} (h : ps.mapM canonI = some vs) : ∀ v ∈ vs, I64 v := by
  induction ps generalizing vs with
  | nil => simp at h; subst h; simp
  | cons a t ih =>
    rw [List.mapM_cons] at h
    cases ha : canonI a with
    | none => rw [ha] at h; simp at h
    | some v =>
      rw [ha] at h
      cases ht : t.mapM canonI with
      | none => rw [ht] at h; simp at h
      | some us =>
        rw [ht] at h
        simp at h
        subst h
        intro u hu
        rcases List.mem_cons.1 hu with rfl | hu
        · exact (canonI_some ha).2.2
        · exact ih ht u hu
/-- The numbers of a line that begins with a word. -/
def numsL (word line : List UInt8) : Option (List Int) := match pieces 32 line with
  | [] => none
  | h :: ps => if h = word then ps.mapM canonI else none
theorem pieces_tail {c : UInt8} {s a b : List UInt8} {r : List (List UInt8)} (h : pieces c s = a :: b :: r) : ∃ t, s = a ++ c :: t ∧ pieces c t = b :: r ∧ c ∉ a := by
  rcases index_split c s with ⟨_, h2⟩ | ⟨x, t, h1, h2, _⟩
  · rw [pieces_none h2] at h; simp at h
  · rw [h1, pieces_app t h2] at h
    injection h with e1 e2
    subst e1
    exact ⟨t, h1, e2, h2⟩
theorem pieces_one {c : UInt8} {s a : List UInt8} (h : pieces c s = [a]) : s = a ∧ c ∉ a := by
  rcases index_split c s with ⟨_, h2⟩ | ⟨x, t, h1, h2, _⟩
  · rw [pieces_none h2] at h; simp at h; subst h; exact ⟨rfl, h2⟩
  · rw [h1, pieces_app t h2] at h
    injection h with _ e2
    exact absurd e2 (pieces_ne c t)
/-- A line that begins with a word. -/
theorem pieces_word {word line : List UInt8} (hw : (32 : UInt8) ∉ word) : (∃ ps, pieces 32 line = word :: ps) ↔ (line = word ∨ (word ++ [32]) <+: line) := by
  constructor
  · rintro ⟨ps, h⟩
    cases ps with
    | nil => exact .inl (pieces_one h).1
    | cons b r =>
      obtain ⟨t, h1, _, _⟩ := pieces_tail h
      exact .inr ⟨t, by rw [h1]; simp⟩
  · rintro (rfl | ⟨t, rfl⟩)
    · exact ⟨[], pieces_none hw⟩
    · refine ⟨pieces 32 t, ?_⟩
      rw [List.append_assoc]
      exact pieces_app t hw
theorem numsL_none {word line : List UInt8} (hw : (32 : UInt8) ∉ word) (h1 : line ≠ word) (h2 : ¬ (word ++ [32]) <+: line) : numsL word line = none := by
  unfold numsL
  cases h : pieces 32 line with
  | nil => rfl
  | cons x ps =>
    simp only
    split
    · rename_i hx
      subst hx
      rcases (pieces_word hw).1 ⟨ps, h⟩ with e | e
      · exact absurd e h1
      · exact absurd e h2
    · rfl
theorem numsL_some {word line : List UInt8} (hw : (32 : UInt8) ∉ word) (h : line = word ∨ (word ++ [32]) <+: line) : ∃ ps, pieces 32 line = word :: ps ∧ numsL word line = ps.mapM canonI := by
  obtain ⟨ps, h⟩ := (pieces_word hw).2 h
  exact ⟨ps, h, by unfold numsL; rw [h]; exact if_pos rfl⟩
theorem numsL_two {a b line : List UInt8} {x y : List Int} (h1 : numsL a line = some x) (h2 : numsL b line = some y) : a = b := by
  unfold numsL at h1 h2
  cases h : pieces 32 line with
  | nil => rw [h] at h1; cases h1
  | cons p ps =>
    rw [h] at h1 h2
    simp only at h1 h2
    split at h1
    · split at h2
      · rename_i e1 e2; rw [← e1, e2]
      · cases h2
    · cases h1
theorem numsW_numsL {word line : List UInt8} {c : Nat} : numsW word c (pieces 32 line) = match numsL word line with
    | some ns => if ns.length = c then some ns else none
    | none => none := by
  unfold numsL
  cases h : pieces 32 line with
  | nil => rfl
  | cons p ps =>
    simp only [numsW]
    by_cases hp : p = word
    · rw [if_pos hp]
      cases hm : ps.mapM canonI with
      | none => simp
      | some ns =>
        have := mapM_len hm
        simp only [hp, true_and, this]
    · rw [if_neg (fun e => hp e.1), if_neg hp]
end Go.Proofs.YtmnjmegejaejlaaDoor
