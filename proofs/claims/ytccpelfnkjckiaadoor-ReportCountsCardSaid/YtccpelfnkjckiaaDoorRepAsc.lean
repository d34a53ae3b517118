/-
  PLAIN LAW: ascending lists without duplicates.
-/
import Derived.Lib.SlicesCompact
namespace Go.Proofs.YtccpelfnkjckiaaDoor

/-- Strictly ascending. -/
def Asc (l : List Int) : Prop := l.Pairwise (· < ·)
theorem asc_ext {l m : List Int} (hl : Asc l) (hm : Asc m) (h : ∀ x, x ∈ l ↔ x ∈ m) : l = m := by
  induction l generalizing m with
  | nil =>
    cases m with
    | nil => rfl
    | cons y ys => exact absurd ((h y).2 (by simp)) (by simp)
  | cons x xs ih =>
    cases m with
    | nil => exact absurd ((h x).1 (by simp)) (by simp)
    | cons y ys =>
      obtain ⟨hx, hxs⟩ := List.pairwise_cons.1 hl
      obtain ⟨hy, hys⟩ := List.pairwise_cons.1 hm
      have e : x = y := by
        rcases List.mem_cons.1 ((h x).1 (by simp)) with e | e
        · exact e
        · rcases List.mem_cons.1 ((h y).2 (by simp)) with e2 | e2
          · exact e2.symm
          · have := hy x e; have := hx y e2; omega
      subst e
      congr 1
      refine ih hxs hys fun z => ⟨fun hz => ?_, fun hz => ?_⟩
      · rcases List.mem_cons.1 ((h z).1 (by simp [hz])) with e | e
        · subst e; have := hx z hz; omega
        · exact e
      · rcases List.mem_cons.1 ((h z).2 (by simp [hz])) with e | e
        · subst e; have := hy z hz; omega
        · exact e

/-- A number is added to an ascending list. -/
def insAsc (l : List Int) (n : Int) : List Int :=
  let a := l.takeWhile (fun x => decide (x < n))
  let b := l.dropWhile (fun x => decide (x < n))
  if b.head? = some n then l else a ++ n :: b
theorem insAsc_mem {l : List Int} {n x : Int} : x ∈ insAsc l n ↔ x ∈ l ∨ x = n := by
  unfold insAsc
  simp only
  have e := List.takeWhile_append_dropWhile (p := fun x => decide (x < n)) (l := l)
  split
  · rename_i h
    refine ⟨.inl, fun h1 => h1.elim id fun h2 => ?_⟩
    subst h2
    exact (List.dropWhile_sublist _).subset (List.mem_of_head? h)
  · rw [List.mem_append, List.mem_cons]
    constructor
    · rintro (h | h | h)
      · exact .inl ((List.takeWhile_sublist _).subset h)
      · exact .inr h
      · exact .inl ((List.dropWhile_sublist _).subset h)
    · rintro (h | h)
      · rw [← e, List.mem_append] at h
        rcases h with h | h
        · exact .inl h
        · exact .inr (.inr h)
      · exact .inr (.inl h)
theorem takeWhile_all {α : Type} {p : α → Bool} {l : List α} : ∀ x ∈ l.takeWhile p, p x = true := by
  induction l with
  | nil => simp
  | cons a t ih =>
    intro x hx
    rw [List.takeWhile_cons] at hx
    split at hx
    · rename_i h
      rcases List.mem_cons.1 hx with rfl | hx
      · exact h
      · exact ih x hx
    · simp at hx
theorem dropWhile_head {α : Type} {p : α → Bool} {l : List α} {a : α} {t : List α} (h : l.dropWhile p = a :: t) : p a = false := by
  induction l with
  | nil => simp at h
  | cons b r ih =>
    rw [List.dropWhile_cons] at h
    split at h
    · exact ih h
    · rename_i hb
      injection h with h1 h2
      subst h1
      simpa using hb
theorem insAsc_asc {l : List Int} {n : Int} (hl : Asc l) : Asc (insAsc l n) := by
  unfold insAsc
  simp only
  have e := List.takeWhile_append_dropWhile (p := fun x => decide (x < n)) (l := l)
  have hA := @takeWhile_all Int (fun x => decide (x < n)) l
  have hH := @dropWhile_head Int (fun x => decide (x < n)) l
  split
  · exact hl
  · rename_i h
    generalize l.takeWhile (fun x => decide (x < n)) = a at *
    generalize l.dropWhile (fun x => decide (x < n)) = b at *
    subst e
    unfold Asc at *
    rw [List.pairwise_append] at hl ⊢
    obtain ⟨h1, h2, h3⟩ := hl
    have hb : ∀ x ∈ b, n < x := by
      cases b with
      | nil => simp
      | cons y ys =>
        have h4 := hH rfl
        have h5 : n < y := by
          simp at h4 h
          omega
        intro x hx
        rcases List.mem_cons.1 hx with rfl | hx
        · exact h5
        · have := (List.pairwise_cons.1 h2).1 x hx
          omega
    refine ⟨h1, List.pairwise_cons.2 ⟨hb, h2⟩, fun x hx y hy => ?_⟩
    have hx' : x < n := by simpa using hA x hx
    rcases List.mem_cons.1 hy with rfl | hy
    · exact hx'
    · have := hb y hy; omega

/-- slices.Compact behind a sort. -/
theorem compactUpTo_spec (d : Array Int) (hs : ∀ i j, i ≤ j → j < d.size → d[i]! ≤ d[j]!) (m : Nat) (hm : m ≤ d.size) :
    Asc (Lib.compactUpTo d m) ∧ (∀ x, x ∈ Lib.compactUpTo d m ↔ ∃ i, i < m ∧ d[i]! = x) := by
  induction m with
  | zero => simp [Lib.compactUpTo, Asc]
  | succ m ih =>
    obtain ⟨h1, h2⟩ := ih (by omega)
    rw [Lib.compactUpTo_succ]
    by_cases hk : Lib.keeps d m = true
    · rw [if_pos hk]
      have hlt : ∀ x ∈ Lib.compactUpTo d m, x < d[m]! := by
        intro x hx
        obtain ⟨i, hi, rfl⟩ := (h2 x).1 hx
        unfold Lib.keeps at hk
        rw [decide_eq_true_iff] at hk
        rcases hk with hk | hk
        · omega
        · have a1 := hs i (m - 1) (by omega) (by omega)
          have a2 := hs (m - 1) m (by omega) (by omega)
          omega
      refine ⟨?_, fun x => ?_⟩
      · unfold Asc at *
        rw [List.pairwise_append]
        exact ⟨h1, by simp, fun x hx y hy => by simp at hy; subst hy; exact hlt x hx⟩
      · rw [List.mem_append, h2, List.mem_singleton]
        constructor
        · rintro (⟨i, hi, e⟩ | e)
          · exact ⟨i, by omega, e⟩
          · exact ⟨m, by omega, e.symm⟩
        · rintro ⟨i, hi, e⟩
          by_cases him : i = m
          · subst him; exact .inr e.symm
          · exact .inl ⟨i, by omega, e⟩
    · rw [if_neg hk, List.append_nil]
      have hk2 : m ≠ 0 ∧ d[m]! = d[m - 1]! := by
        unfold Lib.keeps at hk
        simp at hk
        exact hk
      refine ⟨h1, fun x => ?_⟩
      rw [h2]
      constructor
      · rintro ⟨i, hi, e⟩; exact ⟨i, by omega, e⟩
      · rintro ⟨i, hi, e⟩
        by_cases him : i = m
        · subst him; exact ⟨i - 1, by omega, by rw [← hk2.2]; exact e⟩
        · exact ⟨i, by omega, e⟩
theorem compact_sort (l : List Int) : Asc (Lib.compact (l.mergeSort fun x y => decide (x ≤ y))) ∧ ∀ x, x ∈ Lib.compact (l.mergeSort fun x y => decide (x ≤ y)) ↔ x ∈ l := by
  have hp := List.mergeSort_perm l (fun x y => decide (x ≤ y))
  have hs : (l.mergeSort fun x y => decide (x ≤ y)).Pairwise (fun x y => decide (x ≤ y) = true) :=
    List.pairwise_mergeSort (fun a b c h1 h2 => by simp at h1 h2 ⊢; omega) (fun a b => by simp; omega) l
  generalize (l.mergeSort fun x y => decide (x ≤ y)) = m at *
  have h := compactUpTo_spec m.toArray (fun i j hij hj => by
    have hj' : j < m.length := by simpa using hj
    rw [getElem!_pos m.toArray i (by simp; omega), getElem!_pos m.toArray j (by simp; omega)]
    by_cases e : i = j
    · subst e; simp
    · have := List.pairwise_iff_getElem.1 hs i j (by omega) hj' (by omega)
      simpa using this) m.length (by simp)
  refine ⟨h.1, fun x => ?_⟩
  show x ∈ Lib.compactUpTo m.toArray m.length ↔ _
  rw [h.2, ← hp.mem_iff]
  constructor
  · rintro ⟨i, hi, rfl⟩
    rw [getElem!_pos m.toArray i (by simpa using hi)]
    simp
  · intro hx
    obtain ⟨i, hi, rfl⟩ := List.getElem_of_mem hx
    exact ⟨i, hi, by rw [getElem!_pos m.toArray i (by simpa using hi)]; simp⟩
theorem compact_snoc (l : List Int) (x : Int) : Lib.compact ((l ++ [x]).mergeSort fun x y => decide (x ≤ y)) = insAsc (Lib.compact (l.mergeSort fun x y => decide (x ≤ y))) x := by
  obtain ⟨h1, h2⟩ := compact_sort l
  obtain ⟨h3, h4⟩ := compact_sort (l ++ [x])
  refine asc_ext h3 (insAsc_asc h1) fun y => ?_
  rw [h4, insAsc_mem, h2]; simp
end Go.Proofs.YtccpelfnkjckiaaDoor
