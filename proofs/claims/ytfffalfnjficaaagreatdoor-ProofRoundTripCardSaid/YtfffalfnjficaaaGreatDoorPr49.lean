/-
  PLAIN LAW: what Check answers of refutations; literals of trimmed steps.
-/
import Derived.Test.YtfffalfnjficaaaGreatDoorPr19
import Derived.Test.YtfffalfnjficaaaGreatDoorPr42
namespace Go.Proofs.YtfffalfnjficaaaGreatDoor
open Go.RowKit

theorem Refutes.chk {f : Form} {l : List Stp} (h : Refutes f l) : chk (runS f [] l) l.length = (0, 0) := by
  obtain ⟨cs, hg, h0, hl⟩ := h
  unfold Good at hg
  rw [hg]
  unfold Go.Proofs.YtfffalfnjficaaaGreatDoor.chk
  rw [if_pos rfl, if_neg (by rw [hl]; simp; intro e; rw [e] at h0; simp at h0)]
theorem chk_refutes {f : Form} {l : List Stp} (h : (chk (runS f [] l) l.length).2 = 0) : Refutes f l := by
  cases e : runS f [] l with
  | mk cs b =>
    rw [e] at h
    unfold chk at h
    cases b with
    | false => simp at h
    | true =>
      rw [if_pos rfl] at h
      split at h
      · simp at h
      · rename_i hn
        refine ⟨cs, e, ?_, ?_⟩
        · refine Nat.pos_of_ne_zero fun e => hn (.inl e)
        · exact Classical.byContradiction fun e => hn (.inr e)
theorem trim_lits {f : Form} {l : List Stp} (h : Refutes f l) {M : Nat} (hl : ∀ s ∈ l, s.lits.length ≤ M) : ∀ s ∈ trim l, s.lits.length ≤ M := by
  obtain ⟨cs, hg, -, -⟩ := h
  intro s hs
  rw [trim_is hg.back hg.kinds] at hs
  obtain ⟨i, hi, rfl⟩ := List.mem_map.1 hs
  obtain ⟨h1, h2⟩ := ndIx_mem hi
  have hm : l.getD i s0 ∈ l := by rw [List.getD_eq_getElem?_getD, List.getElem?_eq_getElem h1]; exact List.getElem_mem h1
  have := hl _ hm
  unfold bareR
  split
  · simp
  · split
    · exact this
    · simp
end Go.Proofs.YtfffalfnjficaaaGreatDoor
