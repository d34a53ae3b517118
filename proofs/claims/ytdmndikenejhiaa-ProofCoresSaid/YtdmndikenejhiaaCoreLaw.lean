/-
  PLAIN LAW: the clauses of the core alone are refuted by the same steps. No program.
-/
import Derived.Test.YtdmndikenejhiaaCore
namespace Go.Proofs.Ytdmndikenejhiaa

/-- The place of a number in a list. -/
def place (c : List Int) (x : Int) : Nat := c.findIdx fun y => decide (y = x)
def remap (c : List Int) (s : Stp) : Stp := if s.kind = 1 then { s with index := (place c s.index : Int) } else s
def coreF (f : Form) (c : List Int) : Form := ⟨f.ints, f.bools, f.atoms, c.map fun i => f.clauses.getD i.toNat []⟩
theorem place_at {c : List Int} {x : Int} (h : x ∈ c) : c[place c x]? = some x := by
  unfold place
  have h1 : c.findIdx (fun y => decide (y = x)) < c.length := List.findIdx_lt_length_of_exists ⟨x, h, by simp⟩
  have h2 := List.findIdx_getElem (w := h1)
  rw [List.getElem?_eq_getElem h1]
  simpa using h2
theorem place_first {c : List Int} {x : Int} {k : Nat} (h : c[k]? = some x) (hn : ∀ y ∈ c.take k, y ≠ x) : place c x = k := by
  have h1 := place_at (List.mem_of_getElem? h)
  refine Classical.byContradiction fun hne => ?_
  rcases Nat.lt_or_gt_of_ne hne with hlt | hgt
  · exact hn x (List.mem_of_getElem? (i := place c x) (by rw [List.getElem?_take, if_pos hlt]; exact h1)) rfl
  · have h2 := List.not_of_lt_findIdx (p := fun y => decide (y = x)) (xs := c) (i := k) hgt
    have h3 := (List.getElem?_eq_some_iff.1 h).2
    simp [h3] at h2
theorem remap_deriv {f : Form} {c : List Int} {s : Stp} {cs : List (List Int)} {d : List Int} (hd : deriv f s cs = some d) (hm : s.kind = 1 → s.index ∈ c) : deriv (coreF f c) (remap c s) cs = some d := by
  have hk := deriv_kind hd
  unfold remap
  split
  · rename_i k1
    obtain ⟨h0, h1⟩ := hk.2.2 k1
    unfold deriv at hd ⊢
    rw [if_pos k1, if_pos h0] at hd
    simp only [if_pos k1]
    rw [if_pos (by omega), Int.toNat_natCast]
    have h2 : (coreF f c).clauses[place c s.index]? = f.clauses[s.index.toNat]? := by
      show (c.map fun i => f.clauses.getD i.toNat [])[place c s.index]? = _
      rw [List.getElem?_map, place_at (hm k1), Option.map_some, List.getD_eq_getElem?_getD, List.getElem?_eq_getElem (show s.index.toNat < f.clauses.length by omega)]
      rfl
    rw [h2]; exact hd
  · rename_i k1
    unfold deriv at hd ⊢
    rw [if_neg k1] at hd ⊢
    exact hd
theorem remap_runS {f : Form} {c : List Int} {l : List Stp} {a cs : List (List Int)} (h : runS f a l = (cs, true)) (hm : ∀ s ∈ l, s.kind = 1 → s.index ∈ c) : runS (coreF f c) a (l.map (remap c)) = (cs, true) := by
  induction l generalizing a with
  | nil => exact h
  | cons s l ih =>
    rw [runS] at h
    rw [List.map_cons, runS]
    cases e : deriv f s a with
    | none => rw [e] at h; injection h with _ h; cases h
    | some d =>
      rw [e] at h
      rw [remap_deriv e (hm s (by simp))]
      exact ih h fun s hs => hm s (by simp [hs])
theorem core_refutes {f : Form} {l : List Stp} {c : List Int} (h : Refutes f l) (hc : IsCore l c) : Refutes (coreF f c) ((trim l).map (remap c)) := by
  obtain ⟨⟨cs, hg, h0, hl⟩, -⟩ := trim_refutes h
  exact ⟨cs, remap_runS hg fun s hs hk => (hc.2 _).2 ⟨s, hs, hk, rfl⟩, by simpa using h0, by simpa using hl⟩
theorem strict_len {c : List Int} {a b : Int} (h : c.Pairwise (· < ·)) (hx : ∀ x ∈ c, a ≤ x ∧ x < b) : (c.length : Int) ≤ b - a ∨ c = [] := by
  induction c generalizing a with
  | nil => exact .inr rfl
  | cons x r ih =>
    obtain ⟨h1, h2⟩ := List.pairwise_cons.1 h
    have hxx := hx x (by simp)
    left
    rcases ih (a := x + 1) h2 fun y hy => ⟨by have := h1 y hy; omega, (hx y (by simp [hy])).2⟩ with e | e
    · simp; omega
    · subst e; simp; omega
theorem core_small {a b d : Int} {f : Form} {l : List Stp} {c : List Int} (hs : SmallF a b d f) (h : Refutes f l) (hc : IsCore l c) : SmallF a b d (coreF f c) ∧ ∀ i ∈ c, 0 ≤ i ∧ i < f.clauses.length := by
  have hr : ∀ i ∈ c, 0 ≤ i ∧ i < f.clauses.length := fun i hi => by
    obtain ⟨s, h1, h2, rfl⟩ := (hc.2 i).1 hi
    exact trim_index h h1 h2
  refine ⟨⟨hs.1, hs.2.1, hs.2.2.1, ?_, hs.2.2.2.2.1, ?_⟩, hr⟩
  · have hlen : c.length ≤ f.clauses.length := by
      rcases strict_len (a := 0) (b := (f.clauses.length : Int)) hc.1 hr with e | e
      · omega
      · rw [e]; simp
    have := hs.2.2.2.1
    show (c.map _).length ≤ 40
    rw [List.length_map]; omega
  · intro xs hx
    obtain ⟨i, hi, rfl⟩ := List.mem_map.1 hx
    obtain ⟨h0, h1⟩ := hr i hi
    refine hs.2.2.2.2.2 _ ?_
    rw [List.getD_eq_getElem?_getD, List.getElem?_eq_getElem (show i.toNat < f.clauses.length by omega)]
    exact List.getElem_mem _
end Go.Proofs.Ytdmndikenejhiaa
