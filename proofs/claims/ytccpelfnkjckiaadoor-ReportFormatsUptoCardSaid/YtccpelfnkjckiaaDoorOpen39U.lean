/-
  HOW AN ARGUMENT'S READING GIVES THE WORDS, WITH ITS BULK: strings, sites, reports.
-/
import Derived.Test.YtccpelfnkjckiaaDoorOpen39
import Derived.Test.YtccpelfnkjckiaaDoorRepText
namespace Go.Proofs.YtccpelfnkjckiaaDoor
open Go.ChangeShapes Go.WideShapes Go.ChangeAt Go.RowKit Go.Deep Go.Joins

theorem bulk_part {H : Type} {d : DataW H} {l : List (DataW H)} (h : d ∈ l) : Rows.uptoBulk d ≤ Rows.uptoBulkAll l := by
  induction l with
  | nil => cases h
  | cons x r ih =>
    simp only [Rows.uptoBulkAll]
    cases List.mem_cons.1 h with
    | inl e => subst e; omega
    | inr e => have := ih e; omega
theorem bulk_one {H : Type} (d : DataW H) : 1 ≤ Rows.uptoBulk d := by
  cases d with
  | lit l => cases l <;> simp [Rows.uptoBulk]
  | nil => simp [Rows.uptoBulk]
  | ptr d => simp [Rows.uptoBulk]
  | slice elems spare => simp [Rows.uptoBulk]
  | agg parts => simp [Rows.uptoBulk]
  | iface t d => simp [Rows.uptoBulk]
  | map entries => simp [Rows.uptoBulk]
  | held h => simp [Rows.uptoBulk]
theorem bulk_len {H : Type} (l : List (DataW H)) : l.length ≤ Rows.uptoBulkAll l := by
  induction l with
  | nil => simp [Rows.uptoBulkAll]
  | cons x r ih => have := bulk_one x; simp only [Rows.uptoBulkAll, List.length_cons]; omega
theorem bulk_bound {H : Type} {l : List (DataW H)} (hk : Rows.uptoSmall H l = true) : Rows.uptoBulkAll l ≤ 1048576 := by
  simpa [Rows.uptoSmall] using hk
theorem bulk_slice {H : Type} {n : Nat} {D : Nat → DataW H} {sp : List (DataW H)} : n ≤ Rows.uptoBulk (.slice ((List.range n).map D) sp) ∧ ∀ i, i < n → Rows.uptoBulk (D i) ≤ Rows.uptoBulk (.slice ((List.range n).map D) sp) := by
  have h1 := bulk_len ((List.range n).map D)
  rw [List.length_map, List.length_range] at h1
  simp only [Rows.uptoBulk]
  refine ⟨by omega, fun i hi => ?_⟩
  have h2 := bulk_part (d := D i) (l := (List.range n).map D) (List.mem_map.2 ⟨i, List.mem_range.2 hi, rfl⟩)
  omega

section
variable {H : Type} {enc : TypeId × Value → H} {P : Program} {w : World}
/-- A slice of whatever elements, with its parts' data. -/
theorem open_slX {α : Type} {Q : α → DataW H → Prop} {g : α → List Value} {t e : TypeId} {fuel k : Nat} {v : Value} {x : DataW H × List MemPlace} (ht : P.underlying t = some (.slice e)) (hk : P.cellsOf e = k) (hk0 : 0 < k) (hg : ∀ a, (g a).length = k)
    (conv : ∀ n cs y, DataW.trod enc P w 0 (fun _ => true) true n e cs = some y → ∃ a, cs = g a ∧ Q a y.1)
    (h : DataW.trod enc P w 0 (fun _ => true) true fuel t [v] = some x) :
    ∃ (xs : List α) (A : Option Addr) (c : Nat) (D : Nat → DataW H), v = .slice A xs.length c ∧ xs.length ≤ c ∧ c ≤ maxLen ∧ Rd w A (xs.flatMap g) ∧ (∀ i a, xs[i]? = some a → Q a (D i)) ∧
      (xs = [] ∨ ∃ sp, x.1 = .slice ((List.range xs.length).map D) sp) := by
  rcases open_slice ht h with ⟨h0, _⟩ | ⟨a, len, cap, m, n, D, Pl, hcs, _, hl, hm, hmm, hx, hi⟩
  · injection h0 with h0
    subst h0
    exact ⟨[], none, 0, fun _ => .nil, rfl, by simp, by simp [maxLen], Rd.nil _ _, by simp, .inl rfl⟩
  · injection hcs with hcs
    subst hcs
    have hmc : m = cap := by simpa using hmm
    subst hmc
    have key : ∀ i, i < len → ∃ b : α, Q b (D i) ∧ ∀ r u, (g b)[r]? = some u → w.cell? (a.add (i * k + r)) = some u := by
      intro i hil
      obtain ⟨cs', hc, htr⟩ := hi i (by omega)
      obtain ⟨b, hb, hQ⟩ := conv _ _ _ htr
      refine ⟨b, hQ, fun r u hu => ?_⟩
      obtain ⟨_, hcl, hat⟩ := World.cells?_some hc
      rw [hk] at hat hcl
      have hr : r < k := by rw [← hg b]; exact (List.getElem?_eq_some_iff.1 hu).1
      have := hat r hr
      rw [Go.Deep.add_add] at this
      rw [this, hb]
      exact hu
    obtain ⟨xs, hxl, hxs⟩ := list_of key
    subst hxl
    refine ⟨xs, some a, m, D, rfl, hl, hm, ?_, fun i b hb => (hxs i b hb).1, .inr ⟨_, by rw [hx]⟩⟩
    · intro hpos
      have hx0 : 0 < xs.length := by
        rcases xs with _ | ⟨y, ys⟩
        · simp at hpos
        · simp
      obtain ⟨b0, hb0⟩ : ∃ b, xs[0]? = some b := ⟨_, List.getElem?_eq_getElem hx0⟩
      obtain ⟨u0, hu0⟩ : ∃ u, (g b0)[0]? = some u := ⟨_, List.getElem?_eq_getElem (by rw [hg]; exact hk0)⟩
      have hc0 := (hxs 0 b0 hb0).2 0 u0 hu0
      obtain ⟨b, off, spot⟩ := a
      have hspot : spot = none := by simpa [Addr.add] using World.cell?_spot hc0
      subst hspot
      have hblk := World.block_lt_of_cell? w _ hc0
      refine ⟨b, off, rfl, by simpa [Addr.add] using hblk, fun j u hu => ?_⟩
      obtain ⟨i, c, r, h1, h2, h3, h4⟩ := flatMap_at hg hu
      have := (hxs i c h1).2 r u h2
      rw [h3, ← Go.WideShapes.add_plain]
      exact this

theorem rd_intsU {t e : TypeId} {fuel : Nat} {v : Value} {x : DataW H × List MemPlace} (ht : P.underlying t = some (.slice e)) (he : P.underlying e = some (.int .i64)) (hc : P.cellsOf e = 1)
    (h : DataW.trod enc P w 0 (fun _ => true) true fuel t [v] = some x) : ∃ xs, Ints w v xs ∧ xs.length ≤ Rows.uptoBulk x.1 := by
  obtain ⟨xs, A, c, D, rfl, h1, h2, h3, h4, h5⟩ := open_slX (α := Int) (Q := fun a _ => I64 a) (g := fun a => [.int .i64 a]) ht hc (by omega) (fun _ => rfl)
    (fun n cs y hy => by obtain ⟨a, rfl, _, hw⟩ := DataW.trod_int he hy; exact ⟨a, rfl, i64_of_wf hw⟩) h
  rw [flatMap_one] at h3
  refine ⟨xs, ⟨A, c, rfl, h1, h2, fun x hx => ?_, h3⟩, ?_⟩
  · obtain ⟨i, hi, rfl⟩ := List.getElem_of_mem hx
    exact h4 i _ (List.getElem?_eq_getElem hi)
  · rcases h5 with rfl | ⟨sp, e⟩
    · simp
    · rw [e]; exact bulk_slice.1
theorem rd_strsU {t e : TypeId} {fuel : Nat} {v : Value} {x : DataW H × List MemPlace} (ht : P.underlying t = some (.slice e)) (he : P.underlying e = some .string) (hc : P.cellsOf e = 1)
    (h : DataW.trod enc P w 0 (fun _ => true) true fuel t [v] = some x) (hb : Rows.uptoBulk x.1 ≤ 1048576) : ∃ l, Strs w v l ∧ ∀ s ∈ l, s.length ≤ 1048576 := by
  obtain ⟨xs, A, c, D, rfl, h1, h2, h3, h4, h5⟩ := open_slX (α := List UInt8) (Q := fun a d => d = .lit (.string a)) (g := fun a => [.string ⟨a.toArray⟩]) ht hc (by omega) (fun _ => rfl)
    (fun n cs y hy => by obtain ⟨s, rfl, rfl, _⟩ := DataW.trod_string he hy; exact ⟨s.data.toList, rfl, rfl⟩) h
  rw [flatMap_one] at h3
  have hl : ∀ s ∈ xs, s.length ≤ 1048576 := fun s hs => by
    obtain ⟨i, hi, rfl⟩ := List.getElem_of_mem hs
    rcases h5 with rfl | ⟨sp, e⟩
    · simp at hi
    · have h6 := bulk_slice (n := xs.length) (D := D) (sp := sp)
      have h7 := h6.2 i hi
      rw [e] at hb
      rw [h4 i _ (List.getElem?_eq_getElem hi)] at h7
      simp only [Rows.uptoBulk] at h7 hb
      omega
  exact ⟨xs, ⟨A, c, rfl, h1, h2, fun s hs => by have := hl s hs; omega, h3⟩, hl⟩
end

section
variable {H : Type} {enc : TypeId × Value → H} {w : World}
set_option maxRecDepth 100000 in
theorem rd_sites {fuel : Nat} {v : Value} {x : DataW H × List MemPlace} (h : DataW.trod enc Tryd.prog w 0 (fun _ => true) true fuel 65 [v] = some x) : ∃ l, Diffs w v l := by
  have cS : Tryd.prog.cellsOf 90 = 3 := by kernel_rfl
  obtain ⟨xs, A, c, D, rfl, h1, h2, h3, h4, -⟩ := open_slX (α := Diff) (Q := fun a _ => a.ok) (g := Diff.cells) Tryd.underlying65 cS (by omega) (fun _ => rfl)
    (fun n cs y hy => by
      obtain ⟨xs, n1, _, _, hlen, hxl, hf⟩ := DataW.trod_struct Tryd.underlying90 hy
      rw [cS] at hlen
      match cs, hlen with
      | [c0, c1, c2], _ =>
        match xs, hxl with
        | [x0, x1, x2], _ =>
          have g0 := fld hf 0 3 0 1 _ rfl rfl rfl cI
          have g1 := fld hf 1 3 1 1 _ rfl rfl rfl cI
          have g2 := fld hf 2 3 2 1 _ rfl rfl rfl cI
          obtain ⟨a0, rfl, h0⟩ := int_at Tryd.underlying3 (v := c0) g0
          obtain ⟨a1, rfl, h1⟩ := int_at Tryd.underlying3 (v := c1) g1
          obtain ⟨a2, rfl, h2⟩ := int_at Tryd.underlying3 (v := c2) g2
          exact ⟨⟨a0, a1, a2⟩, rfl, h0, h1, h2⟩) h
  exact ⟨xs, A, c, rfl, h1, h2, fun d hd => by obtain ⟨i, hi, rfl⟩ := List.getElem_of_mem hd; exact h4 i _ (List.getElem?_eq_getElem hi), h3⟩
set_option maxRecDepth 100000 in
theorem rd_repsU {fuel : Nat} {v : Value} {x : DataW H × List MemPlace} (h : DataW.trod enc Tryd.prog w 0 (fun _ => true) true fuel 48 [v] = some x) (hb : Rows.uptoBulk x.1 ≤ 1048576) : ∃ rs, Reps w v rs ∧ rs.length ≤ 1048576 ∧ ∀ r ∈ rs, r.sites.length ≤ 1048576 := by
  obtain ⟨xs, A, c, D, rfl, h1, h2, h3, h4, h5⟩ := open_slX (α := Rep × Value × Value) (Q := fun p d => (Ints w p.2.1 p.1.sites ∧ Ints w p.2.2 p.1.starts ∧ p.1.ok) ∧ p.1.sites.length ≤ Rows.uptoBulk d) (g := Rep.cells) Tryd.underlying48 cRep (by omega) (fun _ => rfl)
    (fun n cs y hy => by
      obtain ⟨xs, n1, _, hyd, hlen, hxl, hf⟩ := DataW.trod_struct Tryd.underlying61 hy
      rw [cRep] at hlen
      match cs, hlen with
      | [c0, c1, c2, c3, c4, c5], _ =>
        match xs, hxl with
        | [x0, x1, x2, x3, x4, x5], _ =>
          have g0 := fld hf 0 3 0 1 _ rfl rfl rfl cI
          have g1 := fld hf 1 33 1 1 _ rfl rfl rfl cIs
          have g2 := fld hf 2 33 2 1 _ rfl rfl rfl cIs
          have g3 := fld hf 3 3 3 1 _ rfl rfl rfl cI
          have g4 := fld hf 4 3 4 1 _ rfl rfl rfl cI
          have g5 := fld hf 5 3 5 1 _ rfl rfl rfl cI
          obtain ⟨a0, rfl, h0⟩ := int_at Tryd.underlying3 (v := c0) g0
          obtain ⟨ss, hss, hsl⟩ := rd_intsU (v := c1) Tryd.underlying33 Tryd.underlying3 (by kernel_rfl) g1
          obtain ⟨ts, hts, _⟩ := rd_intsU (v := c2) Tryd.underlying33 Tryd.underlying3 (by kernel_rfl) g2
          obtain ⟨a3, rfl, h3⟩ := int_at Tryd.underlying3 (v := c3) g3
          obtain ⟨a4, rfl, h4⟩ := int_at Tryd.underlying3 (v := c4) g4
          obtain ⟨a5, rfl, h5⟩ := int_at Tryd.underlying3 (v := c5) g5
          refine ⟨(⟨a0, ss, ts, a3, a4, a5⟩, c1, c2), rfl, ⟨hss, hts, h0, h3, h4, h5⟩, ?_⟩
          rw [hyd]
          have := bulk_part (d := x1.1) (l := [x0, x1, x2, x3, x4, x5].map (·.1)) (by simp)
          simp only [Rows.uptoBulk] at this ⊢
          omega) h
  have hl : xs.length ≤ 1048576 ∧ ∀ i (hi : i < xs.length), xs[i].1.sites.length ≤ 1048576 := by
    rcases h5 with rfl | ⟨sp, e⟩
    · simp
    · have h6 := bulk_slice (n := xs.length) (D := D) (sp := sp)
      rw [e] at hb
      refine ⟨by have := h6.1; omega, fun i hi => ?_⟩
      have h7 := h6.2 i hi
      have h8 := (h4 i _ (List.getElem?_eq_getElem hi)).2
      omega
  refine ⟨xs.map (·.1), ⟨A, c, xs, rfl, rfl, h1, h2, h3, fun q hq => ?_⟩, by simpa using hl.1, fun r hr => ?_⟩
  · obtain ⟨i, hi, rfl⟩ := List.getElem_of_mem hq
    exact (h4 i _ (List.getElem?_eq_getElem hi)).1
  · obtain ⟨q, hq, rfl⟩ := List.mem_map.1 hr
    obtain ⟨i, hi, rfl⟩ := List.getElem_of_mem hq
    exact hl.2 i hi
end
end Go.Proofs.YtccpelfnkjckiaaDoor
