/-
  WORDS: the reference's groups under way; reports that are only read.
-/
import Derived.Test.YtccpelfnkjckiaaDoorRepRow2
import Derived.Test.YtccpelfnkjckiaaDoorRepLaw
import Derived.Test.YtccpelfnkjckiaaDoorRepIns
import Derived.Test.YtccpelfnkjckiaaDoorRepFmt
namespace Go.Proofs.YtccpelfnkjckiaaDoor
open Go.RowKit Go.Sort

/-- One cell of a row of the call's own is stored. -/
theorem owns_set {w : World} {base g n cap k i : Nat} {e : TypeId} {xs : List Value} (h : w.ownsRow base e k (.slice (some ⟨g, 0, none⟩) n cap) n xs) (u : Value) :
    (w.setCell ⟨g, i, none⟩ u).ownsRow base e k (.slice (some ⟨g, 0, none⟩) n cap) n (xs.set i u) := by
  rcases h.2 with ⟨h0, _⟩ | ⟨g', cap', cur, hv, hbase, hh, h1, h2, h3, h4⟩
  · cases h0
  · cases hv
    refine ⟨by rw [List.length_set]; exact h.1, .inr ⟨g, cap, cur.setIfInBounds i u, rfl, hbase, ?_, h1, h2, by simpa using h3, ?_⟩⟩
    · simp [World.setCell, Array.getElem?_modify, hh]
    · rw [Array.toList_setIfInBounds, ← h4, List.take_set]
theorem owns_frozen {w : World} {base g n cap k : Nat} {e : TypeId} {xs : List Value} (h : w.ownsRow base e k (.slice (some ⟨g, 0, none⟩) n cap) n xs) (i : Nat) : w.frozen? ⟨g, i, none⟩ = false := by
  rcases h.2 with ⟨h0, _⟩ | ⟨g', cap', cur, hv, hbase, hh, h1, h2, h3, h4⟩
  · cases h0
  · cases hv
    simp [World.frozen?, hh]
theorem flat_set {qs : List (Rep × Value × Value)} {m j : Nat} {q q' : Rep × Value × Value} {u : Value} (hm : qs[m]? = some q) (hj : j < 6) (hc : Rep.cells q' = (Rep.cells q).set j u) :
    (qs.set m q').flatMap Rep.cells = (qs.flatMap Rep.cells).set (m * 6 + j) u := by
  induction qs generalizing m with
  | nil => simp at hm
  | cons a t ih =>
    cases m with
    | zero =>
      simp at hm
      subst hm
      rw [List.set_cons_zero, List.flatMap_cons, List.flatMap_cons, hc, List.set_append_left _ _ (by rw [show (Rep.cells a).length = 6 from rfl]; omega)]
      simp
    | succ m =>
      rw [List.set_cons_succ, List.flatMap_cons, List.flatMap_cons, ih (by simpa using hm), List.set_append_right _ _ (by rw [show (Rep.cells a).length = 6 from rfl]; omega)]
      congr 2
      rw [show (Rep.cells a).length = 6 from rfl]; omega
/-- The reports of the reference under way; findings lie in w. -/
structure RG (w wr : World) (v : Value) (qs : List (Rep × Value × Value)) : Prop where
  bl : Below w.heap.size w wr
  out : OwnReps wr w.heap.size (fun b => w.heap.size ≤ b) v qs
section
variable {w wr w' : World} {v : Value} {qs : List (Rep × Value × Value)} {g n cap m j : Nat}
theorem RG.keep (h : RG w wr v qs) (hb : Below wr.heap.size wr w') : RG w w' v qs := ⟨h.bl.trans (hb.mono h.bl.size), h.out.keep hb⟩
theorem RG.start (w : World) : RG w w (.slice none 0 0) [] := ⟨Below.refl _ _, OwnReps.nil _ _ _⟩
/-- A cell of a report is stored. -/
theorem RG.set {q q' : Rep × Value × Value} {u : Value} (h : RG w wr (.slice (some ⟨g, 0, none⟩) n cap) qs) (hn : n = qs.length) (hm : qs[m]? = some q) (hj : j < 6) (hc : Rep.cells q' = (Rep.cells q).set j u)
    (h1 : IntsO wr (fun b => w.heap.size ≤ b ∧ b ≠ g) q'.2.1 q'.1.sites) (h2 : IntsO wr (fun b => w.heap.size ≤ b ∧ b ≠ g) q'.2.2 q'.1.starts) (h3 : q'.1.ok) :
    RG w (wr.setCell ⟨g, m * 6 + j, none⟩ u) (.slice (some ⟨g, 0, none⟩) n cap) (qs.set m q') := by
  subst hn
  have hg := grownBy_set0 wr g (m * 6 + j) u
  have hgw : w.heap.size ≤ g := (h.out.1.lt g rfl).1
  have key : ∀ {v xs}, IntsO wr (fun b => w.heap.size ≤ b ∧ b ≠ g) v xs → IntsO (wr.setCell ⟨g, m * 6 + j, none⟩ u) (fun b => w.heap.size ≤ b ∧ some b ≠ (Value.slice (some ⟨g, 0, none⟩) qs.length cap).ownBlock) v xs := fun hx =>
    (hx.grown hg fun b hb e => by injection e with e; exact hb.2 e).mono fun b _ hb => ⟨hb.1, fun e => by injection e with e; exact hb.2 e⟩
  refine ⟨h.bl.grown hg h.bl.size fun k e => by injection e with e; omega, ?_, fun x hx => ?_⟩
  · rw [List.length_set, flat_set hm hj hc]
    exact owns_set h.out.1 u
  · rcases List.mem_or_eq_of_mem_set hx with hx | rfl
    · obtain ⟨a1, a2, a3⟩ := h.out.2 x hx
      have k2 : ∀ {v xs}, IntsO wr (fun b => w.heap.size ≤ b ∧ some b ≠ (Value.slice (some ⟨g, 0, none⟩) qs.length cap).ownBlock) v xs → IntsO wr (fun b => w.heap.size ≤ b ∧ b ≠ g) v xs := fun hx =>
        hx.mono fun b _ hb => ⟨hb.1, fun e => hb.2 (by rw [e]; rfl)⟩
      exact ⟨key (k2 a1), key (k2 a2), a3⟩
    · exact ⟨key h1, key h2, h3⟩
/-- One more report. -/
theorem RG.push {v' : Value} {o : Obj} {r : Rep} {sv tv : Value} (h : RG w wr v qs) (hu : IntsO wr (fun b => w.heap.size ≤ b ∧ some b ≠ v.ownBlock) sv r.sites) (ht : IntsO wr (fun b => w.heap.size ≤ b ∧ some b ≠ v.ownBlock) tv r.starts) (hs : r.ok)
    (ho : w'.ownsRow w.heap.size 61 6 v' (qs.length + 1) (qs.flatMap Rep.cells ++ Rep.cells (r, sv, tv))) (hg : (wr.alloc o).grownBy w' v.ownBlock) (hat : v'.ownBlock = v.ownBlock ∨ v'.ownBlock = some (wr.alloc o).heap.size) : RG w w' v' (qs ++ [(r, sv, tv)]) :=
  ⟨(h.bl.alloc h.bl.size o).grown hg (by have := h.bl.size; simp; omega) fun k e => (h.out.1.lt k e).1, h.out.push hu ht hs ho hg hat⟩
theorem RG.at_ {q : Rep × Value × Value} (h : RG w wr (.slice (some ⟨g, 0, none⟩) n cap) qs) (hn : n = qs.length) (hm : qs[m]? = some q) :
    g < wr.heap.size ∧ RCells wr g (m * 6) q.1 q.2.1 q.2.2 ∧ IntsO wr (fun b => w.heap.size ≤ b ∧ b ≠ g) q.2.1 q.1.sites ∧ IntsO wr (fun b => w.heap.size ≤ b ∧ b ≠ g) q.2.2 q.1.starts ∧ q.1.ok := by
  subst hn
  obtain ⟨a1, a2, a3⟩ := h.out.2 q (List.mem_of_getElem? hm)
  obtain ⟨-, b2, -, -, b5⟩ := rd_of_row h.out.1
  have k2 : ∀ {v xs}, IntsO wr (fun b => w.heap.size ≤ b ∧ some b ≠ (Value.slice (some ⟨g, 0, none⟩) qs.length cap).ownBlock) v xs → IntsO wr (fun b => w.heap.size ≤ b ∧ b ≠ g) v xs := fun hx =>
    hx.mono fun b _ hb => ⟨hb.1, fun e => hb.2 (by rw [e]; rfl)⟩
  refine ⟨b2, ?_, k2 a1, k2 a2, a3⟩
  have hg : ∀ r, r < 6 → (qs.flatMap Rep.cells)[m * 6 + r]? = (Rep.cells q)[r]? := fun r hr => flat_getR (g := Rep.cells) (m := 6) (fun _ => rfl) hm hr
  have hx : ∀ r u, r < 6 → (Rep.cells q)[r]? = some u → wr.cell? ⟨g, m * 6 + r, none⟩ = some u := fun r u hr hu => by
    have := b5 _ _ ((hg r hr).trans hu)
    rwa [Nat.zero_add] at this
  exact ⟨hx 0 _ (by omega) rfl, hx 1 _ (by omega) rfl, hx 2 _ (by omega) rfl, hx 3 _ (by omega) rfl, hx 4 _ (by omega) rfl, hx 5 _ (by omega) rfl⟩
end

/-- Reports that are only read. -/
def RepsQ (w : World) (v : Value) (qs : List (Rep × Value × Value)) : Prop :=
  ∃ A c, v = .slice A qs.length c ∧ qs.length ≤ c ∧ c ≤ maxLen ∧ Rd w A (qs.flatMap Rep.cells) ∧ ∀ q ∈ qs, Ints w q.2.1 q.1.sites ∧ Ints w q.2.2 q.1.starts ∧ q.1.ok
theorem RepsQ.reps {w : World} {v : Value} {qs : List (Rep × Value × Value)} (h : RepsQ w v qs) : Reps w v (qs.map (·.1)) := by
  obtain ⟨A, c, h1, h2, h3, h4, h5⟩ := h
  exact ⟨A, c, qs, rfl, h1, h2, h3, h4, h5⟩
theorem RepsQ.keep {w w' : World} {v : Value} {qs : List (Rep × Value × Value)} (h : RepsQ w v qs) (hb : Below w.heap.size w w') : RepsQ w' v qs := by
  obtain ⟨A, c, h1, h2, h3, h4, h5⟩ := h
  exact ⟨A, c, h1, h2, h3, h4.keep hb, fun q hq => ⟨(h5 q hq).1.keep hb, (h5 q hq).2.1.keep hb, (h5 q hq).2.2⟩⟩
theorem RG.repsQ {w wr : World} {v : Value} {qs : List (Rep × Value × Value)} (h : RG w wr v qs) : RepsQ wr v qs := by
  obtain ⟨A, c, h1, h2, h3, h4⟩ := owns_rd h.out.1
  exact ⟨A, c, h1, h2, h3, h4, fun q hq => ⟨(h.out.2 q hq).1.ints, (h.out.2 q hq).2.1.ints, (h.out.2 q hq).2.2⟩⟩
theorem RepsQ.nil (w : World) : RepsQ w (.slice none 0 0) [] := ⟨none, 0, rfl, by simp, by simp [maxLen], Rd.nil _ _, by simp⟩
end Go.Proofs.YtccpelfnkjckiaaDoor
