/-
  WORDS: a row of reports that the call has made. The order of findings, put in order by slices.SortStableFunc.
-/
import Derived.Test.YtccpelfnkjckiaaDoorRepSt
import Derived.Test.YtccpelfnkjckiaaDoorRepG2
import Derived.Test.YtccpelfnkjckiaaDoorStabS
import Derived.Test.YtccpelfnkjckiaaDoorRepSort
namespace Go.Proofs.YtccpelfnkjckiaaDoor
open Go.RowKit Go.Sort

/-- A row of reports that the call has made; their lists lie outside of it, in blocks of P. -/
def OwnReps (w : World) (base : Nat) (P : Nat → Prop) (v : Value) (ps : List (Rep × Value × Value)) : Prop :=
  w.ownsRow base 61 6 v ps.length (ps.flatMap Rep.cells) ∧ ∀ q ∈ ps, IntsO w (fun b => P b ∧ some b ≠ v.ownBlock) q.2.1 q.1.sites ∧ IntsO w (fun b => P b ∧ some b ≠ v.ownBlock) q.2.2 q.1.starts ∧ q.1.ok
section
variable {w w' : World} {base : Nat} {P Q : Nat → Prop} {v : Value} {ps : List (Rep × Value × Value)}
theorem OwnReps.nil (w : World) (base : Nat) (P : Nat → Prop) : OwnReps w base P (.slice none 0 0) [] := ⟨World.ownsRow_nil _ _ _ _, by simp⟩
theorem OwnReps.reps (h : OwnReps w base P v ps) : Reps w v (ps.map (·.1)) := by
  obtain ⟨A, c, h1, h2, h3, h4⟩ := owns_rd h.1
  exact ⟨A, c, ps, rfl, h1, h2, h3, h4, fun q hq => ⟨(h.2 q hq).1.ints, (h.2 q hq).2.1.ints, (h.2 q hq).2.2⟩⟩
theorem OwnReps.keep (h : OwnReps w base P v ps) (hb : Below w.heap.size w w') : OwnReps w' base P v ps := ⟨owns_keep h.1 hb, fun q hq => ⟨(h.2 q hq).1.keep hb, (h.2 q hq).2.1.keep hb, (h.2 q hq).2.2⟩⟩
theorem OwnReps.mono (h : OwnReps w base P v ps) (hP : ∀ b, b < w.heap.size → P b → Q b) : OwnReps w base Q v ps :=
  ⟨h.1, fun q hq => ⟨(h.2 q hq).1.mono fun b hb hp => ⟨hP b hb hp.1, hp.2⟩, (h.2 q hq).2.1.mono fun b hb hp => ⟨hP b hb hp.1, hp.2⟩, (h.2 q hq).2.2⟩⟩
theorem OwnReps.push {v' : Value} {o : Obj} {r : Rep} {sv tv : Value} (h : OwnReps w base P v ps) (hu : IntsO w (fun b => P b ∧ some b ≠ v.ownBlock) sv r.sites) (ht : IntsO w (fun b => P b ∧ some b ≠ v.ownBlock) tv r.starts) (hs : r.ok)
    (ho : w'.ownsRow base 61 6 v' (ps.length + 1) (ps.flatMap Rep.cells ++ Rep.cells (r, sv, tv))) (hg : (w.alloc o).grownBy w' v.ownBlock) (hat : v'.ownBlock = v.ownBlock ∨ v'.ownBlock = some (w.alloc o).heap.size) : OwnReps w' base P v' (ps ++ [(r, sv, tv)]) := by
  have key : ∀ {u xs}, IntsO w (fun b => P b ∧ some b ≠ v.ownBlock) u xs → IntsO w' (fun b => P b ∧ some b ≠ v'.ownBlock) u xs := by
    intro u xs h
    refine IntsO.mono (P := fun b => (P b ∧ some b ≠ v.ownBlock) ∧ b < w.heap.size) ?_ fun b _ hb => ⟨hb.1.1, ?_⟩
    · have h1 : IntsO w (fun b => (P b ∧ some b ≠ v.ownBlock) ∧ b < w.heap.size) u xs := h.mono fun b h1 h2 => ⟨h2, h1⟩
      exact (h1.grown (grown_alloc w o) (fun b _ => by simp)).grown hg fun b hb => hb.1.2
    · rcases hat with e | e <;> rw [e]
      · exact hb.1.2
      · simp; have := hb.2; omega
  refine ⟨by simpa using ho, fun q hq => ?_⟩
  rcases List.mem_append.1 hq with hq | hq
  · exact ⟨key (h.2 q hq).1, key (h.2 q hq).2.1, (h.2 q hq).2.2⟩
  · rw [List.mem_singleton] at hq; subst hq; exact ⟨key hu, key ht, hs⟩
end

/-- The order of the findings' indices. -/
def ltI (ps : List (Fnd × FndM)) (i j : Nat) : Prop := ∃ p q, ps[i]? = some p ∧ ps[j]? = some q ∧ (cmpF p.1 q.1 < 0 ∨ (cmpF p.1 q.1 = 0 ∧ i < j))

theorem perm_of_permIn {α : Type} [Inhabited α] {d d' : Array α} (h : PermIn 0 d.size d d') : d'.toList.Perm d.toList := by
  have h2 := h.2.2
  have e1 : d.extract 0 d.size = d := by simp
  have e2 : d'.extract 0 d.size = d' := by rw [← h.1]; simp
  rwa [e1, e2] at h2

set_option maxHeartbeats 1000000 in
theorem sortOrder_any (ps : List (Fnd × FndM)) (A : Option Addr) (c lb g n cap base : Nat) (xs : List Nat) (w0 wr : World) (hbl : Below w0.heap.size w0 wr) (hr : Rd w0 A (ps.flatMap Fnd.cells)) (hok : ∀ q ∈ ps, FndOk w0 q)
    (hlb : Blk wr lb 45 #[.slice A ps.length c]) (hb1 : lb < base) (hb2 : w0.heap.size ≤ base)
    (ho : Own wr base (.slice (some ⟨g, 0, none⟩) n cap) (xs.map fun x => ((x : Nat) : Int))) (hx : ∀ x ∈ xs, x < ps.length) (ha : xs.Pairwise (· < ·)) (hn : xs.length = n) (h0 : 0 < ps.length) (hm : n ≤ 1000000) :
    Calls Tryd.prog 41 #[.slice (some ⟨g, 0, none⟩) n cap, .func (.func 37) #[] #[.pointer (some ⟨lb, 0, none⟩)]] wr fun e w' =>
      e = .returned (.tuple #[]) ∧ wr.grownBy w' (some g) ∧ ∃ ys : List Nat, Own w' base (.slice (some ⟨g, 0, none⟩) n cap) (ys.map fun x => ((x : Nat) : Int)) ∧ ys.Perm xs ∧ ys.Pairwise (ltI ps) := by
  subst hn
  have hg0 : base ≤ g := (rd_of_row (by simpa using ho.1)).1
  haveI : Inhabited (Fin ps.length) := ⟨⟨0, h0⟩⟩
  obtain ⟨ds, hds⟩ : ∃ ds : List (Fin ps.length), ds.map (·.1) = xs := ⟨xs.pmap (fun x h => ⟨x, h⟩) hx, by rw [List.map_pmap]; simp⟩
  have hlen : ds.length = xs.length := by rw [← hds, List.length_map]
  have hmap : xs.map (fun x => ((x : Nat) : Int)) = ds.map fun x => ((x.1 : Nat) : Int) := by rw [← hds, List.map_map]; rfl
  have hown : wr.ownsRow base 3 1 (.slice (some ⟨g, 0, none⟩) xs.length cap) xs.length (ds.map (encK fun x => x.1)) := by
    have h := ho.1
    rw [hmap, List.map_map, List.length_map, hlen] at h
    exact h
  have hH : Holds (encK fun x : Fin ps.length => x.1) wr g 0 ds.toArray := holds_own hown ds rfl
  have hblk : g < wr.heap.size := (rd_of_row hown).2.1
  have hsz : ds.toArray.size = xs.length := by simpa using hlen
  have hW : ∀ (m : Nat) (os : Array Obj) (dk : Array (Fin ps.length)), wr.grownBy (sortWorld (encK fun x : Fin ps.length => x.1) wr g 0 m dk os) (some g) := fun m os dk => grownBy_put dk
  have hcmp : CmpLays1 Tryd.prog 37 #[.pointer (some ⟨lb, 0, none⟩)] (encK fun x : Fin ps.length => x.1) (fun x y => cmpF ps[x].1 ps[y].1) g 0 ds.toArray.size wr := by
    intro m os dk _ x y
    have hg := hW m os dk
    generalize sortWorld (encK fun x : Fin ps.length => x.1) wr g 0 m dk os = X at hg ⊢
    have hbX : Below w0.heap.size w0 X := hbl.grown hg hbl.size fun k e => by injection e with e; omega
    have hlX := hlb.grown hg (by simp; omega)
    have hc0 := hlX.cell 0
    simp only [List.getElem?_toArray, List.getElem?_cons_zero] at hc0
    refine (group1_any lb _ ps A c x.1 y.1 ps[x] ps[y] X hlX.lt hc0 rfl (hr.keep hbX) (fun q hq => (hok q hq).keep hbX) (List.getElem?_eq_getElem x.2) (List.getElem?_eq_getElem y.2)).mono ?_
    rintro e w' ⟨rfl, q, os', rfl⟩
    exact ⟨rfl, q, os', rfl⟩
  have hco : Coh (fun x y : Fin ps.length => cmpF ps[x].1 ps[y].1) (fun x => x.1) 0 ds.toArray.size ds.toArray := by
    intro p q _ h2 h3 _
    rw [← hds, List.pairwise_map, List.pairwise_iff_getElem] at ha
    have h3' : q < ds.length := by simpa using h3
    have := ha p q (by omega) h3' h2
    rw [getElem!_pos ds.toArray p (by simp; omega), getElem!_pos ds.toArray q (by simp; omega)]
    simpa using this
  have hC := sortStable_any (cap := cap) (cmpOk_fnd ps) (fun args w => by kernel_rfl) hcmp ⟨encK_one _, hH, hblk⟩ (by omega) hco
  rw [hsz] at hC
  refine hC.mono ?_
  rintro e w' ⟨rfl, d', ⟨m, os, hw⟩, hp, hs⟩
  have hpl := perm_of_permIn (by rw [hsz]; exact hp)
  refine ⟨rfl, by rw [hw]; exact hW m os d', d'.toList.map (·.1), ⟨?_, ?_⟩, ?_, ?_⟩
  · have hl2 : d'.toList.length = xs.length := by rw [hpl.length_eq]; simpa using hlen
    have h := owns_put (enc := encK fun x : Fin ps.length => x.1) (m := m) (os := os) hown d'.toList hl2
    rw [List.map_map, hw]
    have e : (List.map ((fun x => ((x : Nat) : Int)) ∘ fun x : Fin ps.length => x.1) d'.toList).length = xs.length := by rw [List.length_map, hl2]
    rw [e, List.map_map]
    exact h
  · intro x hx
    rw [List.mem_map] at hx
    obtain ⟨y, hy, rfl⟩ := hx
    refine ho.2 _ (List.mem_map.2 ⟨y, ?_, rfl⟩)
    rw [List.mem_map] at hy
    obtain ⟨z, hz, rfl⟩ := hy
    rw [← hds]
    exact List.mem_map.2 ⟨z, by simpa using hpl.mem_iff.1 hz, rfl⟩
  · have := hpl.map (fun x : Fin ps.length => x.1)
    rw [List.toList_toArray, hds] at this
    exact this
  · rw [List.pairwise_map, List.pairwise_iff_getElem]
    intro i j hi hj hij
    have hz : d'.size = xs.length := by rw [hp.1, hsz]
    have hi' : i < d'.size := by simpa using hi
    have hj' : j < d'.size := by simpa using hj
    have h := hs i j (by omega) hij (by omega)
    rw [getElem!_pos d' i hi', getElem!_pos d' j hj', ltK_iff] at h
    exact ⟨_, _, List.getElem?_eq_getElem (d'.toList[i]).2, List.getElem?_eq_getElem (d'.toList[j]).2, by simpa using h⟩
end Go.Proofs.YtccpelfnkjckiaaDoor
