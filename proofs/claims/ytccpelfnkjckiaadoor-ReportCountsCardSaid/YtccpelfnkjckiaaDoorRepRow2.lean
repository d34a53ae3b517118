/-
  Reports of a row are put in order by slices.SortFunc.
-/
import Derived.Test.YtccpelfnkjckiaaDoorRepRow
namespace Go.Proofs.YtccpelfnkjckiaaDoor
open Go.RowKit Go.Sort

section
variable {α : Type} [Inhabited α] {enc : α → List Value}
theorem flatK_eq (hk : ∀ x, (enc x).length = 6) (d : Array α) : flatK enc 6 d = (d.toList.flatMap enc).toArray := by
  have hl : (d.toList.flatMap enc).length = d.size * 6 := by
    rw [List.length_flatMap]
    have : d.toList.map (fun a => (enc a).length) = List.replicate d.size 6 := by
      rw [List.map_congr_left (fun a _ => hk a), List.map_const']
      simp
    rw [this]; simp
  apply Array.ext
  · simp [hl]
  · intro t h1 h2
    have h1' : t < d.size * 6 := by simpa using h1
    have hq : t / 6 < d.size := by omega
    have e := get_flatK enc 6 d t h1'
    rw [getElem!_pos _ t (by simpa using h1)] at e
    rw [e]
    have hd : d.toList[t / 6]? = some d[t / 6]! := by rw [getElem!_pos d _ hq]; simp [hq]
    have hf := flat_getR (g := enc) (m := 6) hk hd (show t % 6 < 6 by omega)
    rw [show t / 6 * 6 + t % 6 = t by omega] at hf
    have hb : t % 6 < (enc d[t / 6]!).length := by rw [hk]; omega
    have h3 : t < (d.toList.flatMap enc).length := by omega
    rw [List.getElem?_eq_getElem h3, List.getElem?_eq_getElem hb] at hf
    rw [getElem!_pos (enc d[t / 6]!) (t % 6) hb]
    simpa using hf.symm
end

section
variable {w : World} {base g n cap m : Nat} {e : TypeId} {xs : List Value} {os : Array Obj}
theorem holds_own6 (h : w.ownsRow base e 6 (.slice (some ⟨g, 0, none⟩) n cap) n xs) : Holds id w g 0 xs.toArray := by
  rcases h.2 with ⟨h0, _⟩ | ⟨g', cap', cur, hv, hbase, hh, h1, h2, h3, h4⟩
  · cases h0
  · cases hv
    intro j hj
    have hj' : j < xs.length := by simpa using hj
    refine ⟨?_, by simp [World.frozen?, hh]⟩
    rw [Nat.zero_add, cell_of_row w g j cur e (0, 0) hh, getElem!_pos _ j hj]
    have : xs[j]? = cur.toList[j]? := by
      rw [← h4, List.getElem?_take_of_lt (by have := h.1; omega)]
    rw [List.getElem?_eq_getElem hj'] at this
    simp only [id]
    rw [← Array.getElem?_toList, ← this]; simp
theorem owns_put6 (h : w.ownsRow base e 6 (.slice (some ⟨g, 0, none⟩) n cap) n xs) (ts : List Value) (hl : ts.length = n * 6) :
    (grow (putRow id (Sort.ahead w m) g 0 ts.toArray) os).ownsRow base e 6 (.slice (some ⟨g, 0, none⟩) n cap) n ts := by
  rcases h.2 with ⟨h0, _⟩ | ⟨g', cap', cur, hv, hbase, hh, h1, h2, h3, _⟩
  · cases h0
  · cases hv
    refine ⟨hl, .inr ⟨g, cap, _, rfl, hbase, heap_put _ hh, h1, h2, by simp [putCells, h3], ?_⟩⟩
    rw [← hl]
    have := take_put (enc := (id : Value → Value)) cur ts (by omega)
    simpa using this
end

set_option maxHeartbeats 1000000 in
theorem sortRow_any (base g n cap : Nat) (P : Nat → Prop) (qs : List (Rep × Value × Value)) (w : World) (h : OwnReps w base P (.slice (some ⟨g, 0, none⟩) n cap) qs) (hn : qs.length = n) (h0 : 0 < n) (hm : n ≤ 1000000) :
    Calls Tryd.prog 43 #[.slice (some ⟨g, 0, none⟩) n cap, .func (.func 44) #[] #[]] w fun e w' =>
      e = .returned (.tuple #[]) ∧ w.grownBy w' (some g) ∧ ∃ qs', OwnReps w' base P (.slice (some ⟨g, 0, none⟩) n cap) qs' ∧ qs'.Perm qs ∧ (qs'.map (·.1)).Pairwise (fun a b => lessR b a = false) := by
  subst hn
  haveI : Inhabited (Fin qs.length) := ⟨⟨0, h0⟩⟩
  have hlt := rd_of_row h.1
  have hk : ∀ x : Fin qs.length, (Rep.cells qs[x]).length = 6 := fun _ => rfl
  have hone : ∀ x : Fin qs.length, ∀ v ∈ Rep.cells qs[x], v.oneCell' = true := by
    intro x v hv
    obtain ⟨h1, h2, -⟩ := h.2 qs[x] (List.getElem_mem _)
    obtain ⟨_, _, e1, -⟩ := h1
    obtain ⟨_, _, e2, -⟩ := h2
    simp only [Rep.cells, List.mem_cons, List.not_mem_nil, or_false] at hv
    rcases hv with rfl | rfl | rfl | rfl | rfl | rfl
    · rfl
    · rw [e1]; rfl
    · rw [e2]; rfl
    · rfl
    · rfl
    · rfl
  obtain ⟨ds, hds⟩ : ∃ ds : List (Fin qs.length), ds.map (fun x => qs[x]) = qs := ⟨List.finRange qs.length, by
    apply List.ext_getElem?
    intro i
    rw [List.getElem?_map]
    by_cases hi : i < qs.length
    · rw [List.getElem?_eq_getElem hi, List.getElem?_eq_getElem (by simpa using hi)]; simp
    · rw [List.getElem?_eq_none (by simpa using hi), List.getElem?_eq_none (by simpa using hi)]; rfl⟩
  have hlen : ds.length = qs.length := by have := congrArg List.length hds; simpa using this
  have hflat : ∀ es : List (Fin qs.length), es.flatMap (fun x => Rep.cells qs[x]) = (es.map fun x => qs[x]).flatMap Rep.cells := fun es => by rw [List.flatMap_map]
  have hsz : ds.toArray.size = qs.length := by simpa using hlen
  have hH : HoldsK (fun x : Fin qs.length => Rep.cells qs[x]) 6 w g 0 ds.toArray := by
    unfold HoldsK
    rw [flatK_eq hk, List.toList_toArray, hflat, hds]
    exact holds_own6 h.1
  have hW : ∀ (m : Nat) (os : Array Obj) (dk : Array (Fin qs.length)), w.grownBy (sortWorldK (fun x : Fin qs.length => Rep.cells qs[x]) 6 w g 0 m dk os) (some g) := fun m os dk => grownBy_put _
  have hne : ∀ b, (P b ∧ some b ≠ (Value.slice (some ⟨g, 0, none⟩) qs.length cap).ownBlock) → some b ≠ some g := fun b hb => hb.2
  have hcmp : CmpLays Tryd.prog 44 #[] (fun x : Fin qs.length => Rep.cells qs[x]) 6 (fun x y => cmpG qs[x].1 qs[y].1) g 0 ds.toArray.size w := by
    intro m os dk _ x y
    have hg := hW m os dk
    generalize sortWorldK (fun x : Fin qs.length => Rep.cells qs[x]) 6 w g 0 m dk os = X at hg ⊢
    have hx := h.2 qs[x] (List.getElem_mem _)
    have hy := h.2 qs[y] (List.getElem_mem _)
    refine (group2_any _ _ qs[x].1 qs[y].1 X ⟨qs[x].2.1, qs[x].2.2, rfl, (hx.1.grown hg hne).ints, (hx.2.1.grown hg hne).ints, hx.2.2⟩ ⟨qs[y].2.1, qs[y].2.2, rfl, (hy.1.grown hg hne).ints, (hy.2.1.grown hg hne).ints, hy.2.2⟩).mono ?_
    rintro e w' ⟨rfl, q, os', rfl⟩
    exact ⟨rfl, q, os', rfl⟩
  have hC := sortReps_any (fun x : Fin qs.length => Rep.cells qs[x]) hk hone (fun x y => cmpG qs[x].1 qs[y].1) (swo_rep fun x : Fin qs.length => qs[x].1) 44 #[] g 0 cap ds.toArray w (fun args w => by kernel_rfl) hcmp hH hlt.2.1 (by omega)
  rw [hsz] at hC
  refine hC.mono ?_
  rintro e w' ⟨rfl, d', m, os, hp, hs, rfl⟩
  have hpl := perm_of_permIn (by rw [hsz]; exact hp)
  have hg := hW m os d'
  refine ⟨rfl, hg, d'.toList.map fun x => qs[x], ⟨?_, ?_⟩, ?_, ?_⟩
  · have hl2 : d'.toList.length = qs.length := by rw [hpl.length_eq]; simpa using hlen
    have hl3 : ((d'.toList.map fun x => qs[x]).flatMap Rep.cells).length = qs.length * 6 := by
      have := congrArg Array.size (flatK_eq hk d')
      rw [hflat, size_flatK] at this
      have h4 : d'.size = qs.length := by simpa using hl2
      rw [h4] at this
      simpa using this.symm
    have h5 := owns_put6 (m := m) (os := os) h.1 ((d'.toList.map fun x => qs[x]).flatMap Rep.cells) hl3
    rw [List.length_map, hl2]
    unfold sortWorldK putRowK
    rw [flatK_eq hk, hflat]
    exact h5
  · intro q hq
    rw [List.mem_map] at hq
    obtain ⟨x, -, rfl⟩ := hq
    have hx := h.2 qs[x] (List.getElem_mem _)
    exact ⟨hx.1.grown hg hne, hx.2.1.grown hg hne, hx.2.2⟩
  · have := hpl.map (fun x : Fin qs.length => qs[x])
    rw [List.toList_toArray, hds] at this
    exact this
  · rw [List.map_map, List.pairwise_map, List.pairwise_iff_getElem]
    intro i j hi hj hij
    have hz : d'.size = qs.length := by rw [hp.1, hsz]
    have hi' : i < d'.size := by simpa using hi
    have hj' : j < d'.size := by simpa using hj
    have h6 := hs i j (by omega) hij (by omega)
    rw [getElem!_pos d' i hi', getElem!_pos d' j hj'] at h6
    have h7 : ¬ cmpG qs[d'[j]].1 qs[d'[i]].1 < 0 := by simpa [ltOf] using h6
    rw [cmpG_lt, ← lessR_iff] at h7
    simpa using h7
end Go.Proofs.YtccpelfnkjckiaaDoor
