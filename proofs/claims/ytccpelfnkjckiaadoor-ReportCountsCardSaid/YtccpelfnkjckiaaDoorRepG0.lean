/-
  WORDS: the groups of findings; what Group does under way.
-/
import Derived.Test.YtccpelfnkjckiaaDoorRepSum
import Derived.Test.YtccpelfnkjckiaaDoorRepRow2
namespace Go.Proofs.YtccpelfnkjckiaaDoor
open Go.RowKit Go.Sort

set_option maxRecDepth 100000 in
set_option maxHeartbeats 1000000 in
theorem stable_none (p : Option Addr) (cap : Nat) (fv : Value) (w : World) : Calls Tryd.prog 61 #[.slice p 0 cap, .int .i64 0, fv] w fun e w' => e = .returned (.tuple #[]) ∧ w' = w := by
  go_enter Tryd.func61, Tryd.ntmps61
  go_wp2
  go_loop [7, 8] (fun va vb => va = .int .i64 0 ∧ vb = .int .i64 20) (fun _ _ => 0)
  case atStart => exact ⟨rfl, rfl⟩
  case round =>
    obtain ⟨rfl, rfl⟩ := hrel
    go_wp2_with fail
    refine (Tryd.insertionSortCmpFunc_none (α := Nat) p cap fv w).mono ?_
    rintro e w' ⟨rfl, rfl⟩
    go_wp2
    go_loop [6] (fun va => va = .int .i64 20) (fun _ => 0)
    case atStart => rfl
    case round =>
      subst hrel
      go_wp2
      go_end0
      exact ⟨rfl, rfl⟩
set_option maxRecDepth 100000 in
theorem sortStable_none (p : Option Addr) (cap : Nat) (fv : Value) (w : World) : Calls Tryd.prog 41 #[.slice p 0 cap, fv] w fun e w' => e = .returned (.tuple #[]) ∧ w' = w := by
  go_enter Tryd.func41, Tryd.ntmps41
  go_wp2_with fail
  refine (stable_none p cap fv w).mono ?_
  rintro e w' ⟨rfl, rfl⟩
  go_wp2
  go_end0
  exact ⟨rfl, rfl⟩

/-- The indices below k of the findings that were found. -/
def foundTo (fs : List Fnd) (k : Nat) : List Nat := (List.range k).filter fun i => (fs[i]?).any Fnd.found
theorem foundTo_succ (fs : List Fnd) (k : Nat) : foundTo fs (k + 1) = foundTo fs k ++ if (fs[k]?).any Fnd.found then [k] else [] := by
  unfold foundTo
  rw [List.range_succ, List.filter_append]
  congr 1
  by_cases h : (fs[k]?).any Fnd.found <;> simp [h]
theorem foundTo_lt (fs : List Fnd) (k : Nat) : ∀ i ∈ foundTo fs k, i < k := fun i hi => by
  unfold foundTo at hi; rw [List.mem_filter, List.mem_range] at hi; exact hi.1
theorem foundTo_len (fs : List Fnd) (k : Nat) : (foundTo fs k).length ≤ k := by
  have := List.length_filter_le (fun i => (fs[i]?).any Fnd.found) (List.range k)
  rw [List.length_range] at this; exact this
theorem foundTo_asc (fs : List Fnd) (k : Nat) : (foundTo fs k).Pairwise (· < ·) := List.Pairwise.filter _ List.pairwise_lt_range

/-- The order under way in Group. -/
structure GSt (w wr : World) (lv ov : Value) (xs : List Nat) : Prop where
  bl : Below w.heap.size w wr
  lb : Blk wr w.heap.size 45 #[lv]
  hi : w.heap.size + 1 ≤ wr.heap.size
  own : Own wr (w.heap.size + 1) ov (xs.map fun x => ((x : Nat) : Int))
theorem GSt.alloc {w wr : World} {lv ov : Value} {xs : List Nat} (h : GSt w wr lv ov xs) (o : Obj) : GSt w (wr.alloc o) lv ov xs :=
  ⟨h.bl.alloc h.bl.size o, h.lb.alloc o, by have := h.hi; simp; omega, ⟨h.own.1.alloc o, h.own.2⟩⟩
theorem GSt.push {w wr w' : World} {lv ov ov' : Value} {xs : List Nat} {x : Nat} {o : Obj} (h : GSt w wr lv ov xs) (hx : x ≤ 1000000)
    (ho : w'.ownsRow (w.heap.size + 1) 3 1 ov' (xs.length + 1) ((xs.map fun x => ((x : Nat) : Int)).map (Value.int .i64) ++ [.int .i64 (x : Int)])) (hg : (wr.alloc o).grownBy w' ov.ownBlock) : GSt w w' lv ov' (xs ++ [x]) := by
  have hlt : ∀ k, ov.ownBlock = some k → w.heap.size + 1 ≤ k := fun k e => (h.own.1.lt k e).1
  have e1 := h.hi
  refine ⟨?_, ?_, ?_, ⟨by simpa using ho, fun y hy => ?_⟩⟩
  · exact (h.bl.alloc h.bl.size o).grown hg (by have := h.bl.size; simp; omega) fun k e => by have := hlt k e; omega
  · exact (h.lb.alloc o).grown hg fun e => by have := hlt _ e.symm; omega
  · have h1 := hg.size; simp at h1; omega
  · rw [List.map_append, List.mem_append] at hy
    rcases hy with hy | hy
    · exact h.own.2 y hy
    · simp at hy; subst hy; exact ⟨by omega, by omega⟩

/-- The key of a finding, by its index. -/
def keyI (ps : List (Fnd × FndM)) (i : Nat) : Option (List Int) := (ps[i]?).map fun p => p.1.key
/-- Groups of indices: the findings that were found, those with the same kind and sites together. -/
def IsGroups (ps : List (Fnd × FndM)) (gs : List (List Nat)) : Prop :=
  (∀ g ∈ gs, g ≠ [] ∧ ∀ i ∈ g, ∀ j ∈ g, keyI ps i = keyI ps j) ∧ gs.flatten.Perm (foundTo (ps.map (·.1)) ps.length) ∧ gs.Pairwise (fun g h => ∀ i ∈ g, ∀ j ∈ h, keyI ps i ≠ keyI ps j) ∧ ∀ g ∈ gs, g.Pairwise (· < ·)
/-- The reports of findings, in order. -/
def IsReports (ps : List (Fnd × FndM)) (rs : List Rep) : Prop :=
  ∃ gs, rs.Perm (gs.map (repOf (ps.map (·.1)))) ∧ rs.Pairwise (fun a b => lessR b a = false) ∧ IsGroups ps gs
def GrpRet (w : World) (ps : List (Fnd × FndM)) (e : Ending) (w' : World) : Prop :=
  ∃ v qs, e = .returned v ∧ OwnReps w' w.heap.size (fun b => w.heap.size ≤ b) v qs ∧ IsReports ps (qs.map (·.1)) ∧ Below w.heap.size w w'

/-- Groups under way: gs are done, os is left of the ordered indices ys. -/
def DoneG (ps : List (Fnd × FndM)) (ys : List Nat) (gs : List (List Nat)) (os : List Nat) : Prop :=
  gs.flatten ++ os = ys ∧ (∀ g ∈ gs, g ≠ [] ∧ ∀ i ∈ g, ∀ j ∈ g, keyI ps i = keyI ps j) ∧ gs.Pairwise (fun g h => ∀ i ∈ g, ∀ j ∈ h, keyI ps i ≠ keyI ps j) ∧
  (∀ g ∈ gs, ∀ i ∈ g, ∀ j ∈ os, keyI ps i ≠ keyI ps j) ∧ ∀ g ∈ gs, g.Pairwise (· < ·)
theorem ltI_key {ps : List (Fnd × FndM)} {i j : Nat} (h : ltI ps i j) : ∃ x y, keyI ps i = some x ∧ keyI ps j = some y ∧ (cmpL x y < 0 ∨ (x = y ∧ i < j)) := by
  obtain ⟨p, q, h1, h2, h3⟩ := h
  refine ⟨p.1.key, q.1.key, by unfold keyI; rw [h1]; rfl, by unfold keyI; rw [h2]; rfl, ?_⟩
  rw [cmpF_key, cmpL_eq] at h3
  exact h3
theorem DoneG.step {ps : List (Fnd × FndM)} {ys os : List Nat} {gs : List (List Nat)} {n o0 : Nat} (h : DoneG ps ys gs os) (hy : ys.Pairwise (ltI ps)) (h0 : os[0]? = some o0) (hn1 : 1 ≤ n) (hn : n ≤ os.length)
    (hs : ∀ j x, j < n → os[j]? = some x → keyI ps x = keyI ps o0) (he : ∀ x, os[n]? = some x → keyI ps x ≠ keyI ps o0) : DoneG ps ys (gs ++ [os.take n]) (os.drop n) := by
  obtain ⟨d1, d2, d3, d4, d5⟩ := h
  have ho : os.Pairwise (ltI ps) := by rw [← d1, List.pairwise_append] at hy; exact hy.2.1
  have hog := List.pairwise_iff_getElem.1 ho
  have hl0 : 0 < os.length := by omega
  have e0 : os[0] = o0 := (List.getElem?_eq_some_iff.1 h0).2
  have htk : ∀ i ∈ os.take n, keyI ps i = keyI ps o0 := by
    intro i hi
    obtain ⟨j, hj, rfl⟩ := List.getElem_of_mem hi
    rw [List.length_take] at hj
    exact hs j _ (by omega) (by rw [List.getElem_take, List.getElem?_eq_getElem])
  have hdr : ∀ j ∈ os.drop n, keyI ps j ≠ keyI ps o0 := by
    intro j hj
    obtain ⟨m, hm, rfl⟩ := List.getElem_of_mem hj
    rw [List.length_drop] at hm
    have hnl : n < os.length := by omega
    have hen := he os[n] (List.getElem?_eq_getElem hnl)
    rw [List.getElem_drop]
    by_cases hm0 : m = 0
    · subst hm0; simpa using hen
    · obtain ⟨x1, y1, a1, a2, a3⟩ := ltI_key (hog 0 n hl0 hnl (by omega))
      obtain ⟨x2, y2, b1, b2, b3⟩ := ltI_key (hog n (n + m) hnl (by omega) (by omega))
      rw [e0] at a1
      rw [a2] at b1
      injection b1 with b1
      subst b1
      have a4 : cmpL x1 y1 < 0 := by
        rcases a3 with a3 | ⟨a3, -⟩
        · exact a3
        · exact absurd (by rw [a2, a1, a3]) hen
      have b4 : cmpL x1 y2 < 0 := by
        rcases b3 with b3 | ⟨b3, -⟩
        · exact cmpL_lt_trans a4 b3
        · rw [← b3]; exact a4
      rw [b2, a1]
      intro e
      injection e with e
      rw [e, cmpL_self] at b4
      omega
  refine ⟨?_, ?_, ?_, ?_, ?_⟩
  · rw [List.flatten_append, List.flatten_singleton, List.append_assoc, List.take_append_drop]; exact d1
  · intro g hg
    rcases List.mem_append.1 hg with hg | hg
    · exact d2 g hg
    · rw [List.mem_singleton] at hg
      subst hg
      refine ⟨fun e => ?_, fun i hi j hj => (htk i hi).trans (htk j hj).symm⟩
      have := congrArg List.length e
      rw [List.length_take, Nat.min_eq_left hn, List.length_nil] at this
      omega
  · rw [List.pairwise_append]
    refine ⟨d3, by simp, fun g hg k hk => ?_⟩
    rw [List.mem_singleton] at hk
    subst hk
    exact fun i hi j hj => d4 g hg i hi j (List.mem_of_mem_take hj)
  · intro g hg i hi j hj
    rcases List.mem_append.1 hg with hg | hg
    · exact d4 g hg i hi j (List.mem_of_mem_drop hj)
    · rw [List.mem_singleton] at hg
      subst hg
      rw [htk i hi]
      exact fun e => hdr j hj e.symm
  · intro g hg
    rcases List.mem_append.1 hg with hg | hg
    · exact d5 g hg
    · rw [List.mem_singleton] at hg
      subst hg
      have h1 : (os.take n).Pairwise (ltI ps) := ho.sublist (List.take_sublist _ _)
      refine List.Pairwise.imp_of_mem ?_ h1
      intro a b ha hb hab
      obtain ⟨x, y, q1, q2, q3⟩ := ltI_key hab
      rcases q3 with q3 | ⟨-, q3⟩
      · rw [htk a ha] at q1
        rw [htk b hb, q1] at q2
        injection q2 with q2
        rw [q2, cmpL_self] at q3; omega
      · exact q3
theorem DoneG.groups {ps : List (Fnd × FndM)} {ys : List Nat} {gs : List (List Nat)} (h : DoneG ps ys gs []) (hp : ys.Perm (foundTo (ps.map (·.1)) ps.length)) : IsGroups ps gs := by
  obtain ⟨d1, d2, d3, d4, d5⟩ := h
  rw [List.append_nil] at d1
  exact ⟨d2, by rw [d1]; exact hp, d3, d5⟩

theorem OwnReps.base {w : World} {B B' : Nat} {P Q : Nat → Prop} {v : Value} {qs : List (Rep × Value × Value)} (h : OwnReps w B P v qs) (hB : B' ≤ B) (hP : ∀ b, b < w.heap.size → P b → Q b) : OwnReps w B' Q v qs := by
  refine ⟨⟨h.1.1, ?_⟩, (h.mono hP).2⟩
  rcases h.1.2 with hn | ⟨g, cap, cur, h1, h2, h3⟩
  · exact .inl hn
  · exact .inr ⟨g, cap, cur, h1, Nat.le_trans hB h2, h3⟩
theorem info_rep : (Tryd.prog.info? 61).map (fun i => (i.zero, i.size, i.bytes)) = some (some (.agg #[.int .i64 0, .slice none 0 0, .slice none 0 0, .int .i64 0, .int .i64 0, .int .i64 0]), 6, 80) := by kernel_rfl
theorem six_one (a b c d : Int) (A B : Option Addr) (n m k l : Nat) : ∀ u ∈ ([.int .i64 a, .slice A n m, .slice B k l, .int .i64 b, .int .i64 c, .int .i64 d] : List Value), u.oneCell' = true := by
  intro u hu; simp at hu; rcases hu with rfl | rfl | rfl | rfl | rfl | rfl <;> rfl
theorem addr_addR (b o j : Nat) : (⟨b, o, none⟩ : Addr).add j = ⟨b, o + j, none⟩ := by
  unfold Addr.add
  split
  · rename_i h; subst h; rfl
  · rfl
theorem cut_fromR (b o n c k : Nat) (l : Int) (hl : l = (k : Int)) (hk : k ≤ n) (hn : n ≤ c) :
    ∃ dp, (∀ w, (Instr.slice 33 (.slice (some ⟨b, o, none⟩) n c) (some (.int .i64 l)) none none).run Tryd.prog w = .ok (.slice dp (n - k) (c - k)) w) ∧ (k < n → dp = some ⟨b, o + k, none⟩) := by
  subst hl
  refine ⟨if c = k then some ⟨b, o, none⟩ else some ⟨b, o + k, none⟩, fun w => ?_, fun h => by rw [if_neg (by omega)]⟩
  rw [run_slice_l (P := Tryd.prog) (w := w) 33 _ n c (by kernel_rfl) .i64 (k : Int) (by omega) (by omega), show (sizeOf (Tryd.prog.elem 33)).run Tryd.prog w = .ok 1 w by kernel_rfl]
  simp only [Result.andThen, sliced, Int.toNat_natCast, Nat.mul_one, Option.map_some, addr_addR]
/-- The length of a slice. -/
def lenOf : Value → Nat
  | .slice _ n _ => n
  | _ => 0
/-- Reports under way. -/
structure G2St (w wr : World) (N1 : Nat) (lv ov outv : Value) (os : List Nat) (qs : List (Rep × Value × Value)) : Prop where
  bl : Below w.heap.size w wr
  lb : Blk wr w.heap.size 45 #[lv]
  n1 : w.heap.size + 1 ≤ N1
  n2 : N1 ≤ wr.heap.size
  ord : IntsO wr (fun b => b < N1) ov (os.map fun x => ((x : Nat) : Int))
  out : OwnReps wr N1 (fun b => N1 ≤ b) outv qs
theorem G2St.keep {w wr w' : World} {N1 : Nat} {lv ov outv : Value} {os : List Nat} {qs : List (Rep × Value × Value)} (h : G2St w wr N1 lv ov outv os qs) (hb : Below wr.heap.size wr w') : G2St w w' N1 lv ov outv os qs :=
  ⟨h.bl.trans (hb.mono h.bl.size), h.lb.keep hb, h.n1, Nat.le_trans h.n2 hb.size, h.ord.keep hb, h.out.keep hb⟩
theorem G2St.n2a {w wr : World} {N1 : Nat} {lv ov outv : Value} {os : List Nat} {qs : List (Rep × Value × Value)} (h : G2St w wr N1 lv ov outv os qs) {o : Obj} : N1 ≤ (wr.alloc o).heap.size := by have := h.n2; simp; omega
theorem G2St.cut {w wr : World} {N1 bo oo cb n : Nat} {lv outv : Value} {os : List Nat} {qs : List (Rep × Value × Value)} {dp : Option Addr} (h : G2St w wr N1 lv (.slice (some ⟨bo, oo, none⟩) os.length cb) outv os qs) (hn : n ≤ os.length) (hdp : n < os.length → dp = some ⟨bo, oo + n, none⟩) :
    G2St w wr N1 lv (.slice dp (os.length - n) (cb - n)) outv (os.drop n) qs := by
  refine ⟨h.bl, h.lb, h.n1, h.n2, ?_, h.out⟩
  obtain ⟨A, c, hv, h1, h2, h3, h4⟩ := h.ord
  injection hv with e1 e2 e3
  subst e3
  rw [List.length_map] at h1 h4
  refine ⟨dp, cb - n, by rw [List.length_map, List.length_drop], by rw [List.length_map, List.length_drop]; omega, by omega, fun x hx => ?_, fun h0 => ?_⟩
  · rw [List.map_drop] at hx
    exact h3 x (List.mem_of_mem_drop hx)
  · rw [List.length_map, List.length_drop] at h0
    obtain ⟨b, off, q1, q2, q3, q4⟩ := h4 (by omega)
    rw [← e1] at q1
    injection q1 with q1
    injection q1 with q1 q5 _
    subst q1 q5
    refine ⟨bo, oo + n, hdp (by omega), q2, q3, fun j u hu => ?_⟩
    rw [Nat.add_assoc]
    refine q4 (n + j) u ?_
    rw [List.map_drop, List.map_drop, List.getElem?_drop] at hu
    exact hu
theorem G2St.push {w wr w' : World} {N1 : Nat} {lv ov outv outv' sv tv : Value} {os : List Nat} {qs : List (Rep × Value × Value)} {r : Rep} {o : Obj} (h : G2St w wr N1 lv ov outv os qs)
    (hu : IntsO wr (fun b => N1 ≤ b ∧ some b ≠ outv.ownBlock) sv r.sites) (ht : IntsO wr (fun b => N1 ≤ b ∧ some b ≠ outv.ownBlock) tv r.starts) (hs : r.ok)
    (ho : w'.ownsRow N1 61 6 outv' (qs.length + 1) (qs.flatMap Rep.cells ++ Rep.cells (r, sv, tv))) (hg : (wr.alloc o).grownBy w' outv.ownBlock) (hat : outv'.ownBlock = outv.ownBlock ∨ outv'.ownBlock = some (wr.alloc o).heap.size) :
    G2St w w' N1 lv ov outv' os (qs ++ [(r, sv, tv)]) := by
  have hlt : ∀ k, outv.ownBlock = some k → N1 ≤ k := fun k e => (h.out.1.lt k e).1
  have e1 := h.n1
  have e2 := h.n2
  refine ⟨?_, ?_, e1, ?_, ?_, h.out.push hu ht hs ho hg hat⟩
  · exact (h.bl.alloc h.bl.size o).grown hg (by have := h.bl.size; simp; omega) fun k e => by have := hlt k e; omega
  · exact (h.lb.alloc o).grown hg fun e => by have := hlt _ e.symm; omega
  · have h1 := hg.size; simp at h1; omega
  · exact (h.ord.grown (grown_alloc wr o) (fun b _ => by simp)).grown hg fun b hb e => by have := hlt _ e.symm; omega

end Go.Proofs.YtccpelfnkjckiaaDoor
