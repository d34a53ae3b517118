/-
  WORDS: the report under way in report.summary.
-/
import Derived.Test.YtccpelfnkjckiaaDoorRepFnd
import Derived.Test.YtccpelfnkjckiaaDoorOwn
import Derived.Deep.RegionLaw
import Derived.RegionTactic
namespace Go.Proofs.YtccpelfnkjckiaaDoor
open Go.RowKit Go.Sort

/-- append onto a row of the call's own, as one step of a region that draws its order. -/
theorem step_append_ownR {P : Program} {ops : Array Oper} {o : Oper} {a : Act} {w : World} {K : Act → World → Prop} {Q : Exit → Act → World → Prop} {E : Prop} (hgd : o.guard = none) (s x : Operand) (t : TypeId)
    (ho : o.op = .call { callee := .builtin .append, args := #[s, x], argTypes := #[t, t] })
    (base : Nat) (e : TypeId) (i : TypeInfo) (z : Value) (size bytes : Nat) (ht : P.underlying t = some (.slice e)) (hi : P.info? e = some i) (hz : i.zero = some z)
    (hsize : i.size = size) (hby : i.bytes = bytes) (hzs : z.cells.size = size) (hsz : 0 < size)
    (v : Value) (n : Nat) (xs : List Value) (hs : a.eval s = v) (hown : w.ownsRow base e size v n xs)
    (ad : Addr) (m c : Nat) (news : List Value) (hx : a.eval x = .slice (some ad) m c) (hl : news.length = m * size) (hnews : ∀ j u, news[j]? = some u → w.cell? (ad.add j) = some u) (h1 : ∀ u ∈ news, u.oneCell' = true)
    (h63 : n + m ≤ maxLen) (hbytes : (n + m) * bytes ≤ 140737488355328) (hbase : base ≤ w.heap.size)
    (h : ∀ v' w', w'.ownsRow base e size v' (n + m) (xs ++ news) → w.grownBy w' v.ownBlock → (v'.ownBlock = v.ownBlock ∨ v'.ownBlock = some w.heap.size) → K (a.put o.dst v') w') :
    if Region.wanted o (yielded ops a.tmps) = true then Oper.wp P o a w K Q else E := by
  have hw : Region.wanted o (yielded ops a.tmps) = true := by simp [Region.wanted, hgd]
  rw [if_pos hw]
  obtain ⟨v', w', hr, h2, h3, _, h5⟩ := run_append_own_at (P := P) w base t o.type e i z size bytes ht hi hz hsize hby hzs hsz v n xs hown ad m c news hl hnews h1 h63 hbytes hbase
  unfold Oper.wp execOp
  simp only [ho, resolve, invoke, builtin, Sem.run_bind, Sem.run_pure, Result.andThen_ok, List.map_toArray, List.map_cons, List.map_nil, hs, hx, hr]
  exact h v' w' h2 h3 h5

theorem Below.al {a w : World} (h : Below a.heap.size a w) (o : Obj) : Below a.heap.size a (w.alloc o) := h.alloc h.size o

/-- A report whose lists lie in blocks of P. -/
def IsRepO (w : World) (P : Nat → Prop) (v : Value) (r : Rep) : Prop :=
  ∃ sv tv, v = .agg #[.int .i64 r.kind, sv, tv, .int .i64 r.count, .int .i64 r.best, .int .i64 r.score] ∧ IntsO w P sv r.sites ∧ IntsO w P tv r.starts ∧ r.ok
theorem IsRepO.rep {w : World} {P : Nat → Prop} {v : Value} {r : Rep} (h : IsRepO w P v r) : IsRep w v r := by
  obtain ⟨sv, tv, h1, h2, h3, h4⟩ := h
  exact ⟨sv, tv, h1, h2.ints, h3.ints, h4⟩

/-- The report under way lies in block rb; its starts lie from block N0 on, its sites lie below. -/
structure SumSt (w wr : World) (rb N0 : Nat) (kind cnt best : Int) (sv tv : Value) (sites sts : List Int) : Prop where
  bl : Below w.heap.size w wr
  h1 : w.heap.size < rb
  h2 : rb < N0
  h3 : N0 ≤ wr.heap.size
  res : Blk wr w.heap.size 61 #[.int .i64 0, .slice none 0 0, .slice none 0 0, .int .i64 0, .int .i64 0, .int .i64 0]
  blk : Blk wr rb 61 #[.int .i64 kind, sv, tv, .int .i64 cnt, .int .i64 best, .int .i64 0]
  own : Own wr N0 tv sts
  sit : IntsO wr (fun b => b < N0 ∧ b ≠ rb ∧ w.heap.size < b) sv sites

section
variable {w wr w' : World} {rb N0 : Nat} {kind cnt best : Int} {sv tv : Value} {sites sts : List Int}

theorem SumSt.drewN (h : SumSt w wr rb N0 kind cnt best sv tv sites sts) (n : Nat) : SumSt w (wr.drewN n) rb N0 kind cnt best sv tv sites sts :=
  ⟨bdrew h.bl n, h.h1, h.h2, h.h3, h.res, h.blk, h.own, h.sit⟩
theorem SumSt.drew (h : SumSt w wr rb N0 kind cnt best sv tv sites sts) : SumSt w wr.drew rb N0 kind cnt best sv tv sites sts := h.drewN 1

/-- Behind the append onto the starts, ahead of the store. -/
theorem SumSt.push {tv' : Value} {x : Int} {o : Obj} (h : SumSt w wr rb N0 kind cnt best sv tv sites sts) (hx : I64 x)
    (ho : w'.ownsRow N0 3 1 tv' (sts.length + 1) (sts.map (Value.int .i64) ++ [.int .i64 x])) (hg : (wr.alloc o).grownBy w' tv.ownBlock) :
    SumSt w (w'.setCell ⟨rb, 2, none⟩ tv') rb N0 kind cnt best sv tv' sites (sts ++ [x]) ∧ Blk w' rb 61 #[.int .i64 kind, sv, tv, .int .i64 cnt, .int .i64 best, .int .i64 0] := by
  have hlt : ∀ k, tv.ownBlock = some k → N0 ≤ k ∧ k < wr.heap.size := fun k e => h.own.1.lt k e
  have e1 := h.h1
  have e2 := h.h2
  have e3 := h.h3
  have hb2 : Blk w' rb 61 #[.int .i64 kind, sv, tv, .int .i64 cnt, .int .i64 best, .int .i64 0] := (h.blk.alloc o).grown hg fun e => by have := hlt _ e.symm; omega
  have hset : w'.grownBy (w'.setCell ⟨rb, 2, none⟩ tv') (some rb) := grownBy_set0 _ _ _ _
  have ho' : Own w' N0 tv' (sts ++ [x]) := ⟨by simpa using ho, fun y hy => by
    rcases List.mem_append.1 hy with hy | hy
    · exact h.own.2 y hy
    · rw [List.mem_singleton] at hy; subst hy; exact hx⟩
  refine ⟨⟨?_, e1, e2, ?_, ?_, hb2.set_ 2 tv', ⟨ho'.1.kept hset (own_ne ho'.1 (by omega)), ho'.2⟩, ?_⟩, hb2⟩
  · exact ((h.bl.alloc h.bl.size o).grown hg (by have := h.bl.size; simp; omega) fun k e => by have := hlt k e; omega).grown hset (by have h1 := hg.size; have h2 := h.bl.size; simp at h1; omega) fun k e => by injection e with e; omega
  · have h4 := hg.size; simp at h4 ⊢; omega
  · exact ((h.res.alloc o).grown hg fun e => by have := hlt _ e.symm; omega).grown hset (by simp; omega)
  · exact ((h.sit.grown (grown_alloc wr o) (fun b _ => by simp)).grown hg (fun b hb e => by have := hlt _ e.symm; have := hb.1; omega)).grown hset (fun b hb e => by injection e with e; exact hb.2.1 e)
/-- A number of the report is stored. -/
theorem SumSt.best_ (h : SumSt w wr rb N0 kind cnt best sv tv sites sts) (x : Int) : SumSt w (wr.setCell ⟨rb, 4, none⟩ (.int .i64 x)) rb N0 kind cnt x sv tv sites sts := by
  have e1 := h.h1
  have e2 := h.h2
  have e3 := h.h3
  have hset : wr.grownBy (wr.setCell ⟨rb, 4, none⟩ (.int .i64 x)) (some rb) := grownBy_set0 _ _ _ _
  exact ⟨h.bl.grown hset h.bl.size fun k e => by injection e with e; omega, e1, e2, by simpa using e3, h.res.grown hset (by simp; omega), h.blk.set_ 4 _, ⟨h.own.1.kept hset (own_ne h.own.1 (by omega)), h.own.2⟩, h.sit.grown hset fun b hb e => by injection e with e; exact hb.2.1 e⟩
/-- The starts are put in order in place, or made fewer. -/
theorem SumSt.row {g cap n n' : Nat} {ys : List Int} (h : SumSt w wr rb N0 kind cnt best sv (.slice (some ⟨g, 0, none⟩) n cap) sites sts) (hg : wr.grownBy w' (some g)) (ho : Own w' N0 (.slice (some ⟨g, 0, none⟩) n' cap) ys) :
    Below w.heap.size w w' ∧ N0 ≤ w'.heap.size ∧ Blk w' w.heap.size 61 #[.int .i64 0, .slice none 0 0, .slice none 0 0, .int .i64 0, .int .i64 0, .int .i64 0] ∧
    Blk w' rb 61 #[.int .i64 kind, sv, .slice (some ⟨g, 0, none⟩) n cap, .int .i64 cnt, .int .i64 best, .int .i64 0] ∧ Own w' N0 (.slice (some ⟨g, 0, none⟩) n' cap) ys ∧ IntsO w' (fun b => b < N0 ∧ b ≠ rb ∧ w.heap.size < b) sv sites := by
  have hlt : N0 ≤ g := (h.own.1.lt g rfl).1
  have e1 := h.h1
  have e2 := h.h2
  have e3 := h.h3
  exact ⟨h.bl.grown hg h.bl.size fun k e => by injection e with e; omega, by have := hg.size; omega, h.res.grown hg (by simp; omega), h.blk.grown hg (by simp; omega), ho, h.sit.grown hg fun b hb e => by injection e with e; have := hb.1; omega⟩
theorem SumSt.sorted {g cap n : Nat} {ys : List Int} (h : SumSt w wr rb N0 kind cnt best sv (.slice (some ⟨g, 0, none⟩) n cap) sites sts) (hg : wr.grownBy w' (some g)) (ho : Own w' N0 (.slice (some ⟨g, 0, none⟩) n cap) ys) :
    SumSt w w' rb N0 kind cnt best sv (.slice (some ⟨g, 0, none⟩) n cap) sites ys := by
  obtain ⟨a1, a2, a3, a4, a5, a6⟩ := h.row hg ho
  exact ⟨a1, h.h1, h.h2, a2, a3, a4, a5, a6⟩
theorem SumSt.fewer {g cap n n' : Nat} {ys : List Int} (h : SumSt w wr rb N0 kind cnt best sv (.slice (some ⟨g, 0, none⟩) n cap) sites sts) (hg : wr.grownBy w' (some g)) (ho : Own w' N0 (.slice (some ⟨g, 0, none⟩) n' cap) ys) :
    SumSt w (w'.setCell ⟨rb, 2, none⟩ (.slice (some ⟨g, 0, none⟩) n' cap)) rb N0 kind cnt best sv (.slice (some ⟨g, 0, none⟩) n' cap) sites ys ∧ Blk w' rb 61 #[.int .i64 kind, sv, .slice (some ⟨g, 0, none⟩) n cap, .int .i64 cnt, .int .i64 best, .int .i64 0] := by
  obtain ⟨a1, a2, a3, a4, a5, a6⟩ := h.row hg ho
  have e1 := h.h1
  have e2 := h.h2
  have hset : w'.grownBy (w'.setCell ⟨rb, 2, none⟩ (.slice (some ⟨g, 0, none⟩) n' cap)) (some rb) := grownBy_set0 _ _ _ _
  exact ⟨⟨a1.grown hset a1.size fun k e => by injection e with e; omega, e1, e2, by simpa using a2, a3.grown hset (by simp; omega), a4.set_ 2 _, ⟨a5.1.kept hset (own_ne a5.1 (by omega)), a5.2⟩, a6.grown hset fun b hb e => by injection e with e; exact hb.2.1 e⟩, a4⟩
/-- The score and the result are stored. -/
theorem SumSt.fin (h : SumSt w wr rb N0 kind cnt best sv tv sites sts) (x : Int) (hk : I64 kind ∧ I64 cnt ∧ I64 best ∧ I64 x) (hw : wr.grownBy w' (some rb)) {w'' : World} (hw2 : w'.grownBy w'' (some w.heap.size)) :
    IsRepO w'' (fun b => w.heap.size < b) (.agg #[.int .i64 kind, sv, tv, .int .i64 cnt, .int .i64 best, .int .i64 x]) ⟨kind, sites, sts, cnt, best, x⟩ ∧ Below w.heap.size w w'' := by
  have e1 := h.h1
  have e2 := h.h2
  have e3 := h.h3
  refine ⟨⟨sv, tv, rfl, ?_, ?_, hk⟩, ?_⟩
  · exact ((h.sit.grown hw fun b hb e => by injection e with e; exact hb.2.1 e).grown hw2 fun b hb e => by injection e with e; have := hb.2.2; omega).mono fun b _ hb => hb.2.2
  · have h4 : Own w' N0 tv sts := ⟨h.own.1.kept hw (own_ne h.own.1 (by omega)), h.own.2⟩
    have h5 : Own w'' N0 tv sts := ⟨h4.1.kept hw2 (own_ne h4.1 (by omega)), h4.2⟩
    exact h5.intsO fun b q1 _ _ => by omega
  · exact (h.bl.grown hw h.bl.size fun k e => by injection e with e; omega).grown hw2 (by have := hw.size; have := h.bl.size; omega) fun k e => by injection e with e; omega
end

/-- A row of the call's own is sorted. -/
theorem sort_own (base g n cap : Nat) (xs : List Int) (w : World) (h : Own w base (.slice (some ⟨g, 0, none⟩) n cap) xs) (hn : xs.length = n) (hl : n ≤ 1000000000) :
    Calls Tryd.prog 63 #[.slice (some ⟨g, 0, none⟩) n cap] w fun e w' => e = .returned (.tuple #[]) ∧ Own w' base (.slice (some ⟨g, 0, none⟩) n cap) (xs.mergeSort fun x y => decide (x ≤ y)) ∧ w.grownBy w' (some g) := by
  subst hn
  have hlt := (rd_of_row h.1).2.1
  refine (Tryd.slices_Sort_int g 0 cap xs w (holds_own h.1 xs rfl) hlt (by omega)).mono ?_
  rintro e w' ⟨rfl, m, os, rfl⟩
  refine ⟨rfl, ⟨?_, fun y hy => h.2 y ((List.mergeSort_perm _ _).mem_iff.1 hy)⟩, grownBy_put _⟩
  have := owns_put (m := m) (os := os) (enc := Value.int .i64) h.1 (xs.mergeSort fun x y => decide (x ≤ y)) (by simp)
  simpa using this
theorem compact_own (base g n cap : Nat) (xs : List Int) (w : World) (h : Own w base (.slice (some ⟨g, 0, none⟩) n cap) xs) (hn : xs.length = n) (hl : n ≤ 1000000000) (hc : (Lib.compact xs).length ≤ xs.length) (hm : ∀ x ∈ Lib.compact xs, x ∈ xs) :
    Calls Tryd.prog 58 #[.slice (some ⟨g, 0, none⟩) n cap] w fun e w' => e = .returned (.slice (some ⟨g, 0, none⟩) (Lib.compact xs).length cap) ∧ Own w' base (.slice (some ⟨g, 0, none⟩) (Lib.compact xs).length cap) (Lib.compact xs) ∧ w.grownBy w' (some g) := by
  subst hn
  have hlt := (rd_of_row h.1)
  refine (Tryd.slices_Compact_int g 0 cap xs w (holds_own h.1 xs rfl) (by omega) hlt.2.2.1).mono ?_
  rintro e w' ⟨rfl, m, rfl⟩
  have e0 : ∀ W : World, Sort.grow W #[] = W := fun W => by unfold Sort.grow; simp
  refine ⟨rfl, ⟨?_, fun y hy => h.2 y (hm y hy)⟩, ?_⟩
  · have := owns_put (m := m) (os := #[]) (enc := Value.int .i64) h.1 (Lib.compact xs ++ List.replicate (xs.length - (Lib.compact xs).length) 0) (by simp; omega)
    rw [e0] at this
    have := owns_cut this (k := (Lib.compact xs).length) (by omega)
    simpa [List.map_append] using this
  · have := grownBy_put (w := w) (g := g) (m := m) (os := #[]) (enc := Value.int .i64) (Lib.compact xs ++ List.replicate (xs.length - (Lib.compact xs).length) 0).toArray
    rwa [e0] at this
end Go.Proofs.YtccpelfnkjckiaaDoor
