/-
  WORDS: the formula under way in interleaveref31.Parse.
-/
import Derived.Test.YtfffalfnjficaaaDoorRForm
import Derived.Test.YtfffalfnjficaaaDoorRefSpec
import Derived.Test.YtfffalfnjficaaaDoorRefLines
namespace Go.Proofs.YtfffalfnjficaaaDoor
open Go.RowKit

/-- The formula under way, in block fb, since the world w3. -/
structure RmS (w3 wr : World) (fb : Nat) (av cv : Value) (us : List Value) (f : Form) : Prop where
  gr : w3.grownBy wr (some fb)
  flt : fb < w3.heap.size
  fbk : Blk wr fb 26 #[.int .i64 f.ints, .int .i64 f.bools, av, cv]
  at_ : wr.ownsRow w3.heap.size 48 3 av f.atoms.length (f.atoms.flatMap Diff.cells)
  aok : ∀ d ∈ f.atoms, d.ok
  cl : OwnMat wr w3.heap.size (fun b => w3.heap.size ≤ b ∧ some b ≠ av.ownBlock) cv us f.clauses
  i1 : I64 f.ints
  i2 : I64 f.bools
section
variable {w3 wr w' : World} {fb : Nat} {av cv : Value} {us : List Value} {f : Form}
theorem RmS.keep (h : RmS w3 wr fb av cv us f) (hb : Below wr.heap.size wr w') : RmS w3 w' fb av cv us f :=
  ⟨grownBy_trans h.gr (below_grown hb _), h.flt, h.fbk.keep hb, owns_keep h.at_ hb, h.aok, h.cl.keep hb, h.i1, h.i2⟩
theorem RmS.out {g : Nat} (h : RmS w3 wr fb av cv us f) (hg : wr.grownBy w' (some g)) (hgl : g < w3.heap.size) : IsForm w' (.agg #[.int .i64 f.ints, .int .i64 f.bools, av, cv]) f :=
  ⟨_, _, rfl, h.i1, h.i2, owns_diffs (h.at_.kept hg (own_ne h.at_ (by omega))) h.aok, (h.cl.grown hg (own_ne h.cl.1 (by omega)) (fun b hb e => by injection e with e; omega)).mat⟩
theorem RmS.form (h : RmS w3 wr fb av cv us f) : IsForm wr (.agg #[.int .i64 f.ints, .int .i64 f.bools, av, cv]) f :=
  ⟨_, _, rfl, h.i1, h.i2, owns_diffs h.at_ h.aok, h.cl.mat⟩
theorem RmS.head {a b : Int} (h : RmS w3 wr fb av cv us f) (ha : I64 a) (hb : I64 b) : RmS w3 ((wr.setCell ⟨fb, 0, none⟩ (.int .i64 a)).setCell ⟨fb, 1, none⟩ (.int .i64 b)) fb av cv us { f with ints := a, bools := b } := by
  have hset : wr.grownBy ((wr.setCell ⟨fb, 0, none⟩ (.int .i64 a)).setCell ⟨fb, 1, none⟩ (.int .i64 b)) (some fb) := grownBy_trans (grownBy_set0 _ _ _ _) (grownBy_set0 _ _ _ _)
  have hl := h.flt
  exact ⟨grownBy_trans h.gr hset, h.flt, (h.fbk.set_ 0 _).set_ 1 _, h.at_.kept hset (own_ne h.at_ (by omega)), h.aok, h.cl.grown hset (own_ne h.cl.1 (by omega)) (fun b hb e => by injection e with e; omega), ha, hb⟩
/-- One more atom. -/
theorem RmS.atom {o : Obj} {av' : Value} {d : Diff} (h : RmS w3 wr fb av cv us f) (hd : d.ok) (ho : w'.ownsRow w3.heap.size 48 3 av' (f.atoms.length + 1) (f.atoms.flatMap Diff.cells ++ Diff.cells d)) (hg : (wr.alloc o).grownBy w' av.ownBlock) (hat : av'.ownBlock = av.ownBlock ∨ av'.ownBlock = some (wr.alloc o).heap.size) :
    RmS w3 (w'.setCell ⟨fb, 2, none⟩ av') fb av' cv us { f with atoms := f.atoms ++ [d] } ∧ Blk w' fb 26 #[.int .i64 f.ints, .int .i64 f.bools, av, cv] := by
  have h3 := h.flt
  have hs := h.gr.size
  have hlt : ∀ k, av.ownBlock = some k → w3.heap.size ≤ k := fun k e => (h.at_.lt k e).1
  have hf : Blk w' fb 26 #[.int .i64 f.ints, .int .i64 f.bools, av, cv] := (h.fbk.alloc o).grown hg fun e => by have := hlt _ e.symm; omega
  have hset : w'.grownBy (w'.setCell ⟨fb, 2, none⟩ av') (some fb) := grownBy_set0 _ _ _ _
  have hap := rows_apart h.cl.1 h.at_ (by decide)
  have hcl : OwnMat w' w3.heap.size (fun b => w3.heap.size ≤ b ∧ some b ≠ av'.ownBlock) cv us f.clauses := by
    have m1 : OwnMat wr w3.heap.size (fun b => (w3.heap.size ≤ b ∧ some b ≠ av.ownBlock) ∧ b < wr.heap.size) cv us f.clauses := h.cl.mono fun b hb hp => ⟨hp, hb⟩
    have m2 := (m1.grown (grown_alloc wr o) (by cases hc : cv.ownBlock <;> simp) (fun b _ => by simp)).grown hg hap fun b hb => hb.1.2
    refine m2.mono fun b _ hb => ⟨hb.1.1, ?_⟩
    rcases hat with e | e <;> rw [e]
    · exact hb.1.2
    · simp; omega
  have ho2 : w'.ownsRow w3.heap.size 48 3 av' (f.atoms ++ [d]).length ((f.atoms ++ [d]).flatMap Diff.cells) := by simpa [List.flatMap_append] using ho
  have hb1 : Below w3.heap.size wr w' := ((Below.refl _ wr).alloc hs o).grown hg (by simp; omega) hlt
  refine ⟨⟨grownBy_trans (grown_then h.gr hb1) hset, h.flt, hf.set_ 2 _, ho2.kept hset (own_ne ho2 (by omega)), fun y hy => ?_, hcl.grown hset (own_ne hcl.1 (by omega)) (fun b hb e => by injection e with e; omega), h.i1, h.i2⟩, hf⟩
  rcases List.mem_append.1 hy with hy | hy
  · exact h.aok y hy
  · rw [List.mem_singleton] at hy; subst hy; exact hd
/-- One more clause. -/
theorem RmS.clause {o : Obj} {cv' u : Value} {xs : List Int} (h : RmS w3 wr fb av cv us f) (hu : IntsO wr (fun b => (w3.heap.size ≤ b ∧ some b ≠ av.ownBlock) ∧ some b ≠ cv.ownBlock) u xs) (ho : w'.ownsRow w3.heap.size 49 1 cv' (us.length + 1) (us ++ [u])) (hg : (wr.alloc o).grownBy w' cv.ownBlock) (hat : cv'.ownBlock = cv.ownBlock ∨ cv'.ownBlock = some (wr.alloc o).heap.size) :
    RmS w3 (w'.setCell ⟨fb, 3, none⟩ cv') fb av cv' (us ++ [u]) { f with clauses := f.clauses ++ [xs] } ∧ Blk w' fb 26 #[.int .i64 f.ints, .int .i64 f.bools, av, cv] := by
  have h3 := h.flt
  have hs := h.gr.size
  have hlt : ∀ k, cv.ownBlock = some k → w3.heap.size ≤ k := fun k e => (h.cl.1.lt k e).1
  have hf : Blk w' fb 26 #[.int .i64 f.ints, .int .i64 f.bools, av, cv] := (h.fbk.alloc o).grown hg fun e => by have := hlt _ e.symm; omega
  have hset : w'.grownBy (w'.setCell ⟨fb, 3, none⟩ cv') (some fb) := grownBy_set0 _ _ _ _
  have hap := rows_apart h.at_ h.cl.1 (by decide)
  have hcl := h.cl.push (xs := xs) hu ho hg hat
  have hat2 := (h.at_.alloc o).kept hg hap
  have hb1 : Below w3.heap.size wr w' := ((Below.refl _ wr).alloc hs o).grown hg (by simp; omega) hlt
  exact ⟨⟨grownBy_trans (grown_then h.gr hb1) hset, h.flt, hf.set_ 3 _, hat2.kept hset (own_ne hat2 (by omega)), h.aok, hcl.grown hset (own_ne hcl.1 (by omega)) (fun b hb e => by injection e with e; omega), h.i1, h.i2⟩, hf⟩
/-- A slice that was made behind the formula. -/
theorem RmS.fresh {base : Nat} {v : Value} {ns : List Int} (h : RmS w3 wr fb av cv us f) (hz : wr.heap.size ≤ base) (ho : Own w' base v ns) : IntsO w' (fun b => (w3.heap.size ≤ b ∧ some b ≠ av.ownBlock) ∧ some b ≠ cv.ownBlock) v ns := by
  have hs := h.gr.size
  refine ho.intsO fun b h1 _ _ => ⟨⟨by omega, fun e => ?_⟩, fun e => ?_⟩
  · have := (h.at_.lt b e.symm).2; omega
  · have := (h.cl.1.lt b e.symm).2; omega
end
/-- A line has at most one of the three words. -/
theorem line_kinds (line : List UInt8) : (∃ ns, numsL wFormula line = some ns ∧ numsL wAtom line = none ∧ numsL wClause line = none) ∨ (∃ ns, numsL wFormula line = none ∧ numsL wAtom line = some ns ∧ numsL wClause line = none) ∨ (∃ ns, numsL wFormula line = none ∧ numsL wAtom line = none ∧ numsL wClause line = some ns) ∨ (numsL wFormula line = none ∧ numsL wAtom line = none ∧ numsL wClause line = none) := by
  cases h1 : numsL wFormula line with
  | some ns =>
    refine .inl ⟨ns, rfl, ?_, ?_⟩
    · cases h2 : numsL wAtom line with
      | none => rfl
      | some x => exact absurd (numsL_two h1 h2) (by decide)
    · cases h2 : numsL wClause line with
      | none => rfl
      | some x => exact absurd (numsL_two h1 h2) (by decide)
  | none =>
    cases h2 : numsL wAtom line with
    | some ns =>
      refine .inr (.inl ⟨ns, rfl, rfl, ?_⟩)
      cases h3 : numsL wClause line with
      | none => rfl
      | some x => exact absurd (numsL_two h2 h3) (by decide)
    | none =>
      cases h3 : numsL wClause line with
      | some ns => exact .inr (.inr (.inl ⟨ns, rfl, rfl, rfl⟩))
      | none => exact .inr (.inr (.inr ⟨rfl, rfl, rfl⟩))
end Go.Proofs.YtfffalfnjficaaaDoor
