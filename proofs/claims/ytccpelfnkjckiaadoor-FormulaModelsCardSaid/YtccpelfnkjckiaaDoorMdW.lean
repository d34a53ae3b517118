/-
  WORDS: the blocks of a model that is made.
-/
import Derived.Test.YtccpelfnkjckiaaDoorMake
import Derived.Test.YtccpelfnkjckiaaDoorOwn
import Derived.Test.YtccpelfnkjckiaaDoorOpenP
namespace Go.Proofs.YtccpelfnkjckiaaDoor
open Go.RowKit

/-- The blocks of the model that is made. -/
structure MD (w wr : World) (nb ni gm gb gx : Nat) (bs : List Bool) (xs : List Int) : Prop where
  m : Blk wr gm 35 #[.slice (some ⟨gb, 0, none⟩) nb nb, .slice (some ⟨gx, 0, none⟩) ni ni]
  b : Blk wr gb 4 (rowB bs)
  x : Blk wr gx 3 (rowI xs)
  n1 : gb ≠ gx
  n2 : gb ≠ gm
  n3 : gx ≠ gm
  l1 : w.heap.size ≤ gm
  l2 : w.heap.size ≤ gb
  l3 : w.heap.size ≤ gx
  bl : Below w.heap.size w wr
section
variable {w wr w' : World} {nb ni gm gb gx : Nat} {bs : List Bool} {xs : List Int}
theorem MD.setB (h : MD w wr nb ni gm gb gx bs xs) (k : Nat) (a : Bool) : MD w (wr.setCell ⟨gb, k, none⟩ (.bool a)) nb ni gm gb gx (bs.set k a) xs := by
  have hs : wr.grownBy (wr.setCell ⟨gb, k, none⟩ (.bool a)) (some gb) := grownBy_set0 _ _ _ _
  exact ⟨h.m.grown hs (by have := h.n2; simp; omega), h.b.setB k a, h.x.grown hs (by have := h.n1; simp; omega), h.n1, h.n2, h.n3, h.l1, h.l2, h.l3, h.bl.grown hs h.bl.size fun g e => by injection e with e; have := h.l2; omega⟩
theorem MD.setX (h : MD w wr nb ni gm gb gx bs xs) (k : Nat) (a : Int) : MD w (wr.setCell ⟨gx, k, none⟩ (.int .i64 a)) nb ni gm gb gx bs (xs.set k a) := by
  have hs : wr.grownBy (wr.setCell ⟨gx, k, none⟩ (.int .i64 a)) (some gx) := grownBy_set0 _ _ _ _
  exact ⟨h.m.grown hs (by have := h.n3; simp; omega), h.b.grown hs (by have := h.n1; simp; omega), h.x.setI k a, h.n1, h.n2, h.n3, h.l1, h.l2, h.l3, h.bl.grown hs h.bl.size fun g e => by injection e with e; have := h.l3; omega⟩
theorem MD.drewN (h : MD w wr nb ni gm gb gx bs xs) (n : Nat) : MD w (wr.drewN n) nb ni gm gb gx bs xs := ⟨h.m.drewN n, h.b.drewN n, h.x.drewN n, h.n1, h.n2, h.n3, h.l1, h.l2, h.l3, bdrew h.bl n⟩
end

theorem three (w0 : World) (A B C : Array Value) (ta tb tc : TypeId) : Blk (((w0.alloc (.cells A ta)).alloc (.cells B tb)).alloc (.cells C tc)).drew w0.heap.size ta A ∧ Blk (((w0.alloc (.cells A ta)).alloc (.cells B tb)).alloc (.cells C tc)).drew (w0.heap.size + 1) tb B ∧
    Blk (((w0.alloc (.cells A ta)).alloc (.cells B tb)).alloc (.cells C tc)).drew (w0.heap.size + 1 + 1) tc C ∧ Below w0.heap.size w0 (((w0.alloc (.cells A ta)).alloc (.cells B tb)).alloc (.cells C tc)).drew := by
  have h1 := Blk.new (w0.alloc (.cells A ta)) tb B
  have h2 := Blk.new ((w0.alloc (.cells A ta)).alloc (.cells B tb)) tc C
  rw [show (w0.alloc (.cells A ta)).heap.size = w0.heap.size + 1 by simp] at h1
  rw [show ((w0.alloc (.cells A ta)).alloc (.cells B tb)).heap.size = w0.heap.size + 1 + 1 by simp] at h2
  exact ⟨(((Blk.new w0 ta A).alloc _).alloc _).drew, (h1.alloc _).drew, h2.drew, ((((Below.refl _ _).alloc (Nat.le_refl _) _).alloc (by simp) _).alloc (by simp; omega) _).drew⟩

theorem tmod8 (n : Int) : -8 < n.tmod 8 ∧ n.tmod 8 < 8 := by
  have h := Int.natAbs_tmod n 8
  have h2 : n.natAbs % (8 : Int).natAbs < (8 : Int).natAbs := Nat.mod_lt _ (by omega)
  omega
end Go.Proofs.YtccpelfnkjckiaaDoor
