/-
  WORDS: what the reading of a line as a step answers; a step's block.
-/
import Derived.Test.YtfffalfnjficaaaDoorPSpec
import Derived.Test.YtfffalfnjficaaaDoorRefNums
namespace Go.Proofs.YtfffalfnjficaaaDoor
open Go.RowKit

def zSt : Value := .agg #[.int .i64 0, .int .i64 0, .slice none 0 0, .int .i64 0, .int .i64 0, .int .i64 0]
/-- What the reading of a line answers. -/
def StepRet (w : World) (o : Option Stp) (e : Ending) (w' : World) : Prop :=
  Below w.heap.size w w' ∧ ((o = none ∧ e = .returned (.tuple #[zSt, .bool false])) ∨
    ∃ s A c, o = some s ∧ e = .returned (.tuple #[Stp.val s (.slice A s.lits.length c), .bool true]) ∧ IntsO w' (fun b => w.heap.size ≤ b) (.slice A s.lits.length c) s.lits ∧ s.ok)
def st6 (w : World) (g : Nat) (v0 v1 v2 v3 v4 v5 : Value) : World := (((((w.setCell ⟨g, 0, none⟩ v0).setCell ⟨g, 1, none⟩ v1).setCell ⟨g, 2, none⟩ v2).setCell ⟨g, 3, none⟩ v3).setCell ⟨g, 4, none⟩ v4).setCell ⟨g, 5, none⟩ v5
theorem blk_st6 {w : World} {g : Nat} {t : TypeId} {u0 u1 u2 u3 u4 u5 : Value} (h : Blk w g t #[u0, u1, u2, u3, u4, u5]) (v0 v1 v2 v3 v4 v5 : Value) : Blk (st6 w g v0 v1 v2 v3 v4 v5) g t #[v0, v1, v2, v3, v4, v5] :=
  (((((h.set_ 0 v0).set_ 1 v1).set_ 2 v2).set_ 3 v3).set_ 4 v4).set_ 5 v5
theorem grown_st6 (w : World) (g : Nat) (v0 v1 v2 v3 v4 v5 : Value) : w.grownBy (st6 w g v0 v1 v2 v3 v4 v5) (some g) :=
  grownBy_trans (grownBy_trans (grownBy_trans (grownBy_trans (grownBy_trans (grownBy_set0 _ _ _ _) (grownBy_set0 _ _ _ _)) (grownBy_set0 _ _ _ _)) (grownBy_set0 _ _ _ _)) (grownBy_set0 _ _ _ _)) (grownBy_set0 _ _ _ _)
theorem below_st6 {B : Nat} {w w' : World} (h : Below B w w') (v0 v1 v2 v3 v4 v5 : Value) : Below B w (st6 w' B v0 v1 v2 v3 v4 v5) :=
  (((((h.setCell (Nat.le_refl B) v0).setCell (Nat.le_refl B) v1).setCell (Nat.le_refl B) v2).setCell (Nat.le_refl B) v3).setCell (Nat.le_refl B) v4).setCell (Nat.le_refl B) v5
theorem mk_ints0 (n : Nat) (h : n ≤ 1000000) (w : World) : ∃ w', (Instr.makeSlice 49 (.int .i64 0) (.int .i64 (n : Int))).run Tryd.prog w = .ok (.slice (some ⟨w.heap.size, 0, none⟩) 0 n) w' ∧ Own w' w.heap.size (.slice (some ⟨w.heap.size, 0, none⟩) 0 n) [] ∧ Below w.heap.size w w' := by
  obtain ⟨i, hi, h0, h1, h2⟩ := info_parts info_int
  obtain ⟨w', hr, ho, hg⟩ := run_make_own (P := Tryd.prog) w w.heap.size 49 3 i _ 1 Tryd.underlying49 hi h0 h1 .i64 .i64 n (by rw [h2]; omega) (by unfold maxLen; omega) (Nat.le_refl _)
  exact ⟨w', hr, ⟨ho, by simp⟩, grownBy_below hg (Nat.le_refl _) (fun g e => by cases e)⟩
theorem i64_0 : I64 0 := by unfold I64; omega
theorem i64_1 : I64 1 := by unfold I64; omega
theorem i64_2 : I64 2 := by unfold I64; omega
theorem i64_3 : I64 3 := by unfold I64; omega
theorem wne : wInput ≠ wCycle ∧ wInput ≠ wResolve ∧ wInput ≠ wStep ∧ wCycle ≠ wResolve ∧ wCycle ≠ wStep ∧ wResolve ≠ wStep := by decide
end Go.Proofs.YtfffalfnjficaaaDoor
