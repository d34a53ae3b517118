/-
  WALK: (*formula.reader).next.
-/
import Derived.Test.YtfffalfnjficaaaDoorCutSplit
import Derived.Test.YtfffalfnjficaaaDoorTape
namespace Go.Proofs.YtfffalfnjficaaaDoor
open Go.RowKit

theorem below_grown {w w' : World} (h : Below w.heap.size w w') (row : Option Nat) : w.grownBy w' row := ⟨h.os, h.tape, h.output, h.size, fun k hk _ => h.block k hk⟩
/-- The reader at block g. -/
def RdrAt (w : World) (g : Nat) (rest : List UInt8) (line : Nat) : Prop := Blk w g 57 #[.string ⟨rest.toArray⟩, .int .i64 line]
/-- A panic of the reader's. -/
def wrongL : Ending := .panicked [{ v := .iface 103 (.agg #[]), recovered := false }]

set_option maxRecDepth 100000 in
set_option maxHeartbeats 1000000 in
theorem next_bad (g : Nat) (rest : List UInt8) (line : Nat) (w : World) (h : RdrAt w g rest line) (hn : (10 : UInt8) ∉ rest) (hl : rest.length ≤ 1000000) (hk : line ≤ 1000000) (hm : ML w) (hg : 0 < g) :
    Calls Tryd.prog 43 #[.pointer (some ⟨g, 0, none⟩)] w fun e w' => e = wrongL ∧ RdrAt w' g rest (line + 1) ∧ w.grownBy w' (some g) := by
  have r0 := h.cell 0
  have r1 := h.cell 1
  have f1 := h.frozen 1
  simp only [List.getElem?_toArray, List.getElem?_cons_zero, List.getElem?_cons_succ] at r0 r1
  have HR := Lib.hid h
  have hm2 : ML (w.setCell ⟨g, 1, none⟩ (.int .i64 ((line : Int) + 1))) := by
    obtain ⟨h0, m, h1⟩ := hm
    exact ⟨by simpa using h0, m, (World.cell?_setCell_other (w := w) (a := ⟨g, 1, none⟩) (b := ⟨0, 0, none⟩) (v := _) (h := by intro e; injection e with e1 _ _; omega)).trans h1⟩
  have HM2 := Lib.hid hm2
  have HC := Lib.hid (show Lib.cut rest [10] = (rest, [], false) by
    rcases cut_split 10 rest with ⟨-, h⟩ | ⟨a, b, h1, -, -⟩
    · exact h
    · exact absurd (by rw [h1]; simp) hn)
  clear h hm hm2 hn
  go_enter Tryd.func43, Tryd.ntmps43
  go_wp2_with fail
  refine (cut_any 10 rest _ hl HM2.out).mono ?_
  rintro e w' ⟨rfl, n, rfl⟩
  rw [HC.out]
  go_wp2_with fail
  refine ⟨rfl, rfl, ?_, ?_⟩
  · exact (HR.out.set_ 1 _).drewN n
  · exact grownBy_set _ _ _ _ _
/-- A line is read. -/
def NextOk (w : World) (g : Nat) (a b : List UInt8) (line : Nat) (e : Ending) (w' : World) : Prop :=
  ∃ A k, e = .returned (.slice A (pieces 32 a).length k) ∧ Txts w' (.slice A (pieces 32 a).length k) (pieces 32 a) ∧ RdrAt w' g b (line + 1) ∧ w.grownBy w' (some g)
set_option maxRecDepth 100000 in
set_option maxHeartbeats 1000000 in
theorem rnext_ok (g : Nat) (rest a b : List UInt8) (line : Nat) (w : World) (h : RdrAt w g rest line) (hab : rest = a ++ 10 :: b) (hn : (10 : UInt8) ∉ a) (hl : rest.length ≤ 1000000) (hk : line ≤ 1000000) (hm : ML w) (hg : 0 < g) :
    Calls Tryd.prog 43 #[.pointer (some ⟨g, 0, none⟩)] w (NextOk w g a b line) := by
  have r0 := h.cell 0
  have r1 := h.cell 1
  have f1 := h.frozen 1
  simp only [List.getElem?_toArray, List.getElem?_cons_zero, List.getElem?_cons_succ] at r0 r1
  have HR := Lib.hid h
  have hml : ∀ w', w.grownBy w' (some g) → ML w' := fun w' hw => by
    obtain ⟨h0, m, h1⟩ := hm
    exact ⟨Nat.lt_of_lt_of_le h0 hw.size, m, hw.cell h1 (by intro e; injection e with e; simp only at e; omega)⟩
  have HML := Lib.hid hml
  have HC := Lib.hid (show Lib.cut rest [10] = (a, b, true) by
    rcases cut_split 10 rest with ⟨h1, -⟩ | ⟨a', b', h1, h2, h3⟩
    · exact absurd (by rw [hab]; simp) h1
    · rw [h3]
      rw [hab] at h1
      have e := congrArg (fun l => pieces 10 l) h1
      simp only [pieces_app b hn, pieces_app b' h2, List.cons.injEq] at e
      have e1 := e.1
      subst e1
      have e2 := List.append_cancel_left h1
      injection e2 with _ e2
      rw [e2])
  have hla : a.length ≤ 1000000 := by rw [hab] at hl; simp at hl; omega
  have hw1 : w.grownBy (w.setCell ⟨g, 1, none⟩ (.int .i64 ((line : Int) + 1))) (some g) := grownBy_set0 _ _ _ _
  have HW1 := Lib.hid hw1
  clear h hm hml hab hn hw1
  go_enter Tryd.func43, Tryd.ntmps43
  go_wp2_with fail
  refine (cut_any 10 rest _ hl (HML.out _ HW1.out)).mono ?_
  rintro e w' ⟨rfl, n, rfl⟩
  rw [HC.out]
  have B2 : Blk ((w.setCell ⟨g, 1, none⟩ (.int .i64 ((line : Int) + 1))).drewN n) g 57 #[.string ⟨rest.toArray⟩, .int .i64 ((line : Int) + 1)] := (HR.out.set_ 1 _).drewN n
  have g2 : w.grownBy ((w.setCell ⟨g, 1, none⟩ (.int .i64 ((line : Int) + 1))).drewN n) (some g) := grownBy_set _ _ _ _ _
  generalize (w.setCell ⟨g, 1, none⟩ (.int .i64 ((line : Int) + 1))).drewN n = W2 at *
  have q0 := B2.cell 0
  have z0 := B2.frozen 0
  simp only [List.getElem?_toArray, List.getElem?_cons_zero] at q0
  have HB2 := Lib.hid B2
  have HG2 := Lib.hid g2
  have HG3 : Hid (w.grownBy (W2.setCell ⟨g, 0, none⟩ (.string ⟨b.toArray⟩)) (some g)) := Lib.hid (grownBy_trans g2 (grownBy_set0 _ _ _ _))
  have B3 : Hid (Blk (W2.setCell ⟨g, 0, none⟩ (.string ⟨b.toArray⟩)) g 57 #[.string ⟨b.toArray⟩, .int .i64 ((line : Int) + 1)]) := Lib.hid (B2.set_ 0 _)
  clear B2 g2 r0 r1 f1
  go_wp2_with fail
  refine (split_any 32 a _ hla (HML.out _ HG3.out)).mono ?_
  rintro e w' ⟨A, k, rfl, htx, hb⟩
  have HTX := Lib.hid htx
  have HB := Lib.hid hb
  clear htx hb
  go_wp2_with fail
  go_ret
  exact ⟨A, k, rfl, HTX.out, B3.out.keep HB.out, grownBy_trans HG3.out (below_grown HB.out _)⟩
end Go.Proofs.YtfffalfnjficaaaDoor
