/-
  HOW AN ARGUMENT'S READING GIVES THE WORDS: findings as numbers.
-/
import Derived.Test.YtccpelfnkjckiaaDoorOpen39
import Derived.Test.YtccpelfnkjckiaaDoorFndRow
namespace Go.Proofs.YtccpelfnkjckiaaDoor
open Go.ChangeShapes Go.WideShapes Go.ChangeAt Go.RowKit Go.Deep Go.Joins

section
variable {H : Type} {enc : TypeId × Value → H} {w : World}
theorem u8_at {P : Program} {t : TypeId} {fuel : Nat} {v : Value} {x : DataW H × List MemPlace} (ht : P.underlying t = some (.int .u8)) (h : DataW.trod enc P w 0 (fun _ => true) true fuel t [v] = some x) : ∃ a, v = .int .u8 a ∧ 0 ≤ a ∧ a ≤ 255 := by
  obtain ⟨a, e, _, hw⟩ := DataW.trod_int ht h
  injection e with e
  exact ⟨a, e, u8_of_wf hw⟩
theorem cU8 : Tryd.prog.cellsOf 5 = 1 := by kernel_rfl
theorem cU8s : Tryd.prog.cellsOf 23 = 1 := by kernel_rfl
theorem cFin : Tryd.prog.cellsOf 92 = 5 := by kernel_rfl

set_option maxRecDepth 100000 in
/-- A finding made of numbers, by its cells. -/
theorem rd_fin {n : Nat} {cs : List Value} {y : DataW H × List MemPlace} (h : DataW.trod enc Tryd.prog w 0 (fun _ => true) true n 92 cs = some y) : ∃ p : FIn × (Option Addr × Nat), cs = FIn.cells p ∧ FInOk w p := by
  obtain ⟨xs, n1, _, _, hlen, hxl, hf⟩ := DataW.trod_struct Tryd.underlying92 h
  rw [cFin] at hlen
  match cs, hlen with
  | [c0, c1, c2, c3, c4], _ =>
    match xs, hxl with
    | [x0, x1, x2, x3, x4], _ =>
      have g0 := fld hf 0 5 0 1 _ rfl rfl rfl cU8
      have g1 := fld hf 1 5 1 1 _ rfl rfl rfl cU8
      have g2 := fld hf 2 5 2 1 _ rfl rfl rfl cU8
      have g3 := fld hf 3 23 3 1 _ rfl rfl rfl cU8s
      have g4 := fld hf 4 4 4 1 _ rfl rfl rfl cB
      obtain ⟨a0, rfl, h0⟩ := u8_at Tryd.underlying5 (v := c0) g0
      obtain ⟨a1, rfl, h1⟩ := u8_at Tryd.underlying5 (v := c1) g1
      obtain ⟨a2, rfl, h2⟩ := u8_at Tryd.underlying5 (v := c2) g2
      obtain ⟨ss, hss⟩ := rd_byts (v := c3) Tryd.underlying23 Tryd.underlying5 (by kernel_rfl) g3
      obtain ⟨fd, rfl⟩ := bool_at Tryd.underlying4 (v := c4) g4
      have hss2 := hss
      obtain ⟨sA, sc, rfl, _, _, _, _⟩ := hss2
      exact ⟨(⟨a0, a1, a2, ss, fd⟩, sA, sc), rfl, hss, h0, h1, h2⟩
set_option maxRecDepth 100000 in
/-- A slice of findings made of numbers. -/
theorem rd_fins {fuel : Nat} {v : Value} {x : DataW H × List MemPlace} (h : DataW.trod enc Tryd.prog w 0 (fun _ => true) true fuel 44 [v] = some x) : ∃ qs, FIns w v qs := by
  obtain ⟨xs, A, c, D, rfl, h1, h2, h3, h4, _, _⟩ := open_sl (α := FIn × (Option Addr × Nat)) (Q := fun p _ => FInOk w p) (g := FIn.cells) Tryd.underlying44 cFin (by omega) (fun _ => rfl) (fun n cs y hy => rd_fin hy) h
  refine ⟨xs, A, c, rfl, h1, h2, h3, fun q hq => ?_⟩
  obtain ⟨i, hi, rfl⟩ := List.getElem_of_mem hq
  exact h4 i _ (List.getElem?_eq_getElem hi)
end
end Go.Proofs.YtccpelfnkjckiaaDoor
