/-
  HOW AN ARGUMENT'S READING GIVES THE WORDS: triples of bytes; single numbers; small numbers.
-/
import Derived.Test.YtdmndikenejhiaaOpen33
import Derived.Test.YtdmndikenejhiaaSteps
namespace Go.Proofs.Ytdmndikenejhiaa
open Go.ChangeShapes Go.WideShapes Go.ChangeAt Go.RowKit Go.Deep Go.Joins

section
variable {H : Type} {enc : TypeId × Value → H} {W : World}

set_option maxRecDepth 100000 in
theorem rd_trips {fuel : Nat} {v : Value} {x : DataW H × List MemPlace} (h : DataW.trod enc Try.prog W 0 (fun _ => true) true fuel 39 [v] = some x) : ∃ xs, Trips W v xs := by
  obtain ⟨xs, A, c, D, rfl, h1, h2, h3, h4, _, _⟩ := open_sl (α := Int × Int × Int) (Q := fun t _ => (0 ≤ t.1 ∧ t.1 ≤ 255) ∧ (0 ≤ t.2.1 ∧ t.2.1 ≤ 255) ∧ (0 ≤ t.2.2 ∧ t.2.2 ≤ 255)) (g := Trip.cells) Try.underlying39 (k := 3) (by kernel_rfl) (by omega) (fun _ => rfl)
    (fun n cs y hy => by
      have hlen : cs.length = 3 := by
        obtain ⟨_, _, _, _, hl, _⟩ := DataW.trod_array Try.underlying22 hy
        rw [hl]; kernel_rfl
      match cs, hlen with
      | [c0, c1, c2], _ =>
        obtain ⟨z0, z1, z2, m, _, g0, g1, g2⟩ := trod_array3 Try.underlying22 (by kernel_rfl) hy
        obtain ⟨a, ea, _, wa⟩ := DataW.trod_int Try.underlying5 g0
        obtain ⟨b, eb, _, wb⟩ := DataW.trod_int Try.underlying5 g1
        obtain ⟨c, ec, _, wc⟩ := DataW.trod_int Try.underlying5 g2
        injection ea with ea
        injection eb with eb
        injection ec with ec
        subst ea eb ec
        exact ⟨(a, b, c), rfl, u8_of_wf wa, u8_of_wf wb, u8_of_wf wc⟩) h
  refine ⟨xs, A, c, rfl, h1, h2, fun t ht => ?_, h3⟩
  obtain ⟨i, hi, rfl⟩ := List.getElem_of_mem ht
  exact h4 i _ (List.getElem?_eq_getElem hi)
end
end Go.Proofs.Ytdmndikenejhiaa
