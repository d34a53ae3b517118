/-
  HOW A FORMULA AND A MODEL THAT COME IN ARE READ.
-/
import Derived.Test.YtfffalfnjficaaaDoorOpen
namespace Go.Proofs.YtfffalfnjficaaaDoor
open Go.ChangeShapes Go.WideShapes Go.ChangeAt Go.RowKit Go.Deep Go.Joins

section
variable {H : Type} {enc : TypeId × Value → H} {W : World}

set_option maxRecDepth 100000 in
theorem rd_form {b0 : Nat} {v : Value} {d : DataW H} {p : List MemPlace} (hv : Value.okWide Tryd.prog W .any b0 26 v) (h : DataW.Trod enc Tryd.prog W 0 (fun _ => true) true 26 v d p) :
    ∃ f, IsForm W v f ∧ ((∀ n ∈ d.weights Tryd.prog 26, n ≤ reachBytes) → f.atoms.length ≤ 140737488355328 ∧ f.clauses.length ≤ 140737488355328 ∧ ∀ xs ∈ f.clauses, xs.length ≤ 140737488355328) := by
  obtain ⟨c0, c1, c2, c3, y0, y1, y2, y3, m, rfl, rfl, rfl, hy0, hy1, hy2, hy3⟩ := open_agg4 Tryd.underlying26 (by kernel_rfl) (by kernel_rfl) hv h
  obtain ⟨i, rfl, hi⟩ := rd_int Tryd.underlying3 hy0
  obtain ⟨b, rfl, hb⟩ := rd_int Tryd.underlying3 hy1
  obtain ⟨ds, hds, wds⟩ := rd_diffs Tryd.underlying23 Tryd.underlying48 (by kernel_rfl) (by kernel_rfl) (by kernel_rfl) Tryd.underlying3 Tryd.underlying3 Tryd.underlying3 hy2
  obtain ⟨cs, hcs, wcs⟩ := rd_mat Tryd.underlying24 Tryd.underlying49 Tryd.underlying3 (by kernel_rfl) (by kernel_rfl) (by kernel_rfl) (by kernel_rfl) hy3
  refine ⟨⟨i, b, ds, cs⟩, ⟨_, _, rfl, hi, hb, hds, hcs⟩, fun hw => ?_⟩
  have w2 := wds (weights_part (j := 2) Tryd.underlying26 rfl rfl hw)
  obtain ⟨w3, w4⟩ := wcs (weights_part (j := 3) Tryd.underlying26 rfl rfl hw)
  exact ⟨Nat.le_trans w2 (by omega), Nat.le_trans w3 (by omega), fun xs hx => Nat.le_trans (w4 xs hx) (by omega)⟩


end
end Go.Proofs.YtfffalfnjficaaaDoor
