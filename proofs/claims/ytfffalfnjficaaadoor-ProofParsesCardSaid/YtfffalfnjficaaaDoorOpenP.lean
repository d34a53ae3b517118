/-
  HOW AN ARGUMENT'S READING GIVES THE WORDS: a problem; bytes.
-/
import Derived.Test.YtfffalfnjficaaaDoorOpen
import Derived.Test.YtfffalfnjficaaaDoorProblem
import Derived.Laws.IdiomArrays
namespace Go.Proofs.YtfffalfnjficaaaDoor
open Go.ChangeShapes Go.WideShapes Go.ChangeAt Go.RowKit Go.Deep Go.Joins

section
variable {H : Type} {enc : TypeId × Value → H} {P : Program} {w : World}

theorem u8_of_wf {n : Int} (h : (Lit.int .u8 n).wf = true) : 0 ≤ n ∧ n ≤ 255 := by
  simpa [Lit.wf, IntKind.min, IntKind.max, IntKind.signed, IntKind.bits] using h

theorem rd_byts {t e : TypeId} {fuel : Nat} {v : Value} {x : DataW H × List MemPlace} (ht : P.underlying t = some (.slice e)) (he : P.underlying e = some (.int .u8)) (hc : P.cellsOf e = 1)
    (h : DataW.trod enc P w 0 (fun _ => true) true fuel t [v] = some x) : ∃ xs, Byts w v xs := by
  obtain ⟨xs, A, c, D, rfl, h1, h2, h3, h4, _, _⟩ := open_sl (α := Int) (Q := fun a _ => 0 ≤ a ∧ a ≤ 255) (g := fun a => [.int .u8 a]) ht hc (by omega) (fun _ => rfl)
    (fun n cs y hy => by obtain ⟨a, rfl, _, hw⟩ := DataW.trod_int he hy; exact ⟨a, rfl, u8_of_wf hw⟩) h
  rw [flatMap_one] at h3
  refine ⟨xs, A, c, rfl, h1, h2, fun x hx => ?_, h3⟩
  obtain ⟨i, hi, rfl⟩ := List.getElem_of_mem hx
  exact h4 i _ (List.getElem?_eq_getElem hi)

set_option maxRecDepth 100000 in
theorem rd_prob {b0 : Nat} {W : World} {v : Value} {d : DataW H} {p : List MemPlace} (hv : Value.okWide Tryd.prog W .any b0 35 v) (h : DataW.Trod enc Tryd.prog W 0 (fun _ => true) true 35 v d p) :
    ∃ a b c L, IsProb W v a b c L := by
  obtain ⟨cs, rfl, hsz⟩ := okWide_struct Tryd.underlying35 hv
  rw [show Tryd.prog.cellsOf 35 = 4 by kernel_rfl] at hsz
  obtain ⟨c0, c1, c2, c3, rfl⟩ : ∃ c0 c1 c2 c3, cs = #[c0, c1, c2, c3] := by
    match cs, hsz with
    | ⟨[c0, c1, c2, c3]⟩, _ => exact ⟨c0, c1, c2, c3, rfl⟩
  obtain ⟨fuel, hf⟩ := h
  obtain ⟨y0, y1, n, _, _, h0, h1⟩ := trod_struct2 Tryd.underlying35 hf
  have h0' : DataW.trod enc Tryd.prog W 0 (fun _ => true) true n 32 [c0, c1, c2] = some y0 := by
    rw [show Tryd.prog.cellsOf 32 = 3 by kernel_rfl] at h0
    exact h0
  have h1' : DataW.trod enc Tryd.prog W 0 (fun _ => true) true n 33 [c3] = some y1 := by
    rw [show Tryd.prog.cellsOf 33 = 1 by kernel_rfl] at h1
    exact h1
  obtain ⟨z0, z1, z2, m, _, g0, g1, g2⟩ := trod_array3 Tryd.underlying32 (by kernel_rfl) h0'
  obtain ⟨a, ea, _, wa⟩ := DataW.trod_int Tryd.underlying5 g0
  obtain ⟨b, eb, _, wb⟩ := DataW.trod_int Tryd.underlying5 g1
  obtain ⟨c, ec, _, wc⟩ := DataW.trod_int Tryd.underlying5 g2
  injection ea with ea
  injection eb with eb
  injection ec with ec
  subst ea eb ec
  obtain ⟨L, hL⟩ := rd_byts Tryd.underlying33 Tryd.underlying5 (by kernel_rfl) h1'
  exact ⟨a, b, c, L, c3, rfl, u8_of_wf wa, u8_of_wf wb, u8_of_wf wc, hL⟩


end
/- HOW AN ARGUMENT'S READING GIVES THE WORDS: single numbers and booleans; small numbers. -/
open Go.ChangeShapes Go.WideShapes Go.ChangeAt Go.RowKit Go.Deep Go.Joins

/-- The value v is a slice of the small numbers xs. -/
def I8s (w : World) (v : Value) (xs : List Int) : Prop :=
  ∃ A c, v = .slice A xs.length c ∧ xs.length ≤ c ∧ c ≤ maxLen ∧ (∀ x ∈ xs, -128 ≤ x ∧ x ≤ 127) ∧ Rd w A (xs.map (Value.int .i8))
theorem I8s.keep {w w' : World} {v : Value} {xs : List Int} (h : I8s w v xs) (hb : Below w.heap.size w w') : I8s w' v xs := by
  obtain ⟨A, c, h1, h2, h3, h4, h5⟩ := h
  exact ⟨A, c, h1, h2, h3, h4, h5.keep hb⟩

section
variable {H : Type} {enc : TypeId × Value → H} {P : Program} {w : World}
theorem i8_of_wf {n : Int} (h : (Lit.int .i8 n).wf = true) : -128 ≤ n ∧ n ≤ 127 := by
  simpa [Lit.wf, IntKind.min, IntKind.max, IntKind.signed, IntKind.bits] using h
theorem rd_num {k : IntKind} {b0 : Nat} {t : TypeId} {v : Value} {d : DataW H} {p : List MemPlace} (ht : P.underlying t = some (.int k)) (hv : Value.okWide P w .any b0 t v) (h : DataW.Trod enc P w 0 (fun _ => true) true t v d p) : ∃ n, v = .int k n ∧ (Lit.int k n).wf = true := by
  obtain ⟨n, rfl⟩ := okWide_int ht hv
  obtain ⟨fuel, hf⟩ := h
  obtain ⟨m, e, _, hw⟩ := DataW.trod_int ht hf
  simp [Value.cells] at e
  subst e
  exact ⟨_, rfl, hw⟩
theorem rd_u8 {b0 : Nat} {t : TypeId} {v : Value} {d : DataW H} {p : List MemPlace} (ht : P.underlying t = some (.int .u8)) (hv : Value.okWide P w .any b0 t v) (h : DataW.Trod enc P w 0 (fun _ => true) true t v d p) : ∃ n, v = .int .u8 n ∧ 0 ≤ n ∧ n ≤ 255 := by
  obtain ⟨n, h1, h2⟩ := rd_num ht hv h
  exact ⟨n, h1, u8_of_wf h2⟩
theorem rd_i64 {b0 : Nat} {t : TypeId} {v : Value} {d : DataW H} {p : List MemPlace} (ht : P.underlying t = some (.int .i64)) (hv : Value.okWide P w .any b0 t v) (h : DataW.Trod enc P w 0 (fun _ => true) true t v d p) : ∃ n, v = .int .i64 n ∧ I64 n := by
  obtain ⟨n, h1, h2⟩ := rd_num ht hv h
  exact ⟨n, h1, i64_of_wf h2⟩
theorem rd_i8s {t e : TypeId} {fuel : Nat} {v : Value} {x : DataW H × List MemPlace} (ht : P.underlying t = some (.slice e)) (he : P.underlying e = some (.int .i8)) (hc : P.cellsOf e = 1)
    (h : DataW.trod enc P w 0 (fun _ => true) true fuel t [v] = some x) : ∃ xs, I8s w v xs := by
  obtain ⟨xs, A, c, D, rfl, h1, h2, h3, h4, _, _⟩ := open_sl (α := Int) (Q := fun a _ => -128 ≤ a ∧ a ≤ 127) (g := fun a => [.int .i8 a]) ht hc (by omega) (fun _ => rfl)
    (fun n cs y hy => by obtain ⟨a, rfl, _, hw⟩ := DataW.trod_int he hy; exact ⟨a, rfl, i8_of_wf hw⟩) h
  rw [flatMap_one] at h3
  refine ⟨xs, A, c, rfl, h1, h2, fun x hx => ?_, h3⟩
  obtain ⟨i, hi, rfl⟩ := List.getElem_of_mem hx
  exact h4 i _ (List.getElem?_eq_getElem hi)
end
end Go.Proofs.YtfffalfnjficaaaDoor
