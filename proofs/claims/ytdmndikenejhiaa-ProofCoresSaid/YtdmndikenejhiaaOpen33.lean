/-
  HOW AN ARGUMENT'S READING GIVES THE WORDS: a problem; steps; bytes.
-/
import Derived.Test.YtdmndikenejhiaaOpen
import Derived.Test.YtdmndikenejhiaaProblem
import Derived.Test.YtdmndikenejhiaaDerive
import Derived.Laws.IdiomArrays
namespace Go.Proofs.Ytdmndikenejhiaa
open Go.ChangeShapes Go.WideShapes Go.ChangeAt Go.RowKit Go.Deep Go.Joins

section
variable {H : Type} {enc : TypeId × Value → H} {P : Program} {w : World}

theorem u8_of_wf {n : Int} (h : (Lit.int .u8 n).wf = true) : 0 ≤ n ∧ n ≤ 255 := by
  simpa [Lit.wf, IntKind.min, IntKind.max, IntKind.signed, IntKind.bits] using h

theorem rd_byts {t e : TypeId} {fuel : Nat} {v : Value} {x : DataW H × List MemPlace} (ht : P.underlying t = some (.slice e)) (he : P.underlying e = some (.int .u8)) (hc : P.cellsOf e = 1)
    (h : DataW.trod enc P w 0 (fun _ => true) true fuel t [v] = some x) : ∃ xs, Byts w v xs := by
  obtain ⟨xs, A, c, D, rfl, h1, h2, h3, h4, _, _⟩ := open_sl (α := Int) (Q := fun a _ => 0 ≤ a ∧ a ≤ 255) (g := fun a => [.int .u8 a]) ht hc (by omega) (fun _ => rfl)
    (fun n cs y hy => by obtain ⟨a, rfl, _, hw⟩ := DataW.trod_int he hy; exact ⟨a, rfl, u8_of_wf hw⟩) h
  rw [flatMap_one] at h3
  refine ⟨xs, A, c, rfl, h1, h2, fun x hx => ?_, h3⟩
  obtain ⟨i, hi, rfl⟩ := List.getElem_of_mem hx
  exact h4 i _ (List.getElem?_eq_getElem hi)

set_option maxRecDepth 100000 in
theorem rd_prob {b0 : Nat} {W : World} {v : Value} {d : DataW H} {p : List MemPlace} (hv : Value.okWide Try.prog W .any b0 25 v) (h : DataW.Trod enc Try.prog W 0 (fun _ => true) true 25 v d p) :
    ∃ a b c L, IsProb W v a b c L := by
  obtain ⟨cs, rfl, hsz⟩ := okWide_struct Try.underlying25 hv
  rw [show Try.prog.cellsOf 25 = 4 by kernel_rfl] at hsz
  obtain ⟨c0, c1, c2, c3, rfl⟩ : ∃ c0 c1 c2 c3, cs = #[c0, c1, c2, c3] := by
    match cs, hsz with
    | ⟨[c0, c1, c2, c3]⟩, _ => exact ⟨c0, c1, c2, c3, rfl⟩
  obtain ⟨fuel, hf⟩ := h
  obtain ⟨y0, y1, n, _, _, h0, h1⟩ := trod_struct2 Try.underlying25 hf
  have h0' : DataW.trod enc Try.prog W 0 (fun _ => true) true n 22 [c0, c1, c2] = some y0 := by
    rw [show Try.prog.cellsOf 22 = 3 by kernel_rfl] at h0
    exact h0
  have h1' : DataW.trod enc Try.prog W 0 (fun _ => true) true n 23 [c3] = some y1 := by
    rw [show Try.prog.cellsOf 23 = 1 by kernel_rfl] at h1
    exact h1
  obtain ⟨z0, z1, z2, m, _, g0, g1, g2⟩ := trod_array3 Try.underlying22 (by kernel_rfl) h0'
  obtain ⟨a, ea, _, wa⟩ := DataW.trod_int Try.underlying5 g0
  obtain ⟨b, eb, _, wb⟩ := DataW.trod_int Try.underlying5 g1
  obtain ⟨c, ec, _, wc⟩ := DataW.trod_int Try.underlying5 g2
  injection ea with ea
  injection eb with eb
  injection ec with ec
  subst ea eb ec
  obtain ⟨L, hL⟩ := rd_byts Try.underlying23 Try.underlying5 (by kernel_rfl) h1'
  exact ⟨a, b, c, L, c3, rfl, u8_of_wf wa, u8_of_wf wb, u8_of_wf wc, hL⟩

set_option maxRecDepth 100000 in
theorem rd_step {n : Nat} {W : World} {cs : List Value} {y : DataW H × List MemPlace} (h : DataW.trod enc Try.prog W 0 (fun _ => true) true n 50 cs = some y) :
    ∃ q : Stp × Value, cs = Stp.cells q ∧ (Ints W q.2 q.1.lits ∧ q.1.ok ∧ ((∀ m ∈ y.1.weights Try.prog 50, m ≤ reachBytes) → q.1.lits.length ≤ 17592186044416)) := by
  obtain ⟨xs, m, _, hx, hlen, hxl, hf⟩ := DataW.trod_struct Try.underlying50 h
  rw [show Try.prog.cellsOf 50 = 6 by kernel_rfl] at hlen
  match cs, hlen with
  | [c0, c1, c2, c3, c4, c5], _ =>
    have g0 : DataW.trod enc Try.prog W 0 (fun _ => true) true m 3 [c0] = xs[0]? := by
      have h : DataW.trod enc Try.prog W 0 (fun _ => true) true m 3 (([c0, c1, c2, c3, c4, c5].drop 0).take (Try.prog.cellsOf 3)) = xs[0]? := hf 0 _ rfl
      rw [show Try.prog.cellsOf 3 = 1 by kernel_rfl] at h
      exact h
    have g1 : DataW.trod enc Try.prog W 0 (fun _ => true) true m 3 [c1] = xs[1]? := by
      have h : DataW.trod enc Try.prog W 0 (fun _ => true) true m 3 (([c0, c1, c2, c3, c4, c5].drop 1).take (Try.prog.cellsOf 3)) = xs[1]? := hf 1 _ rfl
      rw [show Try.prog.cellsOf 3 = 1 by kernel_rfl] at h
      exact h
    have g2 : DataW.trod enc Try.prog W 0 (fun _ => true) true m 43 [c2] = xs[2]? := by
      have h : DataW.trod enc Try.prog W 0 (fun _ => true) true m 43 (([c0, c1, c2, c3, c4, c5].drop 2).take (Try.prog.cellsOf 43)) = xs[2]? := hf 2 _ rfl
      rw [show Try.prog.cellsOf 43 = 1 by kernel_rfl] at h
      exact h
    have g3 : DataW.trod enc Try.prog W 0 (fun _ => true) true m 3 [c3] = xs[3]? := by
      have h : DataW.trod enc Try.prog W 0 (fun _ => true) true m 3 (([c0, c1, c2, c3, c4, c5].drop 3).take (Try.prog.cellsOf 3)) = xs[3]? := hf 3 _ rfl
      rw [show Try.prog.cellsOf 3 = 1 by kernel_rfl] at h
      exact h
    have g4 : DataW.trod enc Try.prog W 0 (fun _ => true) true m 3 [c4] = xs[4]? := by
      have h : DataW.trod enc Try.prog W 0 (fun _ => true) true m 3 (([c0, c1, c2, c3, c4, c5].drop 4).take (Try.prog.cellsOf 3)) = xs[4]? := hf 4 _ rfl
      rw [show Try.prog.cellsOf 3 = 1 by kernel_rfl] at h
      exact h
    have g5 : DataW.trod enc Try.prog W 0 (fun _ => true) true m 3 [c5] = xs[5]? := by
      have h : DataW.trod enc Try.prog W 0 (fun _ => true) true m 3 (([c0, c1, c2, c3, c4, c5].drop 5).take (Try.prog.cellsOf 3)) = xs[5]? := hf 5 _ rfl
      rw [show Try.prog.cellsOf 3 = 1 by kernel_rfl] at h
      exact h
    match xs, hxl with
    | [x0, x1, x2, x3, x4, x5], _ =>
      simp only [List.getElem?_cons_zero, List.getElem?_cons_succ] at g0 g1 g2 g3 g4 g5
      obtain ⟨a, e0, _, w0⟩ := DataW.trod_int Try.underlying3 g0
      obtain ⟨b, e1, _, w1⟩ := DataW.trod_int Try.underlying3 g1
      obtain ⟨ls, hls, wls⟩ := rd_ints Try.underlying43 Try.underlying3 (by kernel_rfl) (by kernel_rfl) g2
      obtain ⟨c, e3, _, w3⟩ := DataW.trod_int Try.underlying3 g3
      obtain ⟨d, e4, _, w4⟩ := DataW.trod_int Try.underlying3 g4
      obtain ⟨e, e5, _, w5⟩ := DataW.trod_int Try.underlying3 g5
      simp at e0 e1 e3 e4 e5
      subst e0 e1 e3 e4 e5
      refine ⟨(⟨a, b, ls, c, d, e⟩, c2), rfl, hls, ⟨i64_of_wf w0, i64_of_wf w1, i64_of_wf w3, i64_of_wf w4, i64_of_wf w5⟩, fun hw => wls ?_⟩
      rw [hx] at hw
      exact weights_part (j := 2) Try.underlying50 rfl rfl hw

set_option maxRecDepth 100000 in
theorem rd_steps {fuel : Nat} {W : World} {v : Value} {x : DataW H × List MemPlace} (h : DataW.trod enc Try.prog W 0 (fun _ => true) true fuel 26 [v] = some x) :
    ∃ l, Stps W v l ∧ ((∀ n ∈ x.1.weights Try.prog 26, n ≤ reachBytes) → l.length ≤ 17592186044416 ∧ ∀ s ∈ l, s.lits.length ≤ 17592186044416) := by
  obtain ⟨ps, A, c, D, rfl, h1, h2, h3, h4, h5, h6⟩ := open_sl (α := Stp × Value) (Q := fun q d => Ints W q.2 q.1.lits ∧ q.1.ok ∧ ((∀ m ∈ d.weights Try.prog 50, m ≤ reachBytes) → q.1.lits.length ≤ 17592186044416)) (g := Stp.cells) Try.underlying26 (k := 6) (by kernel_rfl) (by omega) (fun _ => rfl)
    (fun n cs y hy => rd_step hy) h
  refine ⟨ps.map (·.1), ⟨A, c, ps, rfl, rfl, h1, h2, h3, fun q hq => ?_⟩, fun hw => ⟨?_, fun s hs => ?_⟩⟩
  · obtain ⟨i, hi, rfl⟩ := List.getElem_of_mem hq
    have := h4 i _ (List.getElem?_eq_getElem hi)
    exact ⟨this.1, this.2.1⟩
  · rcases h6 with rfl | ⟨n, hn, rfl⟩
    · rcases ps with _ | ⟨y, ys⟩
      · simp
      · obtain ⟨_, _, hA, _⟩ := h3 (by simp [Stp.cells]); cases hA
    · have := hw _ hn
      rw [show Try.prog.bytesOf 50 = 64 by kernel_rfl] at this
      simp only [reachBytes] at this
      simp
      omega
  · obtain ⟨q, hq, rfl⟩ := List.mem_map.1 hs
    obtain ⟨i, hi, rfl⟩ := List.getElem_of_mem hq
    exact (h4 i _ (List.getElem?_eq_getElem hi)).2.2 fun n hn => hw n (h5 i hi n hn)
end
/- HOW AN ARGUMENT'S READING GIVES THE WORDS: single numbers and booleans; small numbers. -/
open Go.ChangeShapes Go.WideShapes Go.ChangeAt Go.RowKit Go.Deep Go.Joins

/-- The value v is a slice of the small numbers xs. -/
def I8s (w : World) (v : Value) (xs : List Int) : Prop :=
  ∃ A c, v = .slice A xs.length c ∧ xs.length ≤ c ∧ c ≤ maxLen ∧ (∀ x ∈ xs, -128 ≤ x ∧ x ≤ 127) ∧ Rd w A (xs.map (Value.int .i8))
theorem I8s.keep {w w' : World} {v : Value} {xs : List Int} (h : I8s w v xs) (hb : Below w.heap.size w w') : I8s w' v xs := by
  obtain ⟨A, c, h1, h2, h3, h4, h5⟩ := h
  exact ⟨A, c, h1, h2, h3, h4, h5.keep hb⟩

section
variable {H : Type} {enc : TypeId × Value → H} {P : Program} {w : World}
theorem i8_of_wf {n : Int} (h : (Lit.int .i8 n).wf = true) : -128 ≤ n ∧ n ≤ 127 := by
  simpa [Lit.wf, IntKind.min, IntKind.max, IntKind.signed, IntKind.bits] using h
theorem rd_num {k : IntKind} {b0 : Nat} {t : TypeId} {v : Value} {d : DataW H} {p : List MemPlace} (ht : P.underlying t = some (.int k)) (hv : Value.okWide P w .any b0 t v) (h : DataW.Trod enc P w 0 (fun _ => true) true t v d p) : ∃ n, v = .int k n ∧ (Lit.int k n).wf = true := by
  obtain ⟨n, rfl⟩ := okWide_int ht hv
  obtain ⟨fuel, hf⟩ := h
  obtain ⟨m, e, _, hw⟩ := DataW.trod_int ht hf
  simp [Value.cells] at e
  subst e
  exact ⟨_, rfl, hw⟩
theorem rd_u8 {b0 : Nat} {t : TypeId} {v : Value} {d : DataW H} {p : List MemPlace} (ht : P.underlying t = some (.int .u8)) (hv : Value.okWide P w .any b0 t v) (h : DataW.Trod enc P w 0 (fun _ => true) true t v d p) : ∃ n, v = .int .u8 n ∧ 0 ≤ n ∧ n ≤ 255 := by
  obtain ⟨n, h1, h2⟩ := rd_num ht hv h
  exact ⟨n, h1, u8_of_wf h2⟩
theorem rd_i64 {b0 : Nat} {t : TypeId} {v : Value} {d : DataW H} {p : List MemPlace} (ht : P.underlying t = some (.int .i64)) (hv : Value.okWide P w .any b0 t v) (h : DataW.Trod enc P w 0 (fun _ => true) true t v d p) : ∃ n, v = .int .i64 n ∧ I64 n := by
  obtain ⟨n, h1, h2⟩ := rd_num ht hv h
  exact ⟨n, h1, i64_of_wf h2⟩
theorem rd_i8s {t e : TypeId} {fuel : Nat} {v : Value} {x : DataW H × List MemPlace} (ht : P.underlying t = some (.slice e)) (he : P.underlying e = some (.int .i8)) (hc : P.cellsOf e = 1)
    (h : DataW.trod enc P w 0 (fun _ => true) true fuel t [v] = some x) : ∃ xs, I8s w v xs := by
  obtain ⟨xs, A, c, D, rfl, h1, h2, h3, h4, _, _⟩ := open_sl (α := Int) (Q := fun a _ => -128 ≤ a ∧ a ≤ 127) (g := fun a => [.int .i8 a]) ht hc (by omega) (fun _ => rfl)
    (fun n cs y hy => by obtain ⟨a, rfl, _, hw⟩ := DataW.trod_int he hy; exact ⟨a, rfl, i8_of_wf hw⟩) h
  rw [flatMap_one] at h3
  refine ⟨xs, A, c, rfl, h1, h2, fun x hx => ?_, h3⟩
  obtain ⟨i, hi, rfl⟩ := List.getElem_of_mem hx
  exact h4 i _ (List.getElem?_eq_getElem hi)
end
end Go.Proofs.Ytdmndikenejhiaa
