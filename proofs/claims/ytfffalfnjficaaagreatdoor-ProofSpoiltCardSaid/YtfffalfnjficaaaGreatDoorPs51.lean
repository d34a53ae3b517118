/-
  HOW AN ARGUMENT'S READING GIVES THE WORDS: steps.
  HOW AN ARGUMENT'S READING GIVES THE WORDS: triples of bytes; single numbers; small numbers.
  HOW AN ARGUMENT'S READING GIVES THE WORDS: a text; small numbers without a sign.
-/
import Derived.Test.YtfffalfnjficaaaGreatDoorPs50
import Derived.Test.YtfffalfnjficaaaGreatDoorPs20
import Derived.Test.YtfffalfnjficaaaGreatDoorPs48
namespace Go.Proofs.YtfffalfnjficaaaGreatDoor
open Go.ChangeShapes Go.WideShapes Go.ChangeAt Go.RowKit Go.Deep Go.Joins

section
variable {H : Type} {enc : TypeId × Value → H} {P : Program} {w : World}

set_option maxRecDepth 100000 in
theorem rd_step {n : Nat} {W : World} {cs : List Value} {y : DataW H × List MemPlace} (h : DataW.trod enc Tryz.prog W 0 (fun _ => true) true n 53 cs = some y) :
    ∃ q : Stp × Value, cs = Stp.cells q ∧ (Ints W q.2 q.1.lits ∧ q.1.ok ∧ ((∀ m ∈ y.1.weights Tryz.prog 53, m ≤ reachBytes) → q.1.lits.length ≤ 17592186044416)) := by
  obtain ⟨xs, m, _, hx, hlen, hxl, hf⟩ := DataW.trod_struct Tryz.underlying53 h
  rw [show Tryz.prog.cellsOf 53 = 6 by kernel_rfl] at hlen
  match cs, hlen with
  | [c0, c1, c2, c3, c4, c5], _ =>
    have g0 : DataW.trod enc Tryz.prog W 0 (fun _ => true) true m 3 [c0] = xs[0]? := by
      have h : DataW.trod enc Tryz.prog W 0 (fun _ => true) true m 3 (([c0, c1, c2, c3, c4, c5].drop 0).take (Tryz.prog.cellsOf 3)) = xs[0]? := hf 0 _ rfl
      rw [show Tryz.prog.cellsOf 3 = 1 by kernel_rfl] at h
      exact h
    have g1 : DataW.trod enc Tryz.prog W 0 (fun _ => true) true m 3 [c1] = xs[1]? := by
      have h : DataW.trod enc Tryz.prog W 0 (fun _ => true) true m 3 (([c0, c1, c2, c3, c4, c5].drop 1).take (Tryz.prog.cellsOf 3)) = xs[1]? := hf 1 _ rfl
      rw [show Tryz.prog.cellsOf 3 = 1 by kernel_rfl] at h
      exact h
    have g2 : DataW.trod enc Tryz.prog W 0 (fun _ => true) true m 44 [c2] = xs[2]? := by
      have h : DataW.trod enc Tryz.prog W 0 (fun _ => true) true m 44 (([c0, c1, c2, c3, c4, c5].drop 2).take (Tryz.prog.cellsOf 44)) = xs[2]? := hf 2 _ rfl
      rw [show Tryz.prog.cellsOf 44 = 1 by kernel_rfl] at h
      exact h
    have g3 : DataW.trod enc Tryz.prog W 0 (fun _ => true) true m 3 [c3] = xs[3]? := by
      have h : DataW.trod enc Tryz.prog W 0 (fun _ => true) true m 3 (([c0, c1, c2, c3, c4, c5].drop 3).take (Tryz.prog.cellsOf 3)) = xs[3]? := hf 3 _ rfl
      rw [show Tryz.prog.cellsOf 3 = 1 by kernel_rfl] at h
      exact h
    have g4 : DataW.trod enc Tryz.prog W 0 (fun _ => true) true m 3 [c4] = xs[4]? := by
      have h : DataW.trod enc Tryz.prog W 0 (fun _ => true) true m 3 (([c0, c1, c2, c3, c4, c5].drop 4).take (Tryz.prog.cellsOf 3)) = xs[4]? := hf 4 _ rfl
      rw [show Tryz.prog.cellsOf 3 = 1 by kernel_rfl] at h
      exact h
    have g5 : DataW.trod enc Tryz.prog W 0 (fun _ => true) true m 3 [c5] = xs[5]? := by
      have h : DataW.trod enc Tryz.prog W 0 (fun _ => true) true m 3 (([c0, c1, c2, c3, c4, c5].drop 5).take (Tryz.prog.cellsOf 3)) = xs[5]? := hf 5 _ rfl
      rw [show Tryz.prog.cellsOf 3 = 1 by kernel_rfl] at h
      exact h
    match xs, hxl with
    | [x0, x1, x2, x3, x4, x5], _ =>
      simp only [List.getElem?_cons_zero, List.getElem?_cons_succ] at g0 g1 g2 g3 g4 g5
      obtain ⟨a, e0, _, w0⟩ := DataW.trod_int Tryz.underlying3 g0
      obtain ⟨b, e1, _, w1⟩ := DataW.trod_int Tryz.underlying3 g1
      obtain ⟨ls, hls, wls⟩ := rd_ints Tryz.underlying44 Tryz.underlying3 (by kernel_rfl) (by kernel_rfl) g2
      obtain ⟨c, e3, _, w3⟩ := DataW.trod_int Tryz.underlying3 g3
      obtain ⟨d, e4, _, w4⟩ := DataW.trod_int Tryz.underlying3 g4
      obtain ⟨e, e5, _, w5⟩ := DataW.trod_int Tryz.underlying3 g5
      simp at e0 e1 e3 e4 e5
      subst e0 e1 e3 e4 e5
      refine ⟨(⟨a, b, ls, c, d, e⟩, c2), rfl, hls, ⟨i64_of_wf w0, i64_of_wf w1, i64_of_wf w3, i64_of_wf w4, i64_of_wf w5⟩, fun hw => wls ?_⟩
      rw [hx] at hw
      exact weights_part (j := 2) Tryz.underlying53 rfl rfl hw
set_option maxRecDepth 100000 in
theorem rd_steps {fuel : Nat} {W : World} {v : Value} {x : DataW H × List MemPlace} (h : DataW.trod enc Tryz.prog W 0 (fun _ => true) true fuel 30 [v] = some x) :
    ∃ l, Stps W v l ∧ ((∀ n ∈ x.1.weights Tryz.prog 30, n ≤ reachBytes) → l.length ≤ 17592186044416 ∧ ∀ s ∈ l, s.lits.length ≤ 17592186044416) := by
  obtain ⟨ps, A, c, D, rfl, h1, h2, h3, h4, h5, h6⟩ := open_sl (α := Stp × Value) (Q := fun q d => Ints W q.2 q.1.lits ∧ q.1.ok ∧ ((∀ m ∈ d.weights Tryz.prog 53, m ≤ reachBytes) → q.1.lits.length ≤ 17592186044416)) (g := Stp.cells) Tryz.underlying30 (k := 6) (by kernel_rfl) (by omega) (fun _ => rfl)
    (fun n cs y hy => rd_step hy) h
  refine ⟨ps.map (·.1), ⟨A, c, ps, rfl, rfl, h1, h2, h3, fun q hq => ?_⟩, fun hw => ⟨?_, fun s hs => ?_⟩⟩
  · obtain ⟨i, hi, rfl⟩ := List.getElem_of_mem hq
    have := h4 i _ (List.getElem?_eq_getElem hi)
    exact ⟨this.1, this.2.1⟩
  · rcases h6 with rfl | ⟨n, hn, rfl⟩
    · rcases ps with _ | ⟨y, ys⟩
      · simp
      · obtain ⟨_, _, hA, _⟩ := h3 (by simp [Stp.cells]); cases hA
    · have := hw _ hn
      rw [show Tryz.prog.bytesOf 53 = 64 by kernel_rfl] at this
      simp only [reachBytes] at this
      simp
      omega
  · obtain ⟨q, hq, rfl⟩ := List.mem_map.1 hs
    obtain ⟨i, hi, rfl⟩ := List.getElem_of_mem hq
    exact (h4 i _ (List.getElem?_eq_getElem hi)).2.2 fun n hn => hw n (h5 i hi n hn)
end
end Go.Proofs.YtfffalfnjficaaaGreatDoor

namespace Go.Proofs.YtfffalfnjficaaaGreatDoor
open Go.ChangeShapes Go.WideShapes Go.ChangeAt Go.RowKit Go.Deep Go.Joins

section
variable {H : Type} {enc : TypeId × Value → H} {W : World}

set_option maxRecDepth 100000 in
theorem rd_trips {fuel : Nat} {v : Value} {x : DataW H × List MemPlace} (h : DataW.trod enc Tryz.prog W 0 (fun _ => true) true fuel 26 [v] = some x) : ∃ xs, Trips W v xs := by
  obtain ⟨xs, A, c, D, rfl, h1, h2, h3, h4, _, _⟩ := open_sl (α := Int × Int × Int) (Q := fun t _ => (0 ≤ t.1 ∧ t.1 ≤ 255) ∧ (0 ≤ t.2.1 ∧ t.2.1 ≤ 255) ∧ (0 ≤ t.2.2 ∧ t.2.2 ≤ 255)) (g := Trip.cells) Tryz.underlying26 (k := 3) (by kernel_rfl) (by omega) (fun _ => rfl)
    (fun n cs y hy => by
      have hlen : cs.length = 3 := by
        obtain ⟨_, _, _, _, hl, _⟩ := DataW.trod_array Tryz.underlying22 hy
        rw [hl]; kernel_rfl
      match cs, hlen with
      | [c0, c1, c2], _ =>
        obtain ⟨z0, z1, z2, m, _, g0, g1, g2⟩ := trod_array3 Tryz.underlying22 (by kernel_rfl) hy
        obtain ⟨a, ea, _, wa⟩ := DataW.trod_int Tryz.underlying5 g0
        obtain ⟨b, eb, _, wb⟩ := DataW.trod_int Tryz.underlying5 g1
        obtain ⟨c, ec, _, wc⟩ := DataW.trod_int Tryz.underlying5 g2
        injection ea with ea
        injection eb with eb
        injection ec with ec
        subst ea eb ec
        exact ⟨(a, b, c), rfl, u8_of_wf wa, u8_of_wf wb, u8_of_wf wc⟩) h
  refine ⟨xs, A, c, rfl, h1, h2, fun t ht => ?_, h3⟩
  obtain ⟨i, hi, rfl⟩ := List.getElem_of_mem ht
  exact h4 i _ (List.getElem?_eq_getElem hi)
end
end Go.Proofs.YtfffalfnjficaaaGreatDoor

namespace Go.Proofs.YtfffalfnjficaaaGreatDoor
open Go.ChangeShapes Go.WideShapes Go.ChangeAt Go.RowKit Go.Deep Go.Joins

section
variable {H : Type} {enc : TypeId × Value → H} {P : Program} {w : World}
theorem okWide_text {b0 : Nat} {t : TypeId} {v : Value} (ht : P.underlying t = some .string) (h : Value.okWide P w .any b0 t v) : ∃ b, v = .string b := by
  simp only [Value.okWide, ht, Cell.okWide] at h
  cases v <;> simp_all [Cell.ok]
theorem rd_str {b0 : Nat} {t : TypeId} {v : Value} (ht : P.underlying t = some .string) (hv : Value.okWide P w .any b0 t v) : ∃ s : List UInt8, v = .string ⟨s.toArray⟩ := by
  obtain ⟨b, rfl⟩ := okWide_text ht hv
  exact ⟨b.data.toList, by simp⟩
theorem rd_u16 {b0 : Nat} {t : TypeId} {v : Value} {d : DataW H} {p : List MemPlace} (ht : P.underlying t = some (.int .u16)) (hv : Value.okWide P w .any b0 t v) (h : DataW.Trod enc P w 0 (fun _ => true) true t v d p) : ∃ n, v = .int .u16 n ∧ 0 ≤ n ∧ n ≤ 65535 := by
  obtain ⟨n, h1, h2⟩ := rd_num ht hv h
  exact ⟨n, h1, by simpa [Lit.wf, IntKind.min, IntKind.max, IntKind.signed, IntKind.bits] using h2⟩
end
end Go.Proofs.YtfffalfnjficaaaGreatDoor
