/-
  HOW AN ARGUMENT'S READING GIVES THE WORDS: a trace.
-/
import Derived.Test.YtmnjmegejaejlaaDoorTT3
import Derived.Test.YtmnjmegejaejlaaDoorTT31
namespace Go.Proofs.YtmnjmegejaejlaaDoor
open Go.ChangeShapes Go.WideShapes Go.ChangeAt Go.RowKit Go.Deep Go.Joins

section
variable {H : Type} {enc : TypeId × Value → H} {P : Program} {w : World}
theorem txt_of {cs : List Value} {x : DataW H × List MemPlace} {t : TypeId} {n : Nat} (ht : P.underlying t = some .string) (h : DataW.trod enc P w 0 (fun _ => true) true n t cs = some x) : ∃ s : List UInt8, cs = [.string ⟨s.toArray⟩] := by
  obtain ⟨s, rfl, _⟩ := DataW.trod_string ht h
  exact ⟨s.data.toList, by simp⟩
/-- A slice of whatever elements: their number. -/
theorem len_of {α : Type} {e : TypeId} {m bb : Nat} {A : Option Addr} {xs : List α} {g : α → List Value} {c : Nat} {t : TypeId} {d : DataW H} (hg : ∀ a, (g a).length = m) (hm : 0 < m) (hr : Rd w A (xs.flatMap g)) (hl : xs.length ≤ c) (hby : P.bytesOf e = bb) (hb8 : 8 ≤ bb) (h6 : A = none ∨ ∃ n ∈ d.weights P t, n = c * P.bytesOf e) (hw : ∀ n ∈ d.weights P t, n ≤ reachBytes) : xs.length ≤ 17592186044416 := by
  rcases h6 with rfl | ⟨n, hn, rfl⟩
  · rcases xs with _ | ⟨y, ys⟩
    · simp
    · obtain ⟨_, _, hA, _⟩ := hr (by rw [List.flatMap_cons, List.length_append, hg]; omega)
      cases hA
  · have := hw _ hn
    rw [hby] at this
    simp only [reachBytes] at this
    have h8 : c * 8 ≤ c * bb := Nat.mul_le_mul_left c hb8
    omega
theorem rd_cel {e : TypeId} {f0 f1 f2 f3 f4 : Field} {n : Nat} {cs : List Value} {y : DataW H × List MemPlace} (he : P.underlying e = some (.struct #[f0, f1, f2, f3, f4])) (hone : oneCellFields P #[f0, f1, f2, f3, f4] = true) (hC : P.cellsOf e = 5)
    (i0 : P.underlying f0.type = some .string) (i1 : P.underlying f1.type = some (.int .i64)) (i2 : P.underlying f2.type = some (.int .i64)) (i3 : P.underlying f3.type = some .bool) (i4 : P.underlying f4.type = some (.int .i64))
    (h : DataW.trod enc P w 0 (fun _ => true) true n e cs = some y) : ∃ d : Cel, cs = Cel.cells d ∧ (I64 d.index ∧ I64 d.size ∧ I64 d.init) := by
  obtain ⟨xs, n', _, _, hlen, hxl, hf⟩ := DataW.trod_struct he h
  rw [hC] at hlen
  obtain ⟨o0, k0⟩ := hone_of hone 0 f0 rfl
  obtain ⟨o1, k1⟩ := hone_of hone 1 f1 rfl
  obtain ⟨o2, k2⟩ := hone_of hone 2 f2 rfl
  obtain ⟨o3, k3⟩ := hone_of hone 3 f3 rfl
  obtain ⟨o4, k4⟩ := hone_of hone 4 f4 rfl
  match cs, hlen with
  | [c0, c1, c2, c3, c4], _ =>
    have g0 := hf 0 f0 rfl
    rw [o0, k0] at g0
    have g1 := hf 1 f1 rfl
    rw [o1, k1] at g1
    have g2 := hf 2 f2 rfl
    rw [o2, k2] at g2
    have g3 := hf 3 f3 rfl
    rw [o3, k3] at g3
    have g4 := hf 4 f4 rfl
    rw [o4, k4] at g4
    match xs, hxl with
    | [x0, x1, x2, x3, x4], _ =>
      obtain ⟨a0, e0⟩ := txt_of i0 g0
      obtain ⟨a1, e1, _, w1⟩ := DataW.trod_int i1 g1
      obtain ⟨a2, e2, _, w2⟩ := DataW.trod_int i2 g2
      obtain ⟨a3, e3, _⟩ := DataW.trod_bool i3 g3
      obtain ⟨a4, e4, _, w4⟩ := DataW.trod_int i4 g4
      simp at e0 e1 e2 e3 e4
      subst e0 e1 e2 e3 e4
      exact ⟨⟨a0, a1, a2, a3, a4⟩, rfl, ⟨i64_of_wf w1, i64_of_wf w2, i64_of_wf w4⟩⟩
theorem rd_lck {e : TypeId} {f0 f1 : Field} {n : Nat} {cs : List Value} {y : DataW H × List MemPlace} (he : P.underlying e = some (.struct #[f0, f1])) (hone : oneCellFields P #[f0, f1] = true) (hC : P.cellsOf e = 2)
    (i0 : P.underlying f0.type = some .string) (i1 : P.underlying f1.type = some .bool)
    (h : DataW.trod enc P w 0 (fun _ => true) true n e cs = some y) : ∃ d : Lck, cs = Lck.cells d ∧ (True) := by
  obtain ⟨xs, n', _, _, hlen, hxl, hf⟩ := DataW.trod_struct he h
  rw [hC] at hlen
  obtain ⟨o0, k0⟩ := hone_of hone 0 f0 rfl
  obtain ⟨o1, k1⟩ := hone_of hone 1 f1 rfl
  match cs, hlen with
  | [c0, c1], _ =>
    have g0 := hf 0 f0 rfl
    rw [o0, k0] at g0
    have g1 := hf 1 f1 rfl
    rw [o1, k1] at g1
    match xs, hxl with
    | [x0, x1], _ =>
      obtain ⟨a0, e0⟩ := txt_of i0 g0
      obtain ⟨a1, e1, _⟩ := DataW.trod_bool i1 g1
      simp at e0 e1
      subst e0 e1
      exact ⟨⟨a0, a1⟩, rfl, trivial⟩
theorem rd_cnd {e : TypeId} {f0 f1 : Field} {n : Nat} {cs : List Value} {y : DataW H × List MemPlace} (he : P.underlying e = some (.struct #[f0, f1])) (hone : oneCellFields P #[f0, f1] = true) (hC : P.cellsOf e = 2)
    (i0 : P.underlying f0.type = some .string) (i1 : P.underlying f1.type = some (.int .i64))
    (h : DataW.trod enc P w 0 (fun _ => true) true n e cs = some y) : ∃ d : Cnd, cs = Cnd.cells d ∧ (I64 d.mutex) := by
  obtain ⟨xs, n', _, _, hlen, hxl, hf⟩ := DataW.trod_struct he h
  rw [hC] at hlen
  obtain ⟨o0, k0⟩ := hone_of hone 0 f0 rfl
  obtain ⟨o1, k1⟩ := hone_of hone 1 f1 rfl
  match cs, hlen with
  | [c0, c1], _ =>
    have g0 := hf 0 f0 rfl
    rw [o0, k0] at g0
    have g1 := hf 1 f1 rfl
    rw [o1, k1] at g1
    match xs, hxl with
    | [x0, x1], _ =>
      obtain ⟨a0, e0⟩ := txt_of i0 g0
      obtain ⟨a1, e1, _, w1⟩ := DataW.trod_int i1 g1
      simp at e0 e1
      subst e0 e1
      exact ⟨⟨a0, a1⟩, rfl, i64_of_wf w1⟩
theorem rd_sit {e : TypeId} {f0 f1 f2 : Field} {n : Nat} {cs : List Value} {y : DataW H × List MemPlace} (he : P.underlying e = some (.struct #[f0, f1, f2])) (hone : oneCellFields P #[f0, f1, f2] = true) (hC : P.cellsOf e = 3)
    (i0 : P.underlying f0.type = some (.int .i64)) (i1 : P.underlying f1.type = some (.int .i64)) (i2 : P.underlying f2.type = some (.int .i64))
    (h : DataW.trod enc P w 0 (fun _ => true) true n e cs = some y) : ∃ d : Sit, cs = Sit.cells d ∧ (I64 d.thread ∧ I64 d.stmt ∧ I64 d.line) := by
  obtain ⟨xs, n', _, _, hlen, hxl, hf⟩ := DataW.trod_struct he h
  rw [hC] at hlen
  obtain ⟨o0, k0⟩ := hone_of hone 0 f0 rfl
  obtain ⟨o1, k1⟩ := hone_of hone 1 f1 rfl
  obtain ⟨o2, k2⟩ := hone_of hone 2 f2 rfl
  match cs, hlen with
  | [c0, c1, c2], _ =>
    have g0 := hf 0 f0 rfl
    rw [o0, k0] at g0
    have g1 := hf 1 f1 rfl
    rw [o1, k1] at g1
    have g2 := hf 2 f2 rfl
    rw [o2, k2] at g2
    match xs, hxl with
    | [x0, x1, x2], _ =>
      obtain ⟨a0, e0, _, w0⟩ := DataW.trod_int i0 g0
      obtain ⟨a1, e1, _, w1⟩ := DataW.trod_int i1 g1
      obtain ⟨a2, e2, _, w2⟩ := DataW.trod_int i2 g2
      simp at e0 e1 e2
      subst e0 e1 e2
      exact ⟨⟨a0, a1, a2⟩, rfl, ⟨i64_of_wf w0, i64_of_wf w1, i64_of_wf w2⟩⟩
/-- An event by its cells; the numbers behind it. -/
theorem rd_evn {e si ti : TypeId} {f0 f1 f2 f3 f4 f5 f6 : Field} {n : Nat} {cs : List Value} {y : DataW H × List MemPlace} (he : P.underlying e = some (.struct #[f0, f1, f2, f3, f4, f5, f6])) (hone : oneCellFields P #[f0, f1, f2, f3, f4, f5, f6] = true) (hC : P.cellsOf e = 7)
    (i0 : P.underlying f0.type = some (.int .i64)) (i1 : P.underlying f1.type = some (.int .i64)) (i2 : P.underlying f2.type = some (.int .i64)) (i3 : P.underlying f3.type = some (.int .i64)) (i4 : P.underlying f4.type = some (.int .i64)) (t5 : f5.type = si) (t6 : f6.type = si)
    (is : P.underlying si = some (.slice ti)) (it : P.underlying ti = some (.int .i64)) (hct : P.cellsOf ti = 1) (hbt : P.bytesOf ti = 8)
    (h : DataW.trod enc P w 0 (fun _ => true) true n e cs = some y) : ∃ q : Evn × Value × Value, cs = evC q ∧ (q.1.ok ∧ Ints w q.2.1 q.1.deps ∧ Ints w q.2.2 q.1.frm) ∧ ((∀ m ∈ y.1.weights P e, m ≤ reachBytes) → q.1.deps.length ≤ 17592186044416 ∧ q.1.frm.length ≤ 17592186044416) := by
  obtain ⟨xs, n', _, hy1, hlen, hxl, hf⟩ := DataW.trod_struct he h
  rw [hC] at hlen
  obtain ⟨o0, k0⟩ := hone_of hone 0 f0 rfl
  obtain ⟨o1, k1⟩ := hone_of hone 1 f1 rfl
  obtain ⟨o2, k2⟩ := hone_of hone 2 f2 rfl
  obtain ⟨o3, k3⟩ := hone_of hone 3 f3 rfl
  obtain ⟨o4, k4⟩ := hone_of hone 4 f4 rfl
  obtain ⟨o5, k5⟩ := hone_of hone 5 f5 rfl
  obtain ⟨o6, k6⟩ := hone_of hone 6 f6 rfl
  match cs, hlen with
  | [c0, c1, c2, c3, c4, c5, c6], _ =>
    have g0 := hf 0 f0 rfl
    rw [o0, k0] at g0
    have g1 := hf 1 f1 rfl
    rw [o1, k1] at g1
    have g2 := hf 2 f2 rfl
    rw [o2, k2] at g2
    have g3 := hf 3 f3 rfl
    rw [o3, k3] at g3
    have g4 := hf 4 f4 rfl
    rw [o4, k4] at g4
    have g5 := hf 5 f5 rfl
    rw [o5, k5] at g5
    have g6 := hf 6 f6 rfl
    rw [o6, k6] at g6
    match xs, hxl with
    | [x0, x1, x2, x3, x4, x5, x6], _ =>
      obtain ⟨a0, e0, _, w0⟩ := DataW.trod_int i0 g0
      obtain ⟨a1, e1, _, w1⟩ := DataW.trod_int i1 g1
      obtain ⟨a2, e2, _, w2⟩ := DataW.trod_int i2 g2
      obtain ⟨a3, e3, _, w3⟩ := DataW.trod_int i3 g3
      obtain ⟨a4, e4, _, w4⟩ := DataW.trod_int i4 g4
      simp at e0 e1 e2 e3 e4
      subst e0 e1 e2 e3 e4
      have s5 : DataW.trod enc P w 0 (fun _ => true) true n' si [c5] = some x5 := by rw [← t5]; simpa using g5
      have s6 : DataW.trod enc P w 0 (fun _ => true) true n' si [c6] = some x6 := by rw [← t6]; simpa using g6
      obtain ⟨dp, hd, hdw⟩ := rd_ints is it hct hbt s5
      obtain ⟨fr, hr, hrw⟩ := rd_ints is it hct hbt s6
      refine ⟨(⟨a0, a1, a2, a3, a4, dp, fr⟩, c5, c6), rfl, ⟨⟨i64_of_wf w0, i64_of_wf w1, i64_of_wf w2, i64_of_wf w3, i64_of_wf w4⟩, hd, hr⟩, fun hm => ?_⟩
      rw [hy1] at hm
      have q5 := weights_part (j := 5) he (f := f5) rfl (d := x5.1) rfl hm
      have q6 := weights_part (j := 6) he (f := f6) rfl (d := x6.1) rfl hm
      rw [t5] at q5
      rw [t6] at q6
      exact ⟨hdw q5, hrw q6⟩
end
end Go.Proofs.YtmnjmegejaejlaaDoor
