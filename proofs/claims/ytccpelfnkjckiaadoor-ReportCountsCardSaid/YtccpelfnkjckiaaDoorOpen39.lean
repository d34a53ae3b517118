/-
  HOW AN ARGUMENT'S READING GIVES THE WORDS: findings, reports.
-/
import Derived.Test.YtccpelfnkjckiaaDoorOpen
import Derived.Test.YtccpelfnkjckiaaDoorOpenP
import Derived.Test.YtccpelfnkjckiaaDoorRepFnd
namespace Go.Proofs.YtccpelfnkjckiaaDoor
open Go.ChangeShapes Go.WideShapes Go.ChangeAt Go.RowKit Go.Deep Go.Joins

section
variable {H : Type} {enc : TypeId × Value → H} {w : World}

theorem sl_shape {P : Program} {t e : TypeId} {fuel : Nat} {v : Value} {x : DataW H × List MemPlace} (ht : P.underlying t = some (.slice e)) (h : DataW.trod enc P w 0 (fun _ => true) true fuel t [v] = some x) :
    ∃ A n c, v = .slice A n c ∧ n ≤ c ∧ c ≤ maxLen := by
  rcases open_slice ht h with ⟨h0, _⟩ | ⟨a, len, cap, m, n, D, Pl, hcs, _, hl, hm, _⟩
  · injection h0 with h0; exact ⟨none, 0, 0, h0, by simp, by simp [maxLen]⟩
  · injection hcs with hcs; exact ⟨_, _, _, hcs, hl, hm⟩
theorem int_at {P : Program} {t : TypeId} {fuel : Nat} {v : Value} {x : DataW H × List MemPlace} (ht : P.underlying t = some (.int .i64)) (h : DataW.trod enc P w 0 (fun _ => true) true fuel t [v] = some x) : ∃ a, v = .int .i64 a ∧ I64 a := by
  obtain ⟨a, e, _, hw⟩ := DataW.trod_int ht h
  injection e with e
  exact ⟨a, e, i64_of_wf hw⟩
theorem bool_at {P : Program} {t : TypeId} {fuel : Nat} {v : Value} {x : DataW H × List MemPlace} (ht : P.underlying t = some .bool) (h : DataW.trod enc P w 0 (fun _ => true) true fuel t [v] = some x) : ∃ b, v = .bool b := by
  obtain ⟨b, e, _⟩ := DataW.trod_bool ht h
  injection e with e
  exact ⟨b, e⟩

theorem fld {P : Program} {n : Nat} {fs : Array Field} {xs : List (DataW H × List MemPlace)} {cs : List Value} (hf : ∀ (i : Nat) (f : Field), fs[i]? = some f → DataW.trod enc P w 0 (fun _ => true) true n f.type ((cs.drop f.offset).take (P.cellsOf f.type)) = xs[i]?)
    (i T off k : Nat) (f : Field) (hi : fs[i]? = some f) (hT : f.type = T) (ho : f.offset = off) (hk : P.cellsOf T = k) : DataW.trod enc P w 0 (fun _ => true) true n T ((cs.drop off).take k) = xs[i]? := by
  have h := hf i f hi
  rw [hT, ho, hk] at h
  exact h
theorem cI : Tryd.prog.cellsOf 3 = 1 := by kernel_rfl
theorem cB : Tryd.prog.cellsOf 4 = 1 := by kernel_rfl
theorem cIs : Tryd.prog.cellsOf 33 = 1 := by kernel_rfl
theorem cCs : Tryd.prog.cellsOf 53 = 1 := by kernel_rfl
theorem cSs : Tryd.prog.cellsOf 54 = 1 := by kernel_rfl
theorem cGoal : Tryd.prog.cellsOf 52 = 6 := by kernel_rfl
theorem cPred : Tryd.prog.cellsOf 56 = 10 := by kernel_rfl
theorem cFnd : Tryd.prog.cellsOf 58 = 12 := by kernel_rfl
theorem cRep : Tryd.prog.cellsOf 61 = 6 := by kernel_rfl

set_option maxRecDepth 100000 in
/-- A finding, by its cells. -/
theorem rd_fnd {n : Nat} {cs : List Value} {y : DataW H × List MemPlace} (h : DataW.trod enc Tryd.prog w 0 (fun _ => true) true n 58 cs = some y) : ∃ p : Fnd × FndM, cs = Fnd.cells p ∧ FndOk w p ∧ ((∀ n ∈ y.1.weights Tryd.prog 58, n ≤ reachBytes) → p.1.sites.length ≤ 17592186044416) := by
  obtain ⟨xs, n1, _, hy, hlen, hxl, hf⟩ := DataW.trod_struct Tryd.underlying58 h
  rw [cFnd] at hlen
  match cs, hlen with
  | [c0, c1, c2, c3, c4, c5, c6, c7, c8, c9, c10, c11], _ =>
    match xs, hxl with
    | [x0, x1, x2], _ =>
      have g0 := fld hf 0 3 0 1 _ rfl rfl rfl cI
      have g1 := fld hf 1 56 1 10 _ rfl rfl rfl cPred
      have g2 := fld hf 2 33 11 1 _ rfl rfl rfl cIs
      have g0' : DataW.trod enc Tryd.prog w 0 (fun _ => true) true n1 3 [c0] = some x0 := g0
      have g1' : DataW.trod enc Tryd.prog w 0 (fun _ => true) true n1 56 [c1, c2, c3, c4, c5, c6, c7, c8, c9, c10] = some x1 := g1
      have g2' : DataW.trod enc Tryd.prog w 0 (fun _ => true) true n1 33 [c11] = some x2 := g2
      obtain ⟨zs, n2, _, _, _, hzl, hz⟩ := DataW.trod_struct Tryd.underlying56 g1'
      match zs, hzl with
      | [z0, z1, z2, z3, z4], _ =>
        have e0 := fld hz 0 52 0 6 _ rfl rfl rfl cGoal
        have e1 := fld hz 1 4 6 1 _ rfl rfl rfl cB
        have e2 := fld hz 2 53 7 1 _ rfl rfl rfl cCs
        have e3 := fld hz 3 54 8 1 _ rfl rfl rfl cSs
        have e4 := fld hz 4 3 9 1 _ rfl rfl rfl cI
        have e0' : DataW.trod enc Tryd.prog w 0 (fun _ => true) true n2 52 [c1, c2, c3, c4, c5, c6] = some z0 := e0
        have e1' : DataW.trod enc Tryd.prog w 0 (fun _ => true) true n2 4 [c7] = some z1 := e1
        have e2' : DataW.trod enc Tryd.prog w 0 (fun _ => true) true n2 53 [c8] = some z2 := e2
        have e3' : DataW.trod enc Tryd.prog w 0 (fun _ => true) true n2 54 [c9] = some z3 := e3
        have e4' : DataW.trod enc Tryd.prog w 0 (fun _ => true) true n2 3 [c10] = some z4 := e4
        obtain ⟨us, n3, _, _, _, hul, hu⟩ := DataW.trod_struct Tryd.underlying52 e0'
        match us, hul with
        | [u0, u1, u2, u3, u4, u5], _ =>
          have k0 := fld hu 0 3 0 1 _ rfl rfl rfl cI
          have k1 := fld hu 1 3 1 1 _ rfl rfl rfl cI
          have k2 := fld hu 2 3 2 1 _ rfl rfl rfl cI
          have k3 := fld hu 3 3 3 1 _ rfl rfl rfl cI
          have k4 := fld hu 4 3 4 1 _ rfl rfl rfl cI
          have k5 := fld hu 5 33 5 1 _ rfl rfl rfl cIs
          obtain ⟨a0, rfl, h0⟩ := int_at Tryd.underlying3 g0'
          obtain ⟨a1, rfl, h1⟩ := int_at Tryd.underlying3 (v := c1) k0
          obtain ⟨a2, rfl, _⟩ := int_at Tryd.underlying3 (v := c2) k1
          obtain ⟨a3, rfl, _⟩ := int_at Tryd.underlying3 (v := c3) k2
          obtain ⟨a4, rfl, _⟩ := int_at Tryd.underlying3 (v := c4) k3
          obtain ⟨a5, rfl, _⟩ := int_at Tryd.underlying3 (v := c5) k4
          obtain ⟨cA, cn, cc, rfl, _, _⟩ := sl_shape Tryd.underlying33 (v := c6) k5
          obtain ⟨fd, rfl⟩ := bool_at Tryd.underlying4 e1'
          obtain ⟨wA, wl, wc, rfl, hw1, hw2⟩ := sl_shape Tryd.underlying53 e2'
          obtain ⟨pA, pn, pc, rfl, _, _⟩ := sl_shape Tryd.underlying54 e3'
          obtain ⟨r, rfl, _⟩ := int_at Tryd.underlying3 e4'
          obtain ⟨ss, hss, hsw⟩ := rd_ints Tryd.underlying33 Tryd.underlying3 (by kernel_rfl) (by kernel_rfl) g2'
          have hss2 := hss
          obtain ⟨sA, sc, rfl, _, _, _, _⟩ := hss2
          exact ⟨(⟨a0, a1, fd, wl, ss⟩, ⟨a2, a3, a4, a5, cA, cn, cc, wA, wc, pA, pn, pc, r, sA, sc⟩), rfl, ⟨hss, h0, h1, Nat.le_trans hw1 hw2⟩, fun hw => hsw (weights_part (j := 2) Tryd.underlying58 rfl (d := x2.1) rfl (by rw [hy] at hw; exact hw))⟩

set_option maxRecDepth 100000 in
/-- A slice of findings. -/
theorem rd_fnds {fuel : Nat} {v : Value} {x : DataW H × List MemPlace} (h : DataW.trod enc Tryd.prog w 0 (fun _ => true) true fuel 45 [v] = some x) :
    ∃ (A : Option Addr) (c : Nat) (ps : List (Fnd × FndM)), v = .slice A ps.length c ∧ ps.length ≤ c ∧ c ≤ maxLen ∧ Rd w A (ps.flatMap Fnd.cells) ∧ (∀ q ∈ ps, FndOk w q) ∧ ((∀ n ∈ x.1.weights Tryd.prog 45, n ≤ reachBytes) → ps.length ≤ 17592186044416 ∧ ∀ q ∈ ps, q.1.sites.length ≤ 17592186044416) := by
  obtain ⟨xs, A, c, D, rfl, h1, h2, h3, h4, h5, h6⟩ := open_sl (α := Fnd × FndM) (Q := fun p d => FndOk w p ∧ ((∀ n ∈ d.weights Tryd.prog 58, n ≤ reachBytes) → p.1.sites.length ≤ 17592186044416)) (g := Fnd.cells) Tryd.underlying45 cFnd (by omega) (fun _ => rfl) (fun n cs y hy => rd_fnd hy) h
  refine ⟨A, c, xs, rfl, h1, h2, h3, fun q hq => ?_, fun hw => ⟨?_, fun q hq => ?_⟩⟩
  · obtain ⟨i, hi, rfl⟩ := List.getElem_of_mem hq
    exact (h4 i _ (List.getElem?_eq_getElem hi)).1
  · rcases h6 with rfl | ⟨n, hn, rfl⟩
    · rcases xs with _ | ⟨y, ys⟩
      · simp
      · obtain ⟨_, _, hA, _⟩ := h3 (by simp [Fnd.cells]); cases hA
    · have := hw _ hn
      rw [show Tryd.prog.bytesOf 58 = 160 by kernel_rfl] at this
      simp only [reachBytes] at this
      omega
  · obtain ⟨i, hi, rfl⟩ := List.getElem_of_mem hq
    exact (h4 i _ (List.getElem?_eq_getElem hi)).2 fun n hn => hw n (h5 i hi n hn)

set_option maxRecDepth 100000 in
/-- A report, by its cells. -/
theorem rd_rep {n : Nat} {cs : List Value} {y : DataW H × List MemPlace} (h : DataW.trod enc Tryd.prog w 0 (fun _ => true) true n 61 cs = some y) : ∃ p : Rep × Value × Value, cs = Rep.cells p ∧ Ints w p.2.1 p.1.sites ∧ Ints w p.2.2 p.1.starts ∧ p.1.ok := by
  obtain ⟨xs, n1, _, _, hlen, hxl, hf⟩ := DataW.trod_struct Tryd.underlying61 h
  rw [cRep] at hlen
  match cs, hlen with
  | [c0, c1, c2, c3, c4, c5], _ =>
    match xs, hxl with
    | [x0, x1, x2, x3, x4, x5], _ =>
      have g0 := fld hf 0 3 0 1 _ rfl rfl rfl cI
      have g1 := fld hf 1 33 1 1 _ rfl rfl rfl cIs
      have g2 := fld hf 2 33 2 1 _ rfl rfl rfl cIs
      have g3 := fld hf 3 3 3 1 _ rfl rfl rfl cI
      have g4 := fld hf 4 3 4 1 _ rfl rfl rfl cI
      have g5 := fld hf 5 3 5 1 _ rfl rfl rfl cI
      obtain ⟨a0, rfl, h0⟩ := int_at Tryd.underlying3 (v := c0) g0
      obtain ⟨ss, hss, _⟩ := rd_ints (v := c1) Tryd.underlying33 Tryd.underlying3 (by kernel_rfl) (by kernel_rfl) g1
      obtain ⟨ts, hts, _⟩ := rd_ints (v := c2) Tryd.underlying33 Tryd.underlying3 (by kernel_rfl) (by kernel_rfl) g2
      obtain ⟨a3, rfl, h3⟩ := int_at Tryd.underlying3 (v := c3) g3
      obtain ⟨a4, rfl, h4⟩ := int_at Tryd.underlying3 (v := c4) g4
      obtain ⟨a5, rfl, h5⟩ := int_at Tryd.underlying3 (v := c5) g5
      exact ⟨(⟨a0, ss, ts, a3, a4, a5⟩, c1, c2), rfl, hss, hts, h0, h3, h4, h5⟩
set_option maxRecDepth 100000 in
/-- A report that comes in by value. -/
theorem rd_repv {b0 : Nat} {v : Value} {d : DataW H} {p : List MemPlace} (hv : Value.okWide Tryd.prog w .any b0 61 v) (h : DataW.Trod enc Tryd.prog w 0 (fun _ => true) true 61 v d p) : ∃ r, IsRep w v r := by
  obtain ⟨cs, rfl, hsz⟩ := okWide_struct Tryd.underlying61 hv
  rw [cRep] at hsz
  obtain ⟨c0, c1, c2, c3, c4, c5, rfl⟩ : ∃ c0 c1 c2 c3 c4 c5, cs = #[c0, c1, c2, c3, c4, c5] := by
    match cs, hsz with
    | ⟨[c0, c1, c2, c3, c4, c5]⟩, _ => exact ⟨c0, c1, c2, c3, c4, c5, rfl⟩
  obtain ⟨fuel, hf⟩ := h
  obtain ⟨q, hq, h1, h2, h3⟩ := rd_rep hf
  have hq' : [c0, c1, c2, c3, c4, c5] = Rep.cells q := hq
  unfold Rep.cells at hq'
  simp only [List.cons.injEq, and_true] at hq'
  obtain ⟨rfl, e1, e2, rfl, rfl, rfl⟩ := hq'
  exact ⟨q.1, c1, c2, rfl, by rw [e1]; exact h1, by rw [e2]; exact h2, h3⟩
/-- A slice of reports. -/
theorem rd_reps {fuel : Nat} {v : Value} {x : DataW H × List MemPlace} (h : DataW.trod enc Tryd.prog w 0 (fun _ => true) true fuel 48 [v] = some x) : ∃ rs, Reps w v rs := by
  obtain ⟨xs, A, c, D, rfl, h1, h2, h3, h4, _, _⟩ := open_sl (α := Rep × Value × Value) (Q := fun p _ => Ints w p.2.1 p.1.sites ∧ Ints w p.2.2 p.1.starts ∧ p.1.ok) (g := Rep.cells) Tryd.underlying48 cRep (by omega) (fun _ => rfl) (fun n cs y hy => rd_rep hy) h
  refine ⟨xs.map (·.1), A, c, xs, rfl, rfl, h1, h2, h3, fun q hq => ?_⟩
  obtain ⟨i, hi, rfl⟩ := List.getElem_of_mem hq
  exact h4 i _ (List.getElem?_eq_getElem hi)
end
end Go.Proofs.YtccpelfnkjckiaaDoor
