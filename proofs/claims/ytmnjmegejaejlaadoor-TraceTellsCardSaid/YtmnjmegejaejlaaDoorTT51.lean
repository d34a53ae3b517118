/-
  HOW AN ARGUMENT'S READING GIVES THE WORDS: a trace of this program.
-/
import Derived.Test.YtmnjmegejaejlaaDoorTT50
namespace Go.Proofs.YtmnjmegejaejlaaDoor
open Go.ChangeShapes Go.WideShapes Go.ChangeAt Go.RowKit Go.Deep Go.Joins

section
variable {H : Type} {enc : TypeId × Value → H}
theorem zip_back {α β : Type} (l : List (α × β)) : (l.map (·.1)).zip (l.map (·.2)) = l := by
  induction l with
  | nil => rfl
  | cons x r ih => rw [List.map_cons, List.map_cons, List.zip_cons_cons, ih]
set_option maxRecDepth 100000 in
set_option maxHeartbeats 4000000 in
theorem rd_trc {b0 : Nat} {W : World} {v : Value} {d : DataW H} {p : List MemPlace} (hv : Value.okWide Tryd.prog W .any b0 31 v) (h : DataW.Trod enc Tryd.prog W 0 (fun _ => true) true 31 v d p) :
    ∃ t, IsTrc W v t ∧ ((∀ n ∈ d.weights Tryd.prog 31, n ≤ reachBytes) → Fits t) := by
  obtain ⟨cs, rfl, hsz⟩ := okWide_struct Tryd.underlying31 hv
  rw [show Tryd.prog.cellsOf 31 = 7 by kernel_rfl] at hsz
  obtain ⟨c0, c1, c2, c3, c4, c5, c6, rfl⟩ : ∃ c0 c1 c2 c3 c4 c5 c6, cs = #[c0, c1, c2, c3, c4, c5, c6] := by
    match cs, hsz with
    | ⟨[c0, c1, c2, c3, c4, c5, c6]⟩, _ => exact ⟨c0, c1, c2, c3, c4, c5, c6, rfl⟩
  obtain ⟨fuel, hf⟩ := h
  obtain ⟨y0, y1, n, hdp, _, h0, h1⟩ := trod_struct2 Tryd.underlying31 hf
  have hd : d = .agg [y0.1, y1.1] := congrArg Prod.fst hdp
  have h0' : DataW.trod enc Tryd.prog W 0 (fun _ => true) true n 28 [c0, c1, c2, c3, c4, c5] = some y0 := by
    rw [show Tryd.prog.cellsOf 28 = 6 by kernel_rfl] at h0
    exact h0
  have h1' : DataW.trod enc Tryd.prog W 0 (fun _ => true) true n 29 [c6] = some y1 := by
    rw [show Tryd.prog.cellsOf 29 = 1 by kernel_rfl] at h1
    exact h1
  obtain ⟨xs, m, _, hy0, _, hxl, hff⟩ := DataW.trod_struct Tryd.underlying28 h0'
  match xs, hxl with
  | [z0, z1, z2, z3, z4, z5], _ =>
    have g0 : DataW.trod enc Tryd.prog W 0 (fun _ => true) true m 22 [c0] = some z0 := by
      have this : DataW.trod enc Tryd.prog W 0 (fun _ => true) true m 22 (([c0, c1, c2, c3, c4, c5].drop 0).take (Tryd.prog.cellsOf 22)) = [z0, z1, z2, z3, z4, z5][0]? := by have h := hff 0 _ rfl; exact h
      have e1 : Tryd.prog.cellsOf 22 = 1 := by kernel_rfl
      rw [e1] at this
      exact this
    have g1 : DataW.trod enc Tryd.prog W 0 (fun _ => true) true m 23 [c1] = some z1 := by
      have this : DataW.trod enc Tryd.prog W 0 (fun _ => true) true m 23 (([c0, c1, c2, c3, c4, c5].drop 1).take (Tryd.prog.cellsOf 23)) = [z0, z1, z2, z3, z4, z5][1]? := by have h := hff 1 _ rfl; exact h
      have e1 : Tryd.prog.cellsOf 23 = 1 := by kernel_rfl
      rw [e1] at this
      exact this
    have g2 : DataW.trod enc Tryd.prog W 0 (fun _ => true) true m 24 [c2] = some z2 := by
      have this : DataW.trod enc Tryd.prog W 0 (fun _ => true) true m 24 (([c0, c1, c2, c3, c4, c5].drop 2).take (Tryd.prog.cellsOf 24)) = [z0, z1, z2, z3, z4, z5][2]? := by have h := hff 2 _ rfl; exact h
      have e1 : Tryd.prog.cellsOf 24 = 1 := by kernel_rfl
      rw [e1] at this
      exact this
    have g3 : DataW.trod enc Tryd.prog W 0 (fun _ => true) true m 25 [c3] = some z3 := by
      have this : DataW.trod enc Tryd.prog W 0 (fun _ => true) true m 25 (([c0, c1, c2, c3, c4, c5].drop 3).take (Tryd.prog.cellsOf 25)) = [z0, z1, z2, z3, z4, z5][3]? := by have h := hff 3 _ rfl; exact h
      have e1 : Tryd.prog.cellsOf 25 = 1 := by kernel_rfl
      rw [e1] at this
      exact this
    have g4 : DataW.trod enc Tryd.prog W 0 (fun _ => true) true m 25 [c4] = some z4 := by
      have this : DataW.trod enc Tryd.prog W 0 (fun _ => true) true m 25 (([c0, c1, c2, c3, c4, c5].drop 4).take (Tryd.prog.cellsOf 25)) = [z0, z1, z2, z3, z4, z5][4]? := by have h := hff 4 _ rfl; exact h
      have e1 : Tryd.prog.cellsOf 25 = 1 := by kernel_rfl
      rw [e1] at this
      exact this
    have g5 : DataW.trod enc Tryd.prog W 0 (fun _ => true) true m 26 [c5] = some z5 := by
      have this : DataW.trod enc Tryd.prog W 0 (fun _ => true) true m 26 (([c0, c1, c2, c3, c4, c5].drop 5).take (Tryd.prog.cellsOf 26)) = [z0, z1, z2, z3, z4, z5][5]? := by have h := hff 5 _ rfl; exact h
      have e1 : Tryd.prog.cellsOf 26 = 1 := by kernel_rfl
      rw [e1] at this
      exact this
    obtain ⟨l0, A0, e0, D0, rfl, a0, b0, r0, q0, w0, u0⟩ := open_sl (α := Cel) (Q := fun d _ => I64 d.index ∧ I64 d.size ∧ I64 d.init) (g := Cel.cells) Tryd.underlying22 (show Tryd.prog.cellsOf 55 = 5 by kernel_rfl) (by omega) (fun _ => rfl) (fun n cs y hy => rd_cel Tryd.underlying55 (by kernel_rfl) (by kernel_rfl) Tryd.underlying9 Tryd.underlying3 Tryd.underlying3 Tryd.underlying4 Tryd.underlying2 hy) g0
    obtain ⟨l1, A1, e1, D1, rfl, a1, b1, r1, q1, w1, u1⟩ := open_sl (α := Lck) (Q := fun d _ => True) (g := Lck.cells) Tryd.underlying23 (show Tryd.prog.cellsOf 57 = 2 by kernel_rfl) (by omega) (fun _ => rfl) (fun n cs y hy => rd_lck Tryd.underlying57 (by kernel_rfl) (by kernel_rfl) Tryd.underlying9 Tryd.underlying4 hy) g1
    obtain ⟨l2, A2, e2, D2, rfl, a2, b2, r2, q2, w2, u2⟩ := open_sl (α := Cnd) (Q := fun d _ => I64 d.mutex) (g := Cnd.cells) Tryd.underlying24 (show Tryd.prog.cellsOf 59 = 2 by kernel_rfl) (by omega) (fun _ => rfl) (fun n cs y hy => rd_cnd Tryd.underlying59 (by kernel_rfl) (by kernel_rfl) Tryd.underlying9 Tryd.underlying3 hy) g2
    obtain ⟨l3, A3, e3, D3, rfl, a3, b3, r3, q3, w3, u3⟩ := open_sl (α := List UInt8) (Q := fun d _ => True) (g := strC) Tryd.underlying25 (show Tryd.prog.cellsOf 9 = 1 by kernel_rfl) (by omega) (fun _ => rfl) (fun n cs y hy => by obtain ⟨s, hs⟩ := txt_of Tryd.underlying9 hy; exact ⟨s, hs, trivial⟩) g3
    obtain ⟨l4, A4, e4, D4, rfl, a4, b4, r4, q4, w4, u4⟩ := open_sl (α := List UInt8) (Q := fun d _ => True) (g := strC) Tryd.underlying25 (show Tryd.prog.cellsOf 9 = 1 by kernel_rfl) (by omega) (fun _ => rfl) (fun n cs y hy => by obtain ⟨s, hs⟩ := txt_of Tryd.underlying9 hy; exact ⟨s, hs, trivial⟩) g4
    obtain ⟨l5, A5, e5, D5, rfl, a5, b5, r5, q5, w5, u5⟩ := open_sl (α := Sit) (Q := fun d _ => I64 d.thread ∧ I64 d.stmt ∧ I64 d.line) (g := Sit.cells) Tryd.underlying26 (show Tryd.prog.cellsOf 71 = 3 by kernel_rfl) (by omega) (fun _ => rfl) (fun n cs y hy => rd_sit Tryd.underlying71 (by kernel_rfl) (by kernel_rfl) Tryd.underlying3 Tryd.underlying3 Tryd.underlying3 hy) g5
    obtain ⟨l6, A6, e6, D6, rfl, a6, b6, r6, q6, w6, u6⟩ := open_sl (α := Evn × Value × Value) (Q := fun q d => (q.1.ok ∧ Ints W q.2.1 q.1.deps ∧ Ints W q.2.2 q.1.frm) ∧ ((∀ m ∈ d.weights Tryd.prog 53, m ≤ reachBytes) → q.1.deps.length ≤ 17592186044416 ∧ q.1.frm.length ≤ 17592186044416)) (g := evC) Tryd.underlying29 (show Tryd.prog.cellsOf 53 = 7 by kernel_rfl) (by omega) (fun _ => rfl) (fun n cs y hy => by obtain ⟨q, h1, h2, h3⟩ := rd_evn Tryd.underlying53 (by kernel_rfl) (by kernel_rfl) Tryd.underlying3 Tryd.underlying3 Tryd.underlying3 Tryd.underlying2 Tryd.underlying3 rfl rfl Tryd.underlying51 Tryd.underlying3 (by kernel_rfl) (by kernel_rfl) hy; exact ⟨q, h1, h2, h3⟩) h1'
    have hok : ∀ {α : Type} {l : List α} {Q : α → Prop}, (∀ i a, l[i]? = some a → Q a) → ∀ a ∈ l, Q a := fun h a ha => by
      obtain ⟨i, hi, rfl⟩ := List.getElem_of_mem ha
      exact h i _ (List.getElem?_eq_getElem hi)
    refine ⟨⟨l0, l1, l2, l3, l4, l5, l6.map (·.1)⟩, ⟨fun i => match i with | 0 => .slice A0 l0.length e0 | 1 => .slice A1 l1.length e1 | 2 => .slice A2 l2.length e2 | 3 => .slice A3 l3.length e3 | 4 => .slice A4 l4.length e4 | 5 => .slice A5 l5.length e5 | _ => .slice A6 l6.length e6, l6.map (·.2), rfl, fun i hi => ?_, by simp, fun k e d h1 h2 => ?_, ⟨hok q0, hok q2, hok q5, fun x hx => ?_⟩⟩, fun hw => ⟨fun i hi => ?_, fun x hx => ?_⟩⟩
    · have h7 : i = 0 ∨ i = 1 ∨ i = 2 ∨ i = 3 ∨ i = 4 ∨ i = 5 ∨ i = 6 := by omega
      rcases h7 with rfl | rfl | rfl | rfl | rfl | rfl | rfl
      · exact ⟨A0, e0, rfl, a0, b0, r0⟩
      · exact ⟨A1, e1, rfl, a1, b1, r1⟩
      · exact ⟨A2, e2, rfl, a2, b2, r2⟩
      · exact ⟨A3, e3, rfl, a3, b3, r3⟩
      · exact ⟨A4, e4, rfl, a4, b4, r4⟩
      · exact ⟨A5, e5, rfl, a5, b5, r5⟩
      · exact ⟨A6, e6, by simp [rowN], by simpa [rowN] using a6, b6, by simp only [rowX]; rw [zip_back]; exact r6⟩
    · rw [List.getElem?_map] at h1 h2
      cases hq : l6[k]? with
      | none => rw [hq] at h1; cases h1
      | some q =>
        rw [hq] at h1 h2
        injection h1 with h1
        injection h2 with h2
        subst h1 h2
        exact (q6 k q hq).1.2
    · obtain ⟨q, hq, rfl⟩ := List.mem_map.1 hx
      obtain ⟨i, hi, rfl⟩ := List.getElem_of_mem hq
      exact (q6 i _ (List.getElem?_eq_getElem hi)).1.1
    · rw [hd] at hw
      have hw0 := weights_part (j := 0) Tryd.underlying31 rfl (d := y0.1) rfl hw
      have hw1 := weights_part (j := 1) Tryd.underlying31 rfl (d := y1.1) rfl hw
      rw [hy0] at hw0
      have h7 : i = 0 ∨ i = 1 ∨ i = 2 ∨ i = 3 ∨ i = 4 ∨ i = 5 ∨ i = 6 := by omega
      rcases h7 with rfl | rfl | rfl | rfl | rfl | rfl | rfl
      · exact len_of (g := Cel.cells) (m := 5) (bb := 48) (fun _ => rfl) (by omega) r0 a0 (show Tryd.prog.bytesOf 55 = 48 by kernel_rfl) (by omega) u0 (weights_part (j := 0) Tryd.underlying28 rfl (d := z0.1) rfl hw0)
      · exact len_of (g := Lck.cells) (m := 2) (bb := 24) (fun _ => rfl) (by omega) r1 a1 (show Tryd.prog.bytesOf 57 = 24 by kernel_rfl) (by omega) u1 (weights_part (j := 1) Tryd.underlying28 rfl (d := z1.1) rfl hw0)
      · exact len_of (g := Cnd.cells) (m := 2) (bb := 24) (fun _ => rfl) (by omega) r2 a2 (show Tryd.prog.bytesOf 59 = 24 by kernel_rfl) (by omega) u2 (weights_part (j := 2) Tryd.underlying28 rfl (d := z2.1) rfl hw0)
      · exact len_of (g := strC) (m := 1) (bb := 16) (fun _ => rfl) (by omega) r3 a3 (show Tryd.prog.bytesOf 9 = 16 by kernel_rfl) (by omega) u3 (weights_part (j := 3) Tryd.underlying28 rfl (d := z3.1) rfl hw0)
      · exact len_of (g := strC) (m := 1) (bb := 16) (fun _ => rfl) (by omega) r4 a4 (show Tryd.prog.bytesOf 9 = 16 by kernel_rfl) (by omega) u4 (weights_part (j := 4) Tryd.underlying28 rfl (d := z4.1) rfl hw0)
      · exact len_of (g := Sit.cells) (m := 3) (bb := 24) (fun _ => rfl) (by omega) r5 a5 (show Tryd.prog.bytesOf 71 = 24 by kernel_rfl) (by omega) u5 (weights_part (j := 5) Tryd.underlying28 rfl (d := z5.1) rfl hw0)
      · have := len_of (g := evC) (m := 7) (bb := 88) (fun _ => rfl) (by omega) r6 a6 (show Tryd.prog.bytesOf 53 = 88 by kernel_rfl) (by omega) u6 hw1
        simpa [rowN] using this
    · rw [hd] at hw
      have hw1 := weights_part (j := 1) Tryd.underlying31 rfl (d := y1.1) rfl hw
      obtain ⟨q, hq, rfl⟩ := List.mem_map.1 hx
      obtain ⟨i, hi, rfl⟩ := List.getElem_of_mem hq
      exact (q6 i _ (List.getElem?_eq_getElem hi)).2 (fun m hm => hw1 m (w6 i hi m hm))
end
end Go.Proofs.YtmnjmegejaejlaaDoor
