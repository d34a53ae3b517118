/-
  PLAIN LAW: two readings of one text of steps answer alike.
  WALK: interleavelaw33.ProofSpoilt.
-/
import Derived.Test.YtfffalfnjficaaaGreatDoorPs33
import Derived.Test.YtfffalfnjficaaaGreatDoorPs34
import Derived.Test.YtfffalfnjficaaaGreatDoorPs37
import Derived.Test.YtfffalfnjficaaaGreatDoorPs40
import Derived.Test.YtfffalfnjficaaaGreatDoorPs48
import Derived.Test.YtfffalfnjficaaaGreatDoorPs27
import Derived.Test.YtfffalfnjficaaaGreatDoorPs38
import Derived.Test.YtfffalfnjficaaaGreatDoorPs23
namespace Go.Proofs.YtfffalfnjficaaaGreatDoor
open Go.RowKit

/-- What a text is read as: steps, an error, a line. -/
def StepsIs (s : List UInt8) (l : List Stp) (er ln : Int) : Prop := (RunP [] 1 s (.ok l) ∧ er = 0 ∧ ln = 0) ∨ ∃ k : Nat, RunP [] 1 s (.bad k) ∧ l = [] ∧ er = 3 ∧ ln = k
theorem StepsEnd.shape {w w1 : World} {s : List UInt8} {e : Ending} (h : StepsEnd w s e w1) : ∃ l A n c er ln, e = .returned (.tuple #[.slice A n c, .int .i64 er, .int .i64 ln]) ∧ Stps w1 (.slice A n c) l ∧ StepsIs s l er ln := by
  obtain ⟨-, h⟩ := h
  rcases h with ⟨l, v, p1, rfl, h1⟩ | ⟨k, p1, rfl⟩
  · have h2 := h1
    obtain ⟨A, c, ps, -, rfl, -, -, -, -⟩ := h2
    exact ⟨l, A, ps.length, c, 0, 0, rfl, h1, .inl ⟨p1, rfl, rfl⟩⟩
  · exact ⟨[], none, 0, 0, 3, _, rfl, (OwnStps.nil w1 0 (fun _ => True)).stps, .inr ⟨k, p1, rfl, rfl, rfl⟩⟩
theorem StepsIs.fn {s : List UInt8} {l l' : List Stp} {er ln er' ln' : Int} (h1 : StepsIs s l er ln) (h2 : StepsIs s l' er' ln') : l' = l ∧ er' = er ∧ ln' = ln := by
  rcases h1 with ⟨p1, rfl, rfl⟩ | ⟨k, p1, rfl, rfl, rfl⟩ <;> rcases h2 with ⟨p2, rfl, rfl⟩ | ⟨k', p2, rfl, rfl, rfl⟩
  · have e := p1.fn p2; injection e with e
    exact ⟨e.symm, rfl, rfl⟩
  · have e := p1.fn p2; cases e
  · have e := p1.fn p2; cases e
  · have e := p1.fn p2; injection e with e; subst e
    exact ⟨rfl, rfl, rfl⟩
end Go.Proofs.YtfffalfnjficaaaGreatDoor

namespace Go.Proofs.YtfffalfnjficaaaGreatDoor
open Go.RowKit

/-- The text of few steps is short. -/
theorem steps_few {w : World} {v : Value} {l : List Stp} (h : Stps w v l) (h1 : l.length ≤ 40) (h2 : ∀ s ∈ l, s.lits.length ≤ 3) : (stepsText l).length ≤ 400000 := by
  have h3 : ∀ s ∈ l, (stepText s).length ≤ 140 := fun s hs => by
    obtain ⟨A, c, ps, rfl, rfl, -, -, -, h4⟩ := h
    obtain ⟨q, hq, rfl⟩ := List.mem_map.1 hs
    obtain ⟨_, _, _, _, _, hx, _⟩ := (h4 q hq).1
    have := stepText_len q.1 (h4 q hq).2 hx
    have := h2 q.1 hs
    omega
  have h4 : ∀ r : List Stp, (∀ s ∈ r, (stepText s).length ≤ 140) → (stepsText r).length ≤ 140 * r.length := fun r hr => by
    induction r with
    | nil => simp [stepsText]
    | cons s t ih =>
      have e1 := hr s (by simp)
      have e2 := ih (fun y hy => hr y (by simp [hy]))
      unfold stepsText at *
      rw [List.flatMap_cons, List.length_append, List.length_cons]; omega
  have := h4 l h3
  omega
set_option maxRecDepth 100000 in
set_option maxHeartbeats 4000000 in
theorem lawPSpoilt (pv tv : Value) (a b c : Int) (L : List Int) (xs : List (Int × Int × Int)) (at_ how by_ : Int) (w : World) (hp : IsProb w pv a b c L) (ht : Trips w tv xs) (h1 : 0 ≤ at_ ∧ at_ ≤ 65535) (h2 : 0 ≤ how ∧ how ≤ 65535) (h3 : 0 ≤ by_ ∧ by_ ≤ 255) (hpl : PL w) :
    Calls Tryz.prog 3 #[pv, tv, .int .u16 at_, .int .u16 how, .int .u8 by_] w fun e w' => e = .returned (.bool true) ∧ Below w.heap.size w w' := by
  have HT := Lib.hid ht
  obtain ⟨At, ct, rfl, -, -, -, -⟩ := ht
  have HP := Lib.hid hp
  obtain ⟨nv, rfl, -, -, -, hL⟩ := hp
  obtain ⟨An, cn, rfl, -, -, -, -⟩ := hL
  have HB : Hid (Below w.heap.size w (w.alloc (.cells #[.int .u8 a, .int .u8 b, .int .u8 c, .slice An L.length cn] 25))) := (Below.refl _ _).alloc (Nat.le_refl _) _
  have HW := Lib.hid hpl
  have H1 := Lib.hid h1
  have H2 := Lib.hid h2
  have H3 := Lib.hid h3
  clear hpl h1 h2 h3
  go_enter Tryz.func3, Tryz.ntmps3
  go_wp2_with fail
  generalize w.alloc (.cells #[.int .u8 a, .int .u8 b, .int .u8 c, .slice An L.length cn] 25) = W at *
  refine (problem_any _ a b c L _ ?hp).mono ?_
  case hp => obtain ⟨nv, e1, e2⟩ := HP.out; exact ⟨_, rfl, e2.1, e2.2.1, e2.2.2.1, by injection e1 with e1; simp only [Array.mk.injEq, List.cons.injEq, and_true, true_and] at e1; rw [e1]; exact e2.2.2.2.keep HB.out⟩
  rintro e w0 ⟨fv, f0, rfl, hf, hsm, hb2⟩
  have HB0 := Lib.hid (HB.out.trans (hb2.mono HB.out.size))
  have HF0 := Lib.hid hf
  have HSM := Lib.hid hsm
  obtain ⟨av, cv, rfl, -, -, hf3, hf4⟩ := hf
  obtain ⟨Aa, ca, rfl, -, -, -, -⟩ := hf3
  obtain ⟨Ac, cc, vs, rfl, -, -, -, -, -⟩ := hf4
  clear hb2 hsm
  go_wp2_with fail
  refine (steps_any _ _ f0 xs _ HF0.out (HT.out.keep HB0.out) HSM.out.valid (fun x hx => by have := (HSM.out.2.2.2.2.2 x hx).2.1; omega) HSM.out.pos.1 HSM.out.pos.2).mono ?_
  rintro e w1 ⟨lv, l0, rfl, hl, hl1, hl2, hb1⟩
  have HBS := Lib.hid (HB0.out.trans (hb1.mono HB0.out.size))
  have HL := Lib.hid hl
  have HL1 := Lib.hid hl1
  have HL2 := Lib.hid hl2
  obtain ⟨As, cs, qs, -, rfl, -, -, -, -⟩ := hl
  clear hb1 hl1 hl2
  go_wp2_with fail
  refine (rformatSteps_any _ l0 _ HL.out (HW.out.below HBS.out).tab (by have := HL1.out; omega) (fun s hs => by have := HL2.out s hs; omega)).mono ?_
  rintro e w1a ⟨rfl, hb4⟩
  have HLN : Hid ((stepsText l0).length ≤ 400000) := Lib.hid (steps_few HL.out HL1.out HL2.out)
  have HBA := Lib.hid (HBS.out.trans (hb4.mono HBS.out.size))
  clear hb4
  go_wp2_with fail
  refine (spoil_list (stepsText l0) at_ how by_ w1a H1.out H2.out H3.out (by have := HLN.out; omega)).mono ?_
  rintro e w2a ⟨s, rfl, hsl, hb5⟩
  have HBB := Lib.hid (HBA.out.trans (hb5.mono HBA.out.size))
  have hs2 : s.length ≤ 900000 := by have := HLN.out; omega
  have HPL := Lib.hid (HW.out.below HBB.out)
  clear hb5 hsl
  go_wp2_with fail
  refine (pparse_any s w2a (by omega) HPL.out).mono ?_
  rintro e w2 h1
  have HB2 := Lib.hid h1.1
  obtain ⟨l1, A1, n1, c1, er, ln, rfl, hl, his⟩ := h1.shape
  have HL2 := Lib.hid hl
  have HIS := Lib.hid his
  clear h1 his hl
  go_wp2_with fail
  refine (rsteps_ref s w2 (by omega) (HPL.out.below HB2.out)).mono ?_
  rintro e w4 h1
  have HB4 := Lib.hid (HB2.out.trans (h1.1.mono HB2.out.size))
  have HL4 := Lib.hid (HL2.out.keep h1.1)
  obtain ⟨l2, A2, n2, c2, er2, ln2, rfl, hl, his⟩ := h1.shape
  obtain ⟨rfl, rfl, rfl⟩ := HIS.out.fn his
  have HG4 := Lib.hid hl
  clear h1 his hl
  go_wp2_with fail
  refine (sameSteps_any _ _ l2 w4 HL4.out HG4.out).mono ?_
  rintro e w7 ⟨rfl, hb7⟩
  have HB7 := Lib.hid (HB4.out.trans (hb7.mono HB4.out.size))
  clear hb7
  go_wp2_with fail
  refine (awake33 w7).mono ?_
  rintro e w9 ⟨rfl, hb9⟩
  have HB9 := Lib.hid (HB7.out.trans (hb9.mono HB7.out.size))
  clear hb9
  go_wp2_with fail
  go_ret
  exact ⟨rfl, HBB.out.trans (HB9.out.mono HBB.out.size)⟩
end Go.Proofs.YtfffalfnjficaaaGreatDoor
