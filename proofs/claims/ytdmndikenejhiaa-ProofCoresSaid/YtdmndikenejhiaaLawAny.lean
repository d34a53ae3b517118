/-
  WALK: interleavelaw33.ProofAny.
-/
import Derived.Test.YtdmndikenejhiaaAwake33
import Derived.Test.YtdmndikenejhiaaBase33
import Derived.Test.YtdmndikenejhiaaLarge33
import Derived.Test.YtdmndikenejhiaaProblem
namespace Go.Proofs.Ytdmndikenejhiaa
open Go.RowKit

theorem SmallF.asked {a b c : Int} {f : Form} {l : List Stp} (h : SmallF a b c f) (h1 : l.length ≤ 100000) (h2 : ∀ s ∈ l, s.lits.length ≤ 1000000) : Asked f l :=
  ⟨h.valid, fun x hx => by have := (h.2.2.2.2.2 x hx).2.1; omega, h1, h2⟩

set_option maxRecDepth 100000 in
set_option maxHeartbeats 2000000 in
theorem lawAny (pv lv : Value) (a b c : Int) (L : List Int) (l : List Stp) (w : World) (hp : IsProb w pv a b c L) (hl : Stps w lv l) (hn : l.length ≤ 140737488355328) (hll : ∀ s ∈ l, s.lits.length ≤ 140737488355328) :
    Calls Try.prog 3 #[pv, lv] w fun e w' => e = .returned (.bool true) ∧ Below w.heap.size w w' := by
  have HP := Lib.hid hp
  have HL := Lib.hid hl
  have HLL := Lib.hid hll
  have HNN := Lib.hid hn
  obtain ⟨nv, rfl, -, -, -, hL⟩ := hp
  obtain ⟨An, cn, rfl, -, -, -, -⟩ := hL
  obtain ⟨A, cl, ps, hps, rfl, l1, l2, -, -⟩ := hl
  have hpl : ps.length = l.length := by rw [hps]; simp
  have HPL := Lib.hid hpl
  unfold maxLen at l2
  clear hn hll hps hpl
  have HB : Hid (Below w.heap.size w (w.alloc (.cells #[.int .u8 a, .int .u8 b, .int .u8 c, .slice An L.length cn] 25))) := (Below.refl _ _).alloc (Nat.le_refl _) _
  have B0 := Blk.new w 25 #[.int .u8 a, .int .u8 b, .int .u8 c, .slice An L.length cn]
  go_enter Try.func3, Try.ntmps3
  go_wp2_with fail
  generalize w.alloc (.cells #[.int .u8 a, .int .u8 b, .int .u8 c, .slice An L.length cn] 25) = W at *
  have q0 := B0.cell 0
  have q1 := B0.cell 1
  have q2 := B0.cell 2
  have q3 := B0.cell 3
  simp only [List.getElem?_toArray, List.getElem?_cons_zero, List.getElem?_cons_succ] at q0 q1 q2 q3
  clear B0
  refine (large33_any _ l W (HL.out.keep HB.out) HNN.out HLL.out).mono ?_
  rintro e w' ⟨rfl, rfl⟩
  cases hlg : largeS l
  · obtain ⟨s1, s2⟩ := largeS_small hlg
    have HS2 := Lib.hid s2
    have HS1 := Lib.hid s1
    clear hlg s1 s2
    go_wp2_with fail
    refine (problem_any _ a b c L _ ?hp).mono ?_
    case hp => obtain ⟨nv, e1, e2⟩ := HP.out; exact ⟨_, rfl, e2.1, e2.2.1, e2.2.2.1, by injection e1 with e1; simp only [Array.mk.injEq, List.cons.injEq, and_true, true_and] at e1; rw [e1]; exact e2.2.2.2.keep HB.out⟩
    rintro e w2 ⟨fv, f, rfl, hf, hsm, hb2⟩
    have HAS : Hid (Asked f l) := hsm.asked (by have := HS1.out; omega) (fun s hs => by have := HS2.out s hs; omega)
    have HB2 := Lib.hid (HB.out.trans (hb2.mono HB.out.size))
    have HF2 := Lib.hid hf
    obtain ⟨av, cv, rfl, -, -, hf3, hf4⟩ := hf
    obtain ⟨Aa, ca, rfl, -, -, -, -⟩ := hf3
    obtain ⟨Ac, cc, vs, rfl, -, -, -, -, -⟩ := hf4
    clear hb2 q0 q1 q2 q3 hsm
    have B1 := Blk.new w2 32 #[.int .i64 f.ints, .int .i64 f.bools, .slice Aa f.atoms.length ca, .slice Ac f.clauses.length cc]
    have hb3 : Below w2.heap.size w2 (w2.alloc (.cells #[.int .i64 f.ints, .int .i64 f.bools, .slice Aa f.atoms.length ca, .slice Ac f.clauses.length cc] 32)) := (Below.refl _ _).alloc (Nat.le_refl _) _
    go_wp2_with fail
    generalize w2.alloc (.cells #[.int .i64 f.ints, .int .i64 f.bools, .slice Aa f.atoms.length ca, .slice Ac f.clauses.length cc] 32) = w3 at *
    have HB1 := Lib.hid B1
    have HF3 := Lib.hid (HF2.out.keep hb3)
    have HB3 := Lib.hid (HB2.out.trans (hb3.mono HB2.out.size))
    clear B1 hb3
    refine (pcheck_any _ _ f l _ HF3.out (HL.out.keep HB3.out) HAS.out).mono ?_
    rintro e w4 ⟨rfl, hb4⟩
    have HB4 := Lib.hid (HB3.out.trans (hb4.mono HB3.out.size))
    have HF4 := Lib.hid (HF3.out.keep hb4)
    have B4 := HB1.out.keep hb4
    have HB1' := Lib.hid B4
    have q0 := B4.cell 0
    have q1 := B4.cell 1
    have q2 := B4.cell 2
    have q3 := B4.cell 3
    simp only [List.getElem?_toArray, List.getElem?_cons_zero, List.getElem?_cons_succ] at q0 q1 q2 q3
    obtain ⟨r1, r2, hr⟩ : ∃ r1 r2, chk (runS f [] l) l.length = (r1, r2) := ⟨_, _, rfl⟩
    have HRR := Lib.hid hr
    rw [hr]
    clear hb4 B4 hr
    simp only
    go_wp2_with fail
    refine (rcheck_any _ _ f l _ HF4.out (HL.out.keep HB4.out) HAS.out).mono ?_
    rintro e w5 ⟨rfl, hb5⟩
    have HB5 := Lib.hid (HB4.out.trans (hb5.mono HB4.out.size))
    have HF5 := Lib.hid (HF4.out.keep hb5)
    have B5 := HB1'.out.keep hb5
    clear q0 q1 q2 q3
    have q0 := B5.cell 0
    have q1 := B5.cell 1
    have q2 := B5.cell 2
    have q3 := B5.cell 3
    simp only [List.getElem?_toArray, List.getElem?_cons_zero, List.getElem?_cons_succ] at q0 q1 q2 q3
    rw [HRR.out]
    clear hb5 B5
    simp only
    go_wp2_with fail
    refine (lclauses_any _ _ f l _ HF5.out (HL.out.keep HB5.out) HAS.out).mono ?_
    rintro e w6 ⟨rfl, hb6⟩
    have HB6 := Lib.hid (HB5.out.trans (hb6.mono HB5.out.size))
    have d1 : (r1 == r1) = true := by simp
    have d2 : (r2 == r2) = true := by simp
    clear hb6 q0 q1 q2 q3
    go_wp2_with fail
    refine (awake33 _).mono ?_
    rintro e w9 ⟨rfl, hb9⟩
    have HB9 := Lib.hid hb9
    clear hb9
    go_wp2_with fail
    go_ret
    exact ⟨rfl, HB6.out.trans (HB9.out.mono HB6.out.size)⟩
  · clear hlg
    go_wp2_with fail
    refine (awake33 _).mono ?_
    rintro e w9 ⟨rfl, hb9⟩
    have HB9 := Lib.hid hb9
    clear hb9
    go_wp2_with fail
    go_ret
    exact ⟨rfl, HB.out.trans (HB9.out.mono HB.out.size)⟩
end Go.Proofs.Ytdmndikenejhiaa
