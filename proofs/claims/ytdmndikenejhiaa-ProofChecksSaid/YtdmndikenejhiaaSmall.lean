/-
  WALK: interleavescene.Problem.Small.
-/
import Derived.Test.YtdmndikenejhiaaProblem
import Derived.Test.YtdmndikenejhiaaRefuteAll
namespace Go.Proofs.Ytdmndikenejhiaa
open Go.RowKit

set_option maxRecDepth 100000 in
set_option maxHeartbeats 1000000 in
theorem small_any (pv : Value) (a b c : Int) (L : List Int) (w : World) (hp : IsProb w pv a b c L) :
    Calls Try.prog 19 #[pv] w (ProbRet w (a % 3) (b % 6) (c % 5)) := by
  have HP := Lib.hid hp
  obtain ⟨nv, rfl, ha, hb, hc, hL⟩ := hp
  have HL := Lib.hid hL
  obtain ⟨a0, a1⟩ := ha
  obtain ⟨b0, b1⟩ := hb
  obtain ⟨c0, c1⟩ := hc
  obtain ⟨An, cn, rfl, -, -, -, -⟩ := hL
  have ra : 0 ≤ a % 3 ∧ a % 3 ≤ 255 := by omega
  have rb : 0 ≤ b % 6 ∧ b % 6 ≤ 255 := by omega
  have rc : 0 ≤ c % 5 ∧ c % 5 ≤ 255 := by omega
  go_enter Try.func19, Try.ntmps19
  go_wp2_with fail
  have hbw : Below w.heap.size w ((w.alloc (.cells #[.int .u8 (a % 3), .int .u8 (b % 6), .int .u8 (c % 5), .slice An L.length cn] 25)).alloc (.cells #[.int .i64 0, .int .i64 0, .slice none 0 0, .slice none 0 0] 32)) := ((Below.refl _ _).alloc (Nat.le_refl _) _).alloc (by simp) _
  have B2 := Blk.new (w.alloc (.cells #[.int .u8 (a % 3), .int .u8 (b % 6), .int .u8 (c % 5), .slice An L.length cn] 25)) 32 #[.int .i64 0, .int .i64 0, .slice none 0 0, .slice none 0 0]
  rw [show (w.alloc (.cells #[.int .u8 (a % 3), .int .u8 (b % 6), .int .u8 (c % 5), .slice An L.length cn] 25)).heap.size = w.heap.size + 1 by simp] at B2
  generalize (w.alloc (.cells #[.int .u8 (a % 3), .int .u8 (b % 6), .int .u8 (c % 5), .slice An L.length cn] 25)).alloc (.cells #[.int .i64 0, .int .i64 0, .slice none 0 0, .slice none 0 0] 32) = W at *
  have HBW := Lib.hid hbw
  have hlt := B2.lt
  refine (problem2_any _ (a % 3) (b % 6) (c % 5) L _ ⟨_, rfl, ra, rb, rc, HL.out.keep HBW.out⟩).mono ?_
  rintro e w2 ⟨fv, f, rfl, hf, hsm, hb2, hst⟩
  have HB2 := Lib.hid (HBW.out.trans (hb2.mono HBW.out.size))
  have HSM := Lib.hid hsm
  have HST := Lib.hid hst
  have B3 := B2.keep hb2
  obtain ⟨av, cv, rfl, -, -, hf3, hf4⟩ := hf
  obtain ⟨Aa, ca, rfl, -, -, -, -⟩ := hf3
  obtain ⟨Ac, cc, vs, rfl, -, -, -, -, -⟩ := hf4
  have t0 := B3.cell 0
  have t1 := B3.cell 1
  have t2 := B3.cell 2
  have t3 := B3.cell 3
  have z0 := B3.frozen 0
  have z1 := B3.frozen 1
  have z2 := B3.frozen 2
  have z3 := B3.frozen 3
  simp only [List.getElem?_toArray, List.getElem?_cons_zero, List.getElem?_cons_succ] at t0 t1 t2 t3
  clear hbw hb2 hsm hst B2 B3
  go_wp2_with fail
  have hg := grownBy_four w2 (w.heap.size + 1) 0 (.int .i64 f.ints) (.int .i64 f.bools) (.slice Aa f.atoms.length ca) (.slice Ac f.clauses.length cc)
  exact bodyPost_ret (v := .agg #[.int .i64 f.ints, .int .i64 f.bools, .slice Aa f.atoms.length ca, .slice Ac f.clauses.length cc]) (by simp [results, Try.results19, go_sem, t0, t1, t2, t3]) rfl ⟨_, _, rfl, HST.out _ _ hg hlt, HSM.out, HB2.out.grown hg HB2.out.size fun g e => by injection e with e; omega⟩

theorem SmallF.ten {a b c : Int} {f : Form} (h : SmallF (a % 3) (b % 6) (c % 5) f) : f.bools ≤ 10 := by
  obtain ⟨h1, h2, h3, _⟩ := h
  omega
end Go.Proofs.Ytdmndikenejhiaa
