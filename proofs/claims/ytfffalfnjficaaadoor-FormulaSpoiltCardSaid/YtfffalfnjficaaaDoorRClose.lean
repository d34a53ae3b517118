/-
  WALK: the deferred closure of formula.Parse, entered by a panic and by a return.
-/
import Derived.Test.YtfffalfnjficaaaDoorRForm
import Derived.Recover
import Derived.Defers
namespace Go.Proofs.YtfffalfnjficaaaDoor
open Go.RowKit

set_option maxRecDepth 100000 in
set_option maxHeartbeats 4000000 in
theorem close_panicking (B : Nat) (rest : List UInt8) (line : Nat) (pv : Value) (u : TypeId) (older : List PanicEntry) (w : World) (v0 v1 v2 v3 v4 v5 : Value)
    (hf : Blk w B 26 #[v0, v1, v2, v3]) (he : Blk w (B + 1) 27 #[v4]) (hn : Blk w (B + 2) 3 #[v5]) (hp : Blk w (B + 4) 55 #[.pointer (some ⟨B + 3, 0, none⟩)]) (hr : RdrAt w (B + 3) rest line) :
    CallsD Tryd.prog 23 #[.pointer (some ⟨B + 4, 0, none⟩), .pointer (some ⟨B, 0, none⟩), .pointer (some ⟨B + 1, 0, none⟩), .pointer (some ⟨B + 2, 0, none⟩)] (.panicking ({ v := .iface u pv, recovered := false } :: older)) w fun e u' w' =>
      e = .returned (.tuple #[]) ∧ u' = .panicking ({ v := .iface u pv, recovered := true } :: older) ∧ w' = ((set4 w B (.int .i64 0) (.int .i64 0) (.slice none 0 0) (.slice none 0 0)).setCell ⟨B + 1, 0, none⟩ (.int .i64 3)).setCell ⟨B + 2, 0, none⟩ (.int .i64 line) := by
  have c0 := hf.cell 0
  have c1 := hf.cell 1
  have c2 := hf.cell 2
  have c3 := hf.cell 3
  have z0 := hf.frozen 0
  have z1 := hf.frozen 1
  have z2 := hf.frozen 2
  have z3 := hf.frozen 3
  have d0 := he.cell 0
  have y0 := he.frozen 0
  have e0 := hn.cell 0
  have x0 := hn.frozen 0
  have p0 := hp.cell 0
  have r1 := hr.cell 1
  simp only [List.getElem?_toArray, List.getElem?_cons_zero, List.getElem?_cons_succ] at c0 c1 c2 c3 d0 e0 p0 r1
  refine callsD_of_wpS Tryd.func23 rfl fun c₀ cs hu => ?_
  apply wpS_seq
  apply wpS_region
  simp [wpOpsS, go_sem, recoverD, hu, Tryd.ntmps23, Exit.thenS]
  refine wpS_cond (t := true) (by simp [Act.eval, Array.replicate]) ?_
  simp only [if_true]
  apply wpS_region
  simp (maxSteps := 2000000) [wpOpsS, go_sem, c0, c1, c2, c3, z0, z1, z2, z3, d0, y0, e0, x0, p0, r1, bodyPostS, results, Tryd.results23, set4]

theorem close_idle (a b c d : Value) (w : World) :
    CallsD Tryd.prog 23 #[a, b, c, d] .returning w fun e u' w' => e = .returned (.tuple #[]) ∧ u' = .returning ∧ w' = w := by
  refine callsD_of_wpS Tryd.func23 rfl fun c₀ cs hu => ?_
  apply wpS_seq
  apply wpS_region
  simp [wpOpsS, go_sem, recoverD, hu, Tryd.ntmps23, Exit.thenS]
  refine wpS_cond (t := false) (by simp [Act.eval, Array.replicate]) ?_
  simp only [Bool.false_eq_true, if_false]
  refine wpS_of_wp (wp_skip ?_)
  cases c₀
  simp_all [bodyPostS, results, Tryd.results23]
end Go.Proofs.YtfffalfnjficaaaDoor
