/-
  WALK: interleaveref31.SameSteps, at equal lists.
-/
import Derived.Test.YtfffalfnjficaaaDoorDerive
import Derived.Test.YtfffalfnjficaaaDoorSame
import Derived.Deep.QuietTactic
import Derived.BigQuiet
namespace Go.Proofs.YtfffalfnjficaaaDoor
open Go.RowKit

set_option maxRecDepth 100000 in
set_option maxHeartbeats 2000000 in
theorem sameSteps_any (av bv : Value) (l : List Stp) (w : World) (ha : Stps w av l) (hb : Stps w bv l) :
    Calls Tryd.prog 19 #[av, bv] w fun e w' => e = .returned (.bool true) ∧ Below w.heap.size w w' := by
  obtain ⟨A, c, ps, hps, rfl, l1, l2, l3, l4⟩ := ha
  obtain ⟨B, d, qs, hqs, rfl, m1, m2, m3, m4⟩ := hb
  have hpl : ps.length = l.length := by rw [hps]; simp
  have hql : qs.length = l.length := by rw [hqs]; simp
  have HPS := Lib.hid hps
  have HQS := Lib.hid hqs
  have HR := Lib.hid l3
  have H4 := Lib.hid l4
  have HR2 := Lib.hid m3
  have H42 := Lib.hid m4
  unfold maxLen at l2 m2
  rw [hpl] at l1 ⊢
  rw [hql] at m1 ⊢
  have HPL := Lib.hid hpl
  have HQL := Lib.hid hql
  clear hps hqs l3 l4 m3 m4 hpl hql
  go_enter Tryd.func19, Tryd.ntmps19
  go_wp2_with fail
  go_loopw [13] (fun i wr => ∃ k : Nat, k ≤ l.length ∧ i = .int .i64 k ∧ Below w.heap.size w wr) (fun i _ => l.length - (intOf i).toNat)
  case atStart => exact ⟨0, by omega, rfl, Below.refl _ _⟩
  case round =>
    obtain ⟨k, hk, rfl, hbw⟩ := hrel
    have HB := Lib.hid hbw
    clear hbw
    by_cases hkl : k < l.length
    · obtain ⟨⟨s, sv⟩, hp⟩ : ∃ p, ps[k]? = some p := ⟨_, List.getElem?_eq_getElem (by have := HPL.out; omega)⟩
      obtain ⟨⟨s', tv⟩, hq⟩ : ∃ p, qs[k]? = some p := ⟨_, List.getElem?_eq_getElem (by have := HQL.out; omega)⟩
      have e1 : l[k]? = some s := by rw [HPS.out, List.getElem?_map, hp]; rfl
      have e2 : l[k]? = some s' := by rw [HQS.out, List.getElem?_map, hq]; rfl
      obtain rfl : s = s' := by rw [e1] at e2; injection e2
      obtain ⟨b1, o1, rfl, hb1, t0, t1, t2, t3, t4, t5⟩ := Stps.at_ (HR.out.keep HB.out) hp
      obtain ⟨b2, o2, rfl, hb2, u0, u1, u2, u3, u4, u5⟩ := Stps.at_ (HR2.out.keep HB.out) hq
      have HI1 := Lib.hid ((H4.out (s, sv) (List.mem_of_getElem? hp)).1.keep HB.out)
      have HI2 := Lib.hid ((H42.out (s, tv) (List.mem_of_getElem? hq)).1.keep HB.out)
      obtain ⟨As, cs, hsv, -, -, -, -⟩ := HI1.out
      obtain ⟨At, ct, htv, -, -, -, -⟩ := HI2.out
      simp only at t0 t1 t2 t3 t4 t5 u0 u1 u2 u3 u4 u5 hsv htv
      subst hsv htv
      have i1 : (0 : Int) ≤ (k : Int) := by omega
      have i2 : (k : Int) < (l.length : Int) := by omega
      have d0 : (s.kind != s.kind) = false := by simp
      have d1 : (s.index != s.index) = false := by simp
      have d3 : (s.p != s.p) = false := by simp
      have d4 : (s.q != s.q) = false := by simp
      have d5 : (s.var != s.var) = false := by simp
      have HS : Hid (∀ m, Calls Tryd.prog 22 #[.slice As s.lits.length cs, .slice At s.lits.length ct] (wr.drewN m) fun e w' => e = .returned (.bool true) ∧ ∃ n, w' = (wr.drewN m).drewN n) := Lib.hid fun m => by
        have h := same_any _ _ s.lits s.lits (wr.drewN m) (HI1.out.keep (bdrew (Below.refl _ _) m)) (HI2.out.keep (bdrew (Below.refl _ _) m))
        rw [show decide (s.lits = s.lits) = true by simp] at h
        exact h
      clear hp hq e1 e2
      go_upto_region 6 with fail
      go_quiet ((go_at_call 22; exact Calls.quiet_of (HS.out _)))
      go_wp2_with fail
      go_roundw
      case rel => exact ⟨k + 1, by omega, by go_num, bdrew HB.out _⟩
      case measure => simp [intOf]; omega
    · go_wp2_with fail
      go_ret
      exact ⟨rfl, HB.out⟩
end Go.Proofs.YtfffalfnjficaaaDoor
