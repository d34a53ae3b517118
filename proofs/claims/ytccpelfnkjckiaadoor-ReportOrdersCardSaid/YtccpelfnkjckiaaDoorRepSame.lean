/-
  WALK: interleaveref39.SameReports at equal lists.
-/
import Derived.Test.YtccpelfnkjckiaaDoorRepFmt
import Derived.Test.YtccpelfnkjckiaaDoorSame
namespace Go.Proofs.YtccpelfnkjckiaaDoor
open Go.RowKit

set_option maxRecDepth 100000 in
set_option maxHeartbeats 4000000 in
theorem srep_same (av bv : Value) (rs : List Rep) (w : World) (ha : Reps w av rs) (hb : Reps w bv rs) :
    Calls Tryd.prog 20 #[av, bv] w fun e w' => e = .returned (.bool true) ∧ ∃ n, w' = w.drewN n := by
  obtain ⟨A, c, ps, hps, rfl, h1, h2, h3, h4⟩ := ha
  obtain ⟨B, d, ts, hts, rfl, k1, k2, k3, k4⟩ := hb
  unfold maxLen at h2 k2
  have hl : ts.length = ps.length := by
    have e1 := congrArg List.length hps
    have e2 := congrArg List.length hts
    rw [List.length_map] at e1 e2
    omega
  have HPT : Hid (ps.map (·.1) = ts.map (·.1)) := Lib.hid (hps.trans hts.symm)
  have HL := Lib.hid hl
  have H3 := Lib.hid h3
  have H4 := Lib.hid h4
  have K3 := Lib.hid k3
  have K4 := Lib.hid k4
  rw [hl]
  rw [hl] at k1
  clear h3 h4 k3 k4 hl hps hts
  go_enter Tryd.func20, Tryd.ntmps20
  go_wp2_with fail
  go_loopw [13] (fun iv wr => ∃ k n : Nat, k ≤ ps.length ∧ iv = .int .i64 k ∧ Hid (wr = w.drewN n)) (fun iv _ => ps.length - (intOf iv).toNat)
  case atStart => exact ⟨0, 0, by omega, rfl, Lib.hid rfl⟩
  case round =>
    obtain ⟨k, n, hk, rfl, HDR⟩ := hrel
    have HBW : Hid (Below w.heap.size w wr) := by rw [HDR.out]; exact Lib.hid (bdrew (Below.refl _ _) n)
    have HDN : Hid (∀ N, wr.drewN N = w.drewN (n + N)) := Lib.hid fun N => by rw [HDR.out, World.drewN_drewN]
    by_cases hlt : k < ps.length
    · obtain ⟨p, hp⟩ : ∃ q, ps[k]? = some q := ⟨_, List.getElem?_eq_getElem hlt⟩
      obtain ⟨q, hq⟩ : ∃ q, ts[k]? = some q := ⟨_, List.getElem?_eq_getElem (by have := HL.out; omega)⟩
      have hpq : q.1 = p.1 := by
        have h := congrArg (fun l => l[k]?) HPT.out
        simp only [List.getElem?_map, hp, hq, Option.map_some, Option.some.injEq] at h
        exact h.symm
      obtain ⟨b, o, rfl, hb, hc⟩ := Reps.at_ (H3.out.keep HBW.out) hp
      obtain ⟨b', o', rfl, hb', hc'⟩ := Reps.at_ (K3.out.keep HBW.out) hq
      obtain ⟨i1, i2, -⟩ := H4.out p (List.mem_of_getElem? hp)
      obtain ⟨j1, j2, -⟩ := K4.out q (List.mem_of_getElem? hq)
      obtain ⟨r, sv, tv⟩ := p
      obtain ⟨r', sv', tv'⟩ := q
      simp only at hpq
      subst hpq
      obtain ⟨A1, c1, e1, -, -, -, -⟩ := i1
      obtain ⟨A2, c2, e2, -, -, -, -⟩ := i2
      obtain ⟨A3, c3, e3, -, -, -, -⟩ := j1
      obtain ⟨A4, c4, e4, -, -, -, -⟩ := j2
      simp only at e1 e2 e3 e4
      subst e1 e2 e3 e4
      have HI := Lib.hid (H4.out _ (List.mem_of_getElem? hp))
      have HJ := Lib.hid (K4.out _ (List.mem_of_getElem? hq))
      obtain ⟨x0, x1, x2, x3, x4, x5⟩ := hc
      obtain ⟨y0, y1, y2, y3, y4, y5⟩ := hc'
      simp only at x0 x1 x2 x3 x4 x5 y0 y1 y2 y3 y4 y5
      have HS1 : Hid (∀ N, Calls Tryd.prog 28 #[.slice A1 r'.sites.length c1, .slice A3 r'.sites.length c3] (wr.drewN N) fun e w' => e = .returned (.bool true) ∧ ∃ m, w' = (wr.drewN N).drewN m) := Lib.hid (fun N => by
        refine (same_any _ _ r'.sites r'.sites _ (HI.out.1.keep (HBW.out.trans ((bdrew (Below.refl _ _) N).mono HBW.out.size))) (HJ.out.1.keep (HBW.out.trans ((bdrew (Below.refl _ _) N).mono HBW.out.size)))).mono ?_
        rintro e w' ⟨rfl, h⟩
        exact ⟨by rw [decide_eq_true rfl], h⟩)
      have HS2 : Hid (∀ N, Calls Tryd.prog 28 #[.slice A2 r'.starts.length c2, .slice A4 r'.starts.length c4] (wr.drewN N) fun e w' => e = .returned (.bool true) ∧ ∃ m, w' = (wr.drewN N).drewN m) := Lib.hid (fun N => by
        refine (same_any _ _ r'.starts r'.starts _ (HI.out.2.1.keep (HBW.out.trans ((bdrew (Below.refl _ _) N).mono HBW.out.size))) (HJ.out.2.1.keep (HBW.out.trans ((bdrew (Below.refl _ _) N).mono HBW.out.size)))).mono ?_
        rintro e w' ⟨rfl, h⟩
        exact ⟨by rw [decide_eq_true rfl], h⟩)
      have lk : (k : Int) < ps.length := by omega
      have n0 : (r'.kind != r'.kind) = false := by simp
      have n3 : (r'.count != r'.count) = false := by simp
      have n4 : (r'.best != r'.best) = false := by simp
      have n5 : (r'.score != r'.score) = false := by simp
      clear hp hq
      go_wp2_with fail
      go_quiet ((go_at_call 28; first | (with_reducible exact Calls.quiet_of (HS1.out _)) | (with_reducible exact Calls.quiet_of (HS2.out _))))
      go_wp2_with fail
      go_roundw
      case rel => exact ⟨k + 1, _, by omega, by go_num, Lib.hid (HDN.out _)⟩
      case measure => simp [intOf]; omega
    · have lk : ¬ (k : Int) < ps.length := by omega
      go_wp2_with fail
      go_ret
      exact ⟨rfl, n, HDR.out⟩
end Go.Proofs.YtccpelfnkjckiaaDoor
