/-
  WALK: report.Group$2 (the comparison of two reports).
-/
import Derived.Test.YtccpelfnkjckiaaDoorRepOrd
namespace Go.Proofs.YtccpelfnkjckiaaDoor
open Go.RowKit

set_option maxRecDepth 100000 in
set_option maxHeartbeats 4000000 in
theorem group2_any (av bv : Value) (a b : Rep) (w : World) (ha : IsRep w av a) (hb : IsRep w bv b) :
    Calls Tryd.prog 44 #[av, bv] w fun e w' => e = .returned (.int .i64 (cmpG a b)) ∧ Grew w w' := by
  have HA := Lib.hid ha
  have HB := Lib.hid hb
  obtain ⟨s1, t1, rfl, hs1, ht1, -⟩ := ha
  obtain ⟨s2, t2, rfl, hs2, ht2, -⟩ := hb
  obtain ⟨A1, c1, rfl, -, -, -, -⟩ := hs1
  obtain ⟨A2, c2, rfl, -, -, -, -⟩ := hs2
  obtain ⟨B1, e1, rfl, -, -, -, -⟩ := ht1
  obtain ⟨B2, e2, rfl, -, -, -, -⟩ := ht2
  have HG : Hid (Grew w ((w.alloc (.cells #[.int .i64 a.kind, .slice A1 a.sites.length c1, .slice B1 a.starts.length e1, .int .i64 a.count, .int .i64 a.best, .int .i64 a.score] 61)).alloc (.cells #[.int .i64 b.kind, .slice A2 b.sites.length c2, .slice B2 b.starts.length e2, .int .i64 b.count, .int .i64 b.best, .int .i64 b.score] 61))) := Lib.hid (((Grew.refl _).alloc _).alloc _)
  cases h1 : lessR a b with
  | true =>
    have HV : Hid (-1 = cmpG a b) := Lib.hid (by unfold cmpG; rw [if_pos h1])
    have H1 := Lib.hid h1
    clear h1
    go_enter Tryd.func44, Tryd.ntmps44
    go_wp2_with fail
    refine (less_any _ _ a b _ (HA.out.keep HG.out.below) (HB.out.keep HG.out.below)).mono ?_
    rintro e w1 ⟨rfl, hg1⟩
    rw [H1.out]
    have HG1 := Lib.hid hg1
    obtain ⟨hc, hf⟩ := bcell hg1.below
    have hz := hg1.below.size
    simp only [World.size_alloc] at hz hc hf
    clear hg1
    go_wp2_with fail
    go_ret
    exact ⟨ret_int64 HV.out, HG.out.trans HG1.out⟩
  | false =>
    have H1 := Lib.hid h1
    cases h2 : lessR b a with
    | true =>
      have HV : Hid (1 = cmpG a b) := Lib.hid (by unfold cmpG; rw [h1, h2]; rfl)
      have H2 := Lib.hid h2
      clear h1 h2
      go_enter Tryd.func44, Tryd.ntmps44
      go_wp2_with fail
      refine (less_any _ _ a b _ (HA.out.keep HG.out.below) (HB.out.keep HG.out.below)).mono ?_
      rintro e w1 ⟨rfl, hg1⟩
      rw [H1.out]
      have HG1 := Lib.hid hg1
      obtain ⟨hc, hf⟩ := bcell hg1.below
      have hz := hg1.below.size
      simp only [World.size_alloc] at hz hc hf
      clear hg1
      go_wp2_with fail
      refine (less_any _ _ b a _ (HB.out.keep (HG.out.trans HG1.out).below) (HA.out.keep (HG.out.trans HG1.out).below)).mono ?_
      rintro e w2 ⟨rfl, hg2⟩
      rw [H2.out]
      have HG2 := Lib.hid hg2
      clear hg2
      go_wp2_with fail
      go_ret
      exact ⟨ret_int64 HV.out, (HG.out.trans HG1.out).trans HG2.out⟩
    | false =>
      have HV : Hid (0 = cmpG a b) := Lib.hid (by unfold cmpG; rw [h1, h2]; rfl)
      have H2 := Lib.hid h2
      clear h1 h2
      go_enter Tryd.func44, Tryd.ntmps44
      go_wp2_with fail
      refine (less_any _ _ a b _ (HA.out.keep HG.out.below) (HB.out.keep HG.out.below)).mono ?_
      rintro e w1 ⟨rfl, hg1⟩
      rw [H1.out]
      have HG1 := Lib.hid hg1
      obtain ⟨hc, hf⟩ := bcell hg1.below
      have hz := hg1.below.size
      simp only [World.size_alloc] at hz hc hf
      clear hg1
      go_wp2_with fail
      refine (less_any _ _ b a _ (HB.out.keep (HG.out.trans HG1.out).below) (HA.out.keep (HG.out.trans HG1.out).below)).mono ?_
      rintro e w2 ⟨rfl, hg2⟩
      rw [H2.out]
      have HG2 := Lib.hid hg2
      clear hg2
      go_wp2_with fail
      go_ret
      exact ⟨ret_int64 HV.out, (HG.out.trans HG1.out).trans HG2.out⟩
end Go.Proofs.YtccpelfnkjckiaaDoor
