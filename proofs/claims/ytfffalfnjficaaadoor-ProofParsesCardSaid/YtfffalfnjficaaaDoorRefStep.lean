/-
  WALK: interleaveref31.step.
-/
import Derived.Test.YtfffalfnjficaaaDoorPStep
import Derived.Deep.RegionHeld3
import Derived.Deep.Cut
namespace Go.Proofs.YtfffalfnjficaaaDoor
open Go.RowKit

theorem numsL_at {line h word : List UInt8} {ps : List (List UInt8)} (hp : pieces 32 line = h :: ps) : numsL word line = if h = word then ps.mapM canonI else none := by unfold numsL; rw [hp]
/-- Which word a line has, and the step that it denotes. -/
theorem step_kinds (line : List UInt8) :
    (numsL wInput line = none ∧ numsL wCycle line = none ∧ numsL wResolve line = none ∧ numsL wStep line = none ∧ stepP line = none) ∨
    (∃ vs, numsL wInput line = some vs ∧ numsL wCycle line = none ∧ numsL wResolve line = none ∧ numsL wStep line = none ∧ stepP line = stepOf wInput vs) ∨
    (∃ vs, numsL wInput line = none ∧ numsL wCycle line = some vs ∧ numsL wResolve line = none ∧ numsL wStep line = none ∧ stepP line = stepOf wCycle vs) ∨
    (∃ vs, numsL wInput line = none ∧ numsL wCycle line = none ∧ numsL wResolve line = some vs ∧ numsL wStep line = none ∧ stepP line = stepOf wResolve vs) ∨
    (∃ vs, numsL wInput line = none ∧ numsL wCycle line = none ∧ numsL wResolve line = none ∧ numsL wStep line = some vs ∧ stepP line = stepOf wStep vs) := by
  obtain ⟨h, ps, hp⟩ : ∃ h ps, pieces 32 line = h :: ps := by
    cases hc : pieces 32 line with
    | nil => exact absurd hc (pieces_ne _ _)
    | cons x y => exact ⟨x, y, rfl⟩
  rw [numsL_at hp, numsL_at hp, numsL_at hp, numsL_at hp, stepP_of hp]
  cases hm : ps.mapM canonI with
  | none => left; simp
  | some vs =>
    simp only [Option.bind_some]
    by_cases h1 : h = wInput
    · subst h1; right; left; exact ⟨vs, if_pos rfl, if_neg (by decide), if_neg (by decide), if_neg (by decide), rfl⟩
    · by_cases h2 : h = wCycle
      · subst h2; right; right; left; exact ⟨vs, if_neg (by decide), if_pos rfl, if_neg (by decide), if_neg (by decide), rfl⟩
      · by_cases h3 : h = wResolve
        · subst h3; right; right; right; left; exact ⟨vs, if_neg (by decide), if_neg (by decide), if_pos rfl, if_neg (by decide), rfl⟩
        · by_cases h4 : h = wStep
          · subst h4; right; right; right; right; exact ⟨vs, if_neg (by decide), if_neg (by decide), if_neg (by decide), if_pos rfl, rfl⟩
          · left
            refine ⟨if_neg h1, if_neg h2, if_neg h3, if_neg h4, ?_⟩
            unfold stepOf
            rw [if_neg (fun e => h1 e.1), if_neg h2, if_neg (fun e => h3 e.1), if_neg (fun e => h4 e.1)]
set_option maxRecDepth 100000 in
set_option maxHeartbeats 16000000 in
theorem rstep_any (line : List UInt8) (w : World) (hl : line.length ≤ 900000) (hp : PL w) :
    Calls Tryd.prog 37 #[.string ⟨line.toArray⟩] w (StepRet w (stepP line)) := by
  have hrb := Blk.new w 81 #[.int .i64 0, .int .i64 0, .slice none 0 0, .int .i64 0, .int .i64 0, .int .i64 0]
  have hb0 : Below w.heap.size w (w.alloc (.cells #[.int .i64 0, .int .i64 0, .slice none 0 0, .int .i64 0, .int .i64 0, .int .i64 0] 81)) := by go_grown
  have HP0 := Lib.hid (hp.below hb0)
  clear hp
  go_enter Tryd.func37, Tryd.ntmps37
  go_wp2_with fail
  generalize w.alloc (.cells #[.int .i64 0, .int .i64 0, .slice none 0 0, .int .i64 0, .int .i64 0, .int .i64 0] 81) = w0 at *
  have HRB := Lib.hid hrb
  have HB0 := Lib.hid hb0
  have HW0 : Hid (w.heap.size < w0.heap.size) := Lib.hid hrb.lt
  clear hrb hb0
  rcases step_kinds line with ⟨h1, h2, h3, h4, h5⟩ | ⟨vs, h1, h2, h3, h4, h5⟩ | ⟨vs, h1, h2, h3, h4, h5⟩ | ⟨vs, h1, h2, h3, h4, h5⟩ | ⟨vs, h1, h2, h3, h4, h5⟩
  all_goals
    have HI := Lib.hid h1
    have HC := Lib.hid h2
    have HR := Lib.hid h3
    have HS := Lib.hid h4
    have HSP := Lib.hid h5
    clear h1 h2 h3 h4 h5
  · go_wp2_with fail
    refine (rnums_no (word := wInput) HI.out (by decide) (by decide) hl (HP0.out)).mono ?_
    rintro e x0 ⟨rfl, hbb⟩
    have HBx0 := Lib.hid hbb
    clear hbb
    go_wp2_with fail
    refine (rnums_no (word := wCycle) HC.out (by decide) (by decide) hl (HP0.out.below HBx0.out)).mono ?_
    rintro e x1 ⟨rfl, hbb⟩
    have HBx1 := Lib.hid (HBx0.out.trans (hbb.mono HBx0.out.size))
    clear hbb
    go_wp2_with fail
    refine (rnums_no (word := wResolve) HR.out (by decide) (by decide) hl (HP0.out.below HBx1.out)).mono ?_
    rintro e x2 ⟨rfl, hbb⟩
    have HBx2 := Lib.hid (HBx1.out.trans (hbb.mono HBx1.out.size))
    clear hbb
    go_wp2_with fail
    refine (rnums_no (word := wStep) HS.out (by decide) (by decide) hl (HP0.out.below HBx2.out)).mono ?_
    rintro e x3 ⟨rfl, hbb⟩
    have HBx3 := Lib.hid (HBx2.out.trans (hbb.mono HBx2.out.size))
    clear hbb
    have HNO : Hid (stepP line = none) := Lib.hid (HSP.out)
    have KK := HRB.out.keep HBx3.out
    have HBK : Hid (Below w.heap.size w x3) := Lib.hid (HB0.out.trans (HBx3.out.mono HB0.out.size))
    have c0 := KK.cell 0
    have c1q := KK.cell 1
    have c2 := KK.cell 2
    have c3 := KK.cell 3
    have c4 := KK.cell 4
    have c5 := KK.cell 5
    have z0 := KK.frozen 0
    have z1 := KK.frozen 1
    have z2 := KK.frozen 2
    have z3 := KK.frozen 3
    have z4 := KK.frozen 4
    have z5 := KK.frozen 5
    simp only [List.getElem?_toArray, List.getElem?_cons_zero, List.getElem?_cons_succ] at c0 c1q c2 c3 c4 c5
    have U := blk_st6 KK (.int .i64 0) (.int .i64 0) (.slice none 0 0) (.int .i64 0) (.int .i64 0) (.int .i64 0)
    have HBZ := below_st6 HBK.out (.int .i64 0) (.int .i64 0) (.slice none 0 0) (.int .i64 0) (.int .i64 0) (.int .i64 0)
    have HGZ := grown_st6 x3 w.heap.size (.int .i64 0) (.int .i64 0) (.slice none 0 0) (.int .i64 0) (.int .i64 0) (.int .i64 0)
    unfold st6 at U HBZ HGZ
    have HU := Lib.hid U
    have HBZ := Lib.hid HBZ
    have HGZ := Lib.hid HGZ
    clear U KK
    go_wp2_with fail
    clear c0 c1q c2 c3 c4 c5 z0 z1 z2 z3 z4 z5
    generalize (((((x3.setCell ⟨w.heap.size, 0, none⟩ (.int .i64 0)).setCell ⟨w.heap.size, 1, none⟩ (.int .i64 0)).setCell ⟨w.heap.size, 2, none⟩ (.slice none 0 0)).setCell ⟨w.heap.size, 3, none⟩ (.int .i64 0)).setCell ⟨w.heap.size, 4, none⟩ (.int .i64 0)).setCell ⟨w.heap.size, 5, none⟩ (.int .i64 0) = W9 at *
    have u0 := HU.out.cell 0
    have u1 := HU.out.cell 1
    have u2 := HU.out.cell 2
    have u3 := HU.out.cell 3
    have u4 := HU.out.cell 4
    have u5 := HU.out.cell 5
    simp only [List.getElem?_toArray, List.getElem?_cons_zero, List.getElem?_cons_succ] at u0 u1 u2 u3 u4 u5
    exact bodyPost_ret (v := .tuple #[.agg #[.int .i64 0, .int .i64 0, .slice none 0 0, .int .i64 0, .int .i64 0, .int .i64 0], .bool false]) (by simp [results, Tryd.results37, go_sem, u0, u1, u2, u3, u4, u5]) rfl ⟨HBZ.out, .inl ⟨HNO.out, rfl⟩⟩
  · by_cases hln : vs.length = 1
    · obtain ⟨a, hvs⟩ : ∃ a, vs = [a] := by
        match vs, hln with
        | [a], _ => exact ⟨a, rfl⟩
      have HYS : Hid (stepOf wInput vs = some ⟨1, a, [], 0, 0, 0⟩) := Lib.hid (by rw [hvs]; rfl)
      clear hln
      go_wp2_with fail
      refine (rnums_yes (word := wInput) HI.out (by decide) (by decide) hl (HP0.out)).mono ?_
      rintro e x0 ⟨Ao, co, rfl, hoo, hbb⟩
      have HO := Lib.hid hoo
      clear hoo
      have HBx0 := Lib.hid hbb
      clear hbb
      obtain ⟨g, hg, -, hgl, hgc⟩ := own_cells HO.out (by rw [hvs]; simp)
      subst hg
      have j0 := hgc 0 a (by rw [hvs]; rfl)
      have HI2 := Lib.hid HO.out.2
      rw [hvs] at HI2
      have HYES : Hid (stepP line = some ⟨1, a, [], 0, 0, 0⟩) := Lib.hid (HSP.out.trans HYS.out)
      have KK := HRB.out.keep HBx0.out
      have HBK : Hid (Below w.heap.size w x0) := Lib.hid (HB0.out.trans (HBx0.out.mono HB0.out.size))
      have c0 := KK.cell 0
      have c1q := KK.cell 1
      have c2 := KK.cell 2
      have c3 := KK.cell 3
      have c4 := KK.cell 4
      have c5 := KK.cell 5
      have z0 := KK.frozen 0
      have z1 := KK.frozen 1
      have z2 := KK.frozen 2
      have z3 := KK.frozen 3
      have z4 := KK.frozen 4
      have z5 := KK.frozen 5
      simp only [List.getElem?_toArray, List.getElem?_cons_zero, List.getElem?_cons_succ] at c0 c1q c2 c3 c4 c5
      have U := blk_st6 KK (.int .i64 1) (.int .i64 a) (.slice none 0 0) (.int .i64 0) (.int .i64 0) (.int .i64 0)
      have HBZ := below_st6 HBK.out (.int .i64 1) (.int .i64 a) (.slice none 0 0) (.int .i64 0) (.int .i64 0) (.int .i64 0)
      have HGZ := grown_st6 x0 w.heap.size (.int .i64 1) (.int .i64 a) (.slice none 0 0) (.int .i64 0) (.int .i64 0) (.int .i64 0)
      unfold st6 at U HBZ HGZ
      have HU := Lib.hid U
      have HBZ := Lib.hid HBZ
      have HGZ := Lib.hid HGZ
      clear U KK
      go_wp2_with fail
      clear c0 c1q c2 c3 c4 c5 z0 z1 z2 z3 z4 z5
      generalize (((((x0.setCell ⟨w.heap.size, 0, none⟩ (.int .i64 1)).setCell ⟨w.heap.size, 1, none⟩ (.int .i64 a)).setCell ⟨w.heap.size, 2, none⟩ (.slice none 0 0)).setCell ⟨w.heap.size, 3, none⟩ (.int .i64 0)).setCell ⟨w.heap.size, 4, none⟩ (.int .i64 0)).setCell ⟨w.heap.size, 5, none⟩ (.int .i64 0) = W9 at *
      have u0 := HU.out.cell 0
      have u1 := HU.out.cell 1
      have u2 := HU.out.cell 2
      have u3 := HU.out.cell 3
      have u4 := HU.out.cell 4
      have u5 := HU.out.cell 5
      simp only [List.getElem?_toArray, List.getElem?_cons_zero, List.getElem?_cons_succ] at u0 u1 u2 u3 u4 u5
      exact bodyPost_ret (v := .tuple #[.agg #[.int .i64 1, .int .i64 a, .slice none 0 0, .int .i64 0, .int .i64 0, .int .i64 0], .bool true]) (by simp [results, Tryd.results37, go_sem, u0, u1, u2, u3, u4, u5]) rfl ⟨HBZ.out, .inr ⟨⟨1, a, [], 0, 0, 0⟩, none, 0, HYES.out, rfl, ⟨none, 0, rfl, by simp, by unfold maxLen; omega, by simp, by simp⟩, ⟨i64_1, HI2.out a (by simp), i64_0, i64_0, i64_0⟩⟩⟩
    · have q1 : ((vs.length : Int) == 1) = false := by rw [beq_eq_false_iff_ne]; omega
      have HNS : Hid (stepOf wInput vs = none) := Lib.hid (by unfold stepOf; rw [if_neg (fun e => hln e.2), if_neg (by decide), if_neg (fun e => absurd e.1 (by decide)), if_neg (fun e => absurd e.1 (by decide))])
      clear hln
      go_wp2_with fail
      refine (rnums_yes (word := wInput) HI.out (by decide) (by decide) hl (HP0.out)).mono ?_
      rintro e x0 ⟨Ao, co, rfl, hoo, hbb⟩
      have HO := Lib.hid hoo
      clear hoo
      have HBx0 := Lib.hid hbb
      clear hbb
      go_wp2_with fail
      refine (rnums_no (word := wCycle) HC.out (by decide) (by decide) hl (HP0.out.below HBx0.out)).mono ?_
      rintro e x1 ⟨rfl, hbb⟩
      have HO : Hid (Own x1 _ (.slice Ao vs.length co) vs) := Lib.hid ⟨owns_keep HO.out.1 hbb, HO.out.2⟩
      have HBx1 := Lib.hid (HBx0.out.trans (hbb.mono HBx0.out.size))
      clear hbb
      go_wp2_with fail
      refine (rnums_no (word := wResolve) HR.out (by decide) (by decide) hl (HP0.out.below HBx1.out)).mono ?_
      rintro e x2 ⟨rfl, hbb⟩
      have HO : Hid (Own x2 _ (.slice Ao vs.length co) vs) := Lib.hid ⟨owns_keep HO.out.1 hbb, HO.out.2⟩
      have HBx2 := Lib.hid (HBx1.out.trans (hbb.mono HBx1.out.size))
      clear hbb
      go_wp2_with fail
      refine (rnums_no (word := wStep) HS.out (by decide) (by decide) hl (HP0.out.below HBx2.out)).mono ?_
      rintro e x3 ⟨rfl, hbb⟩
      have HO : Hid (Own x3 _ (.slice Ao vs.length co) vs) := Lib.hid ⟨owns_keep HO.out.1 hbb, HO.out.2⟩
      have HBx3 := Lib.hid (HBx2.out.trans (hbb.mono HBx2.out.size))
      clear hbb
      have HNO : Hid (stepP line = none) := Lib.hid (HSP.out.trans HNS.out)
      have KK := HRB.out.keep HBx3.out
      have HBK : Hid (Below w.heap.size w x3) := Lib.hid (HB0.out.trans (HBx3.out.mono HB0.out.size))
      have c0 := KK.cell 0
      have c1q := KK.cell 1
      have c2 := KK.cell 2
      have c3 := KK.cell 3
      have c4 := KK.cell 4
      have c5 := KK.cell 5
      have z0 := KK.frozen 0
      have z1 := KK.frozen 1
      have z2 := KK.frozen 2
      have z3 := KK.frozen 3
      have z4 := KK.frozen 4
      have z5 := KK.frozen 5
      simp only [List.getElem?_toArray, List.getElem?_cons_zero, List.getElem?_cons_succ] at c0 c1q c2 c3 c4 c5
      have U := blk_st6 KK (.int .i64 0) (.int .i64 0) (.slice none 0 0) (.int .i64 0) (.int .i64 0) (.int .i64 0)
      have HBZ := below_st6 HBK.out (.int .i64 0) (.int .i64 0) (.slice none 0 0) (.int .i64 0) (.int .i64 0) (.int .i64 0)
      have HGZ := grown_st6 x3 w.heap.size (.int .i64 0) (.int .i64 0) (.slice none 0 0) (.int .i64 0) (.int .i64 0) (.int .i64 0)
      unfold st6 at U HBZ HGZ
      have HU := Lib.hid U
      have HBZ := Lib.hid HBZ
      have HGZ := Lib.hid HGZ
      clear U KK
      go_wp2_with fail
      clear c0 c1q c2 c3 c4 c5 z0 z1 z2 z3 z4 z5
      generalize (((((x3.setCell ⟨w.heap.size, 0, none⟩ (.int .i64 0)).setCell ⟨w.heap.size, 1, none⟩ (.int .i64 0)).setCell ⟨w.heap.size, 2, none⟩ (.slice none 0 0)).setCell ⟨w.heap.size, 3, none⟩ (.int .i64 0)).setCell ⟨w.heap.size, 4, none⟩ (.int .i64 0)).setCell ⟨w.heap.size, 5, none⟩ (.int .i64 0) = W9 at *
      have u0 := HU.out.cell 0
      have u1 := HU.out.cell 1
      have u2 := HU.out.cell 2
      have u3 := HU.out.cell 3
      have u4 := HU.out.cell 4
      have u5 := HU.out.cell 5
      simp only [List.getElem?_toArray, List.getElem?_cons_zero, List.getElem?_cons_succ] at u0 u1 u2 u3 u4 u5
      exact bodyPost_ret (v := .tuple #[.agg #[.int .i64 0, .int .i64 0, .slice none 0 0, .int .i64 0, .int .i64 0, .int .i64 0], .bool false]) (by simp [results, Tryd.results37, go_sem, u0, u1, u2, u3, u4, u5]) rfl ⟨HBZ.out, .inl ⟨HNO.out, rfl⟩⟩
  · have HYS : Hid (stepOf wCycle vs = some ⟨2, 0, vs, 0, 0, 0⟩) := Lib.hid (by unfold stepOf; rw [if_neg (fun e => absurd e.1 (by decide)), if_pos rfl])
    go_wp2_with fail
    refine (rnums_no (word := wInput) HI.out (by decide) (by decide) hl (HP0.out)).mono ?_
    rintro e x0 ⟨rfl, hbb⟩
    have HBx0 := Lib.hid hbb
    clear hbb
    go_wp2_with fail
    refine (rnums_yes (word := wCycle) HC.out (by decide) (by decide) hl (HP0.out.below HBx0.out)).mono ?_
    rintro e x1 ⟨Ao, co, rfl, hoo, hbb⟩
    have HO := Lib.hid hoo
    clear hoo
    have HBx1 := Lib.hid (HBx0.out.trans (hbb.mono HBx0.out.size))
    clear hbb
    have HYES : Hid (stepP line = some ⟨2, 0, vs, 0, 0, 0⟩) := Lib.hid (HSP.out.trans HYS.out)
    have KK := HRB.out.keep HBx1.out
    have HBK : Hid (Below w.heap.size w x1) := Lib.hid (HB0.out.trans (HBx1.out.mono HB0.out.size))
    have c0 := KK.cell 0
    have c1q := KK.cell 1
    have c2 := KK.cell 2
    have c3 := KK.cell 3
    have c4 := KK.cell 4
    have c5 := KK.cell 5
    have z0 := KK.frozen 0
    have z1 := KK.frozen 1
    have z2 := KK.frozen 2
    have z3 := KK.frozen 3
    have z4 := KK.frozen 4
    have z5 := KK.frozen 5
    simp only [List.getElem?_toArray, List.getElem?_cons_zero, List.getElem?_cons_succ] at c0 c1q c2 c3 c4 c5
    have U := blk_st6 KK (.int .i64 2) (.int .i64 0) (.slice Ao vs.length co) (.int .i64 0) (.int .i64 0) (.int .i64 0)
    have HBZ := below_st6 HBK.out (.int .i64 2) (.int .i64 0) (.slice Ao vs.length co) (.int .i64 0) (.int .i64 0) (.int .i64 0)
    have HGZ := grown_st6 x1 w.heap.size (.int .i64 2) (.int .i64 0) (.slice Ao vs.length co) (.int .i64 0) (.int .i64 0) (.int .i64 0)
    unfold st6 at U HBZ HGZ
    have HU := Lib.hid U
    have HBZ := Lib.hid HBZ
    have HGZ := Lib.hid HGZ
    clear U KK
    go_wp2_with fail
    clear c0 c1q c2 c3 c4 c5 z0 z1 z2 z3 z4 z5
    generalize (((((x1.setCell ⟨w.heap.size, 0, none⟩ (.int .i64 2)).setCell ⟨w.heap.size, 1, none⟩ (.int .i64 0)).setCell ⟨w.heap.size, 2, none⟩ (.slice Ao vs.length co)).setCell ⟨w.heap.size, 3, none⟩ (.int .i64 0)).setCell ⟨w.heap.size, 4, none⟩ (.int .i64 0)).setCell ⟨w.heap.size, 5, none⟩ (.int .i64 0) = W9 at *
    have u0 := HU.out.cell 0
    have u1 := HU.out.cell 1
    have u2 := HU.out.cell 2
    have u3 := HU.out.cell 3
    have u4 := HU.out.cell 4
    have u5 := HU.out.cell 5
    simp only [List.getElem?_toArray, List.getElem?_cons_zero, List.getElem?_cons_succ] at u0 u1 u2 u3 u4 u5
    exact bodyPost_ret (v := .tuple #[.agg #[.int .i64 2, .int .i64 0, .slice Ao vs.length co, .int .i64 0, .int .i64 0, .int .i64 0], .bool true]) (by simp [results, Tryd.results37, go_sem, u0, u1, u2, u3, u4, u5]) rfl ⟨HBZ.out, .inr ⟨⟨2, 0, vs, 0, 0, 0⟩, Ao, co, HYES.out, rfl, (HO.out.intsO (P := fun b => w.heap.size < b) (fun b h1 _ _ => by have := HBx0.out.size; have := HW0.out; omega)).grown HGZ.out (fun b hb e => by injection e with e; omega) |>.mono (fun b _ hb => Nat.le_of_lt hb), ⟨i64_2, i64_0, i64_0, i64_0, i64_0⟩⟩⟩
  · by_cases hln : vs.length = 3
    · obtain ⟨a, b2, d2v, hvs⟩ : ∃ a b c, vs = [a, b, c] := by
        match vs, hln with
        | [a, b, c], _ => exact ⟨a, b, c, rfl⟩
      have HYS : Hid (stepOf wResolve vs = some ⟨3, 0, [], a, b2, d2v⟩) := Lib.hid (by rw [hvs]; rfl)
      clear hln
      go_wp2_with fail
      refine (rnums_no (word := wInput) HI.out (by decide) (by decide) hl (HP0.out)).mono ?_
      rintro e x0 ⟨rfl, hbb⟩
      have HBx0 := Lib.hid hbb
      clear hbb
      go_wp2_with fail
      refine (rnums_no (word := wCycle) HC.out (by decide) (by decide) hl (HP0.out.below HBx0.out)).mono ?_
      rintro e x1 ⟨rfl, hbb⟩
      have HBx1 := Lib.hid (HBx0.out.trans (hbb.mono HBx0.out.size))
      clear hbb
      go_wp2_with fail
      refine (rnums_yes (word := wResolve) HR.out (by decide) (by decide) hl (HP0.out.below HBx1.out)).mono ?_
      rintro e x2 ⟨Ao, co, rfl, hoo, hbb⟩
      have HO := Lib.hid hoo
      clear hoo
      have HBx2 := Lib.hid (HBx1.out.trans (hbb.mono HBx1.out.size))
      clear hbb
      obtain ⟨g, hg, hgb, hgl, hgc⟩ := own_cells HO.out (by rw [hvs]; simp)
      subst hg
      have j0 := hgc 0 a (by rw [hvs]; rfl)
      have j1 := hgc 1 b2 (by rw [hvs]; rfl)
      have j2 := hgc 2 d2v (by rw [hvs]; rfl)
      have hne1 : ¬ g = w.heap.size := by have := HBx0.out.size; have := HBx1.out.size; have := HW0.out; omega
      have hne2 : ¬ w.heap.size = g := fun e => hne1 e.symm
      have HI2 := Lib.hid HO.out.2
      rw [hvs] at HI2
      clear hgc
      have HYES : Hid (stepP line = some ⟨3, 0, [], a, b2, d2v⟩) := Lib.hid (HSP.out.trans HYS.out)
      have KK := HRB.out.keep HBx2.out
      have HBK : Hid (Below w.heap.size w x2) := Lib.hid (HB0.out.trans (HBx2.out.mono HB0.out.size))
      have c0 := KK.cell 0
      have c1q := KK.cell 1
      have c2 := KK.cell 2
      have c3 := KK.cell 3
      have c4 := KK.cell 4
      have c5 := KK.cell 5
      have z0 := KK.frozen 0
      have z1 := KK.frozen 1
      have z2 := KK.frozen 2
      have z3 := KK.frozen 3
      have z4 := KK.frozen 4
      have z5 := KK.frozen 5
      simp only [List.getElem?_toArray, List.getElem?_cons_zero, List.getElem?_cons_succ] at c0 c1q c2 c3 c4 c5
      have U := (blk_st6 KK (.int .i64 3) (.int .i64 0) (.slice none 0 0) (.int .i64 a) (.int .i64 b2) (.int .i64 d2v)).keep (Below.refl _ _).drew
      have HBZ := (below_st6 HBK.out (.int .i64 3) (.int .i64 0) (.slice none 0 0) (.int .i64 a) (.int .i64 b2) (.int .i64 d2v)).drew
      unfold st6 at U HBZ
      have HU := Lib.hid U
      have HBZ := Lib.hid HBZ
      clear U KK
      go_upto_region 9 with fail
      clear hvs
      go_region_held3 (fun w' => w'.cell? ⟨g, 0, none⟩ = some (.int .i64 a) ∧ w'.cell? ⟨g, 1, none⟩ = some (.int .i64 b2) ∧ w'.cell? ⟨g, 2, none⟩ = some (.int .i64 d2v)) (go_keep) (fail)
      clear c0 c1q c2 c3 c4 c5 z0 z1 z2 z3 z4 z5
      clear j0 j1 j2
      generalize ((((((x2.setCell ⟨w.heap.size, 0, none⟩ (.int .i64 3)).setCell ⟨w.heap.size, 1, none⟩ (.int .i64 0)).setCell ⟨w.heap.size, 2, none⟩ (.slice none 0 0)).setCell ⟨w.heap.size, 3, none⟩ (.int .i64 a)).setCell ⟨w.heap.size, 4, none⟩ (.int .i64 b2)).setCell ⟨w.heap.size, 5, none⟩ (.int .i64 d2v)).drew = W9 at *
      go_wp2_with fail
      have u0 := HU.out.cell 0
      have u1 := HU.out.cell 1
      have u2 := HU.out.cell 2
      have u3 := HU.out.cell 3
      have u4 := HU.out.cell 4
      have u5 := HU.out.cell 5
      simp only [List.getElem?_toArray, List.getElem?_cons_zero, List.getElem?_cons_succ] at u0 u1 u2 u3 u4 u5
      exact bodyPost_ret (v := .tuple #[.agg #[.int .i64 3, .int .i64 0, .slice none 0 0, .int .i64 a, .int .i64 b2, .int .i64 d2v], .bool true]) (by simp [results, Tryd.results37, go_sem, u0, u1, u2, u3, u4, u5]) rfl ⟨HBZ.out, .inr ⟨⟨3, 0, [], a, b2, d2v⟩, none, 0, HYES.out, rfl, ⟨none, 0, rfl, by simp, by unfold maxLen; omega, by simp, by simp⟩, ⟨i64_3, i64_0, HI2.out a (by simp), HI2.out b2 (by simp), HI2.out d2v (by simp)⟩⟩⟩
    · have q1 : ((vs.length : Int) == 3) = false := by rw [beq_eq_false_iff_ne]; omega
      have HNS : Hid (stepOf wResolve vs = none) := Lib.hid (by unfold stepOf; rw [if_neg (fun e => absurd e.1 (by decide)), if_neg (by decide), if_neg (fun e => hln e.2), if_neg (fun e => absurd e.1 (by decide))])
      clear hln
      go_wp2_with fail
      refine (rnums_no (word := wInput) HI.out (by decide) (by decide) hl (HP0.out)).mono ?_
      rintro e x0 ⟨rfl, hbb⟩
      have HBx0 := Lib.hid hbb
      clear hbb
      go_wp2_with fail
      refine (rnums_no (word := wCycle) HC.out (by decide) (by decide) hl (HP0.out.below HBx0.out)).mono ?_
      rintro e x1 ⟨rfl, hbb⟩
      have HBx1 := Lib.hid (HBx0.out.trans (hbb.mono HBx0.out.size))
      clear hbb
      go_wp2_with fail
      refine (rnums_yes (word := wResolve) HR.out (by decide) (by decide) hl (HP0.out.below HBx1.out)).mono ?_
      rintro e x2 ⟨Ao, co, rfl, hoo, hbb⟩
      have HO := Lib.hid hoo
      clear hoo
      have HBx2 := Lib.hid (HBx1.out.trans (hbb.mono HBx1.out.size))
      clear hbb
      go_wp2_with fail
      refine (rnums_no (word := wStep) HS.out (by decide) (by decide) hl (HP0.out.below HBx2.out)).mono ?_
      rintro e x3 ⟨rfl, hbb⟩
      have HO : Hid (Own x3 _ (.slice Ao vs.length co) vs) := Lib.hid ⟨owns_keep HO.out.1 hbb, HO.out.2⟩
      have HBx3 := Lib.hid (HBx2.out.trans (hbb.mono HBx2.out.size))
      clear hbb
      have HNO : Hid (stepP line = none) := Lib.hid (HSP.out.trans HNS.out)
      have KK := HRB.out.keep HBx3.out
      have HBK : Hid (Below w.heap.size w x3) := Lib.hid (HB0.out.trans (HBx3.out.mono HB0.out.size))
      have c0 := KK.cell 0
      have c1q := KK.cell 1
      have c2 := KK.cell 2
      have c3 := KK.cell 3
      have c4 := KK.cell 4
      have c5 := KK.cell 5
      have z0 := KK.frozen 0
      have z1 := KK.frozen 1
      have z2 := KK.frozen 2
      have z3 := KK.frozen 3
      have z4 := KK.frozen 4
      have z5 := KK.frozen 5
      simp only [List.getElem?_toArray, List.getElem?_cons_zero, List.getElem?_cons_succ] at c0 c1q c2 c3 c4 c5
      have U := blk_st6 KK (.int .i64 0) (.int .i64 0) (.slice none 0 0) (.int .i64 0) (.int .i64 0) (.int .i64 0)
      have HBZ := below_st6 HBK.out (.int .i64 0) (.int .i64 0) (.slice none 0 0) (.int .i64 0) (.int .i64 0) (.int .i64 0)
      have HGZ := grown_st6 x3 w.heap.size (.int .i64 0) (.int .i64 0) (.slice none 0 0) (.int .i64 0) (.int .i64 0) (.int .i64 0)
      unfold st6 at U HBZ HGZ
      have HU := Lib.hid U
      have HBZ := Lib.hid HBZ
      have HGZ := Lib.hid HGZ
      clear U KK
      go_wp2_with fail
      clear c0 c1q c2 c3 c4 c5 z0 z1 z2 z3 z4 z5
      generalize (((((x3.setCell ⟨w.heap.size, 0, none⟩ (.int .i64 0)).setCell ⟨w.heap.size, 1, none⟩ (.int .i64 0)).setCell ⟨w.heap.size, 2, none⟩ (.slice none 0 0)).setCell ⟨w.heap.size, 3, none⟩ (.int .i64 0)).setCell ⟨w.heap.size, 4, none⟩ (.int .i64 0)).setCell ⟨w.heap.size, 5, none⟩ (.int .i64 0) = W9 at *
      have u0 := HU.out.cell 0
      have u1 := HU.out.cell 1
      have u2 := HU.out.cell 2
      have u3 := HU.out.cell 3
      have u4 := HU.out.cell 4
      have u5 := HU.out.cell 5
      simp only [List.getElem?_toArray, List.getElem?_cons_zero, List.getElem?_cons_succ] at u0 u1 u2 u3 u4 u5
      exact bodyPost_ret (v := .tuple #[.agg #[.int .i64 0, .int .i64 0, .slice none 0 0, .int .i64 0, .int .i64 0, .int .i64 0], .bool false]) (by simp [results, Tryd.results37, go_sem, u0, u1, u2, u3, u4, u5]) rfl ⟨HBZ.out, .inl ⟨HNO.out, rfl⟩⟩
  · by_cases hln : vs.length = 1
    · obtain ⟨a, hvs⟩ : ∃ a, vs = [a] := by
        match vs, hln with
        | [a], _ => exact ⟨a, rfl⟩
      have HSO : Hid (stepOf wStep vs = if a < 1 ∨ 3 < a then some ⟨a, 0, [], 0, 0, 0⟩ else none) := Lib.hid (by
        rw [hvs]; unfold stepOf
        rw [if_neg (fun e => absurd e.1 (by decide)), if_neg (by decide), if_neg (fun e => absurd e.1 (by decide))]
        by_cases hc : a < 1 ∨ 3 < a
        · rw [if_pos hc, if_pos ⟨rfl, rfl, hc⟩]; rfl
        · rw [if_neg hc, if_neg (fun e => hc e.2.2)])
      clear hln
      by_cases ha : a < 1
      · have d1 : decide (a < 1) = true := by simpa using ha
        have HYS : Hid (stepOf wStep vs = some ⟨a, 0, [], 0, 0, 0⟩) := Lib.hid (by rw [HSO.out, if_pos (.inl ha)])
        clear ha
        go_wp2_with fail
        refine (rnums_no (word := wInput) HI.out (by decide) (by decide) hl (HP0.out)).mono ?_
        rintro e x0 ⟨rfl, hbb⟩
        have HBx0 := Lib.hid hbb
        clear hbb
        go_wp2_with fail
        refine (rnums_no (word := wCycle) HC.out (by decide) (by decide) hl (HP0.out.below HBx0.out)).mono ?_
        rintro e x1 ⟨rfl, hbb⟩
        have HBx1 := Lib.hid (HBx0.out.trans (hbb.mono HBx0.out.size))
        clear hbb
        go_wp2_with fail
        refine (rnums_no (word := wResolve) HR.out (by decide) (by decide) hl (HP0.out.below HBx1.out)).mono ?_
        rintro e x2 ⟨rfl, hbb⟩
        have HBx2 := Lib.hid (HBx1.out.trans (hbb.mono HBx1.out.size))
        clear hbb
        go_wp2_with fail
        refine (rnums_yes (word := wStep) HS.out (by decide) (by decide) hl (HP0.out.below HBx2.out)).mono ?_
        rintro e x3 ⟨Ao, co, rfl, hoo, hbb⟩
        have HO := Lib.hid hoo
        clear hoo
        have HBx3 := Lib.hid (HBx2.out.trans (hbb.mono HBx2.out.size))
        clear hbb
        obtain ⟨g, hg, -, hgl, hgc⟩ := own_cells HO.out (by rw [hvs]; simp)
        subst hg
        have j0 := hgc 0 a (by rw [hvs]; rfl)
        have HI2 := Lib.hid HO.out.2
        rw [hvs] at HI2
        have HYES : Hid (stepP line = some ⟨a, 0, [], 0, 0, 0⟩) := Lib.hid (HSP.out.trans HYS.out)
        have KK := HRB.out.keep HBx3.out
        have HBK : Hid (Below w.heap.size w x3) := Lib.hid (HB0.out.trans (HBx3.out.mono HB0.out.size))
        have c0 := KK.cell 0
        have c1q := KK.cell 1
        have c2 := KK.cell 2
        have c3 := KK.cell 3
        have c4 := KK.cell 4
        have c5 := KK.cell 5
        have z0 := KK.frozen 0
        have z1 := KK.frozen 1
        have z2 := KK.frozen 2
        have z3 := KK.frozen 3
        have z4 := KK.frozen 4
        have z5 := KK.frozen 5
        simp only [List.getElem?_toArray, List.getElem?_cons_zero, List.getElem?_cons_succ] at c0 c1q c2 c3 c4 c5
        have U := blk_st6 KK (.int .i64 a) (.int .i64 0) (.slice none 0 0) (.int .i64 0) (.int .i64 0) (.int .i64 0)
        have HBZ := below_st6 HBK.out (.int .i64 a) (.int .i64 0) (.slice none 0 0) (.int .i64 0) (.int .i64 0) (.int .i64 0)
        have HGZ := grown_st6 x3 w.heap.size (.int .i64 a) (.int .i64 0) (.slice none 0 0) (.int .i64 0) (.int .i64 0) (.int .i64 0)
        unfold st6 at U HBZ HGZ
        have HU := Lib.hid U
        have HBZ := Lib.hid HBZ
        have HGZ := Lib.hid HGZ
        clear U KK
        go_wp2_with fail
        clear c0 c1q c2 c3 c4 c5 z0 z1 z2 z3 z4 z5
        generalize (((((x3.setCell ⟨w.heap.size, 0, none⟩ (.int .i64 a)).setCell ⟨w.heap.size, 1, none⟩ (.int .i64 0)).setCell ⟨w.heap.size, 2, none⟩ (.slice none 0 0)).setCell ⟨w.heap.size, 3, none⟩ (.int .i64 0)).setCell ⟨w.heap.size, 4, none⟩ (.int .i64 0)).setCell ⟨w.heap.size, 5, none⟩ (.int .i64 0) = W9 at *
        have u0 := HU.out.cell 0
        have u1 := HU.out.cell 1
        have u2 := HU.out.cell 2
        have u3 := HU.out.cell 3
        have u4 := HU.out.cell 4
        have u5 := HU.out.cell 5
        simp only [List.getElem?_toArray, List.getElem?_cons_zero, List.getElem?_cons_succ] at u0 u1 u2 u3 u4 u5
        exact bodyPost_ret (v := .tuple #[.agg #[.int .i64 a, .int .i64 0, .slice none 0 0, .int .i64 0, .int .i64 0, .int .i64 0], .bool true]) (by simp [results, Tryd.results37, go_sem, u0, u1, u2, u3, u4, u5]) rfl ⟨HBZ.out, .inr ⟨⟨a, 0, [], 0, 0, 0⟩, none, 0, HYES.out, rfl, ⟨none, 0, rfl, by simp, by unfold maxLen; omega, by simp, by simp⟩, ⟨HI2.out a (by simp), i64_0, i64_0, i64_0, i64_0⟩⟩⟩
      · have d1 : decide (a < 1) = false := by simpa using ha
        by_cases hb : 3 < a
        · have d2 : decide (3 < a) = true := by simpa using hb
          have HYS : Hid (stepOf wStep vs = some ⟨a, 0, [], 0, 0, 0⟩) := Lib.hid (by rw [HSO.out, if_pos (.inr hb)])
          clear ha hb
          go_wp2_with fail
          refine (rnums_no (word := wInput) HI.out (by decide) (by decide) hl (HP0.out)).mono ?_
          rintro e x0 ⟨rfl, hbb⟩
          have HBx0 := Lib.hid hbb
          clear hbb
          go_wp2_with fail
          refine (rnums_no (word := wCycle) HC.out (by decide) (by decide) hl (HP0.out.below HBx0.out)).mono ?_
          rintro e x1 ⟨rfl, hbb⟩
          have HBx1 := Lib.hid (HBx0.out.trans (hbb.mono HBx0.out.size))
          clear hbb
          go_wp2_with fail
          refine (rnums_no (word := wResolve) HR.out (by decide) (by decide) hl (HP0.out.below HBx1.out)).mono ?_
          rintro e x2 ⟨rfl, hbb⟩
          have HBx2 := Lib.hid (HBx1.out.trans (hbb.mono HBx1.out.size))
          clear hbb
          go_wp2_with fail
          refine (rnums_yes (word := wStep) HS.out (by decide) (by decide) hl (HP0.out.below HBx2.out)).mono ?_
          rintro e x3 ⟨Ao, co, rfl, hoo, hbb⟩
          have HO := Lib.hid hoo
          clear hoo
          have HBx3 := Lib.hid (HBx2.out.trans (hbb.mono HBx2.out.size))
          clear hbb
          obtain ⟨g, hg, -, hgl, hgc⟩ := own_cells HO.out (by rw [hvs]; simp)
          subst hg
          have j0 := hgc 0 a (by rw [hvs]; rfl)
          have HI2 := Lib.hid HO.out.2
          rw [hvs] at HI2
          have HYES : Hid (stepP line = some ⟨a, 0, [], 0, 0, 0⟩) := Lib.hid (HSP.out.trans HYS.out)
          have KK := HRB.out.keep HBx3.out
          have HBK : Hid (Below w.heap.size w x3) := Lib.hid (HB0.out.trans (HBx3.out.mono HB0.out.size))
          have c0 := KK.cell 0
          have c1q := KK.cell 1
          have c2 := KK.cell 2
          have c3 := KK.cell 3
          have c4 := KK.cell 4
          have c5 := KK.cell 5
          have z0 := KK.frozen 0
          have z1 := KK.frozen 1
          have z2 := KK.frozen 2
          have z3 := KK.frozen 3
          have z4 := KK.frozen 4
          have z5 := KK.frozen 5
          simp only [List.getElem?_toArray, List.getElem?_cons_zero, List.getElem?_cons_succ] at c0 c1q c2 c3 c4 c5
          have U := blk_st6 KK (.int .i64 a) (.int .i64 0) (.slice none 0 0) (.int .i64 0) (.int .i64 0) (.int .i64 0)
          have HBZ := below_st6 HBK.out (.int .i64 a) (.int .i64 0) (.slice none 0 0) (.int .i64 0) (.int .i64 0) (.int .i64 0)
          have HGZ := grown_st6 x3 w.heap.size (.int .i64 a) (.int .i64 0) (.slice none 0 0) (.int .i64 0) (.int .i64 0) (.int .i64 0)
          unfold st6 at U HBZ HGZ
          have HU := Lib.hid U
          have HBZ := Lib.hid HBZ
          have HGZ := Lib.hid HGZ
          clear U KK
          go_wp2_with fail
          clear c0 c1q c2 c3 c4 c5 z0 z1 z2 z3 z4 z5
          generalize (((((x3.setCell ⟨w.heap.size, 0, none⟩ (.int .i64 a)).setCell ⟨w.heap.size, 1, none⟩ (.int .i64 0)).setCell ⟨w.heap.size, 2, none⟩ (.slice none 0 0)).setCell ⟨w.heap.size, 3, none⟩ (.int .i64 0)).setCell ⟨w.heap.size, 4, none⟩ (.int .i64 0)).setCell ⟨w.heap.size, 5, none⟩ (.int .i64 0) = W9 at *
          have u0 := HU.out.cell 0
          have u1 := HU.out.cell 1
          have u2 := HU.out.cell 2
          have u3 := HU.out.cell 3
          have u4 := HU.out.cell 4
          have u5 := HU.out.cell 5
          simp only [List.getElem?_toArray, List.getElem?_cons_zero, List.getElem?_cons_succ] at u0 u1 u2 u3 u4 u5
          exact bodyPost_ret (v := .tuple #[.agg #[.int .i64 a, .int .i64 0, .slice none 0 0, .int .i64 0, .int .i64 0, .int .i64 0], .bool true]) (by simp [results, Tryd.results37, go_sem, u0, u1, u2, u3, u4, u5]) rfl ⟨HBZ.out, .inr ⟨⟨a, 0, [], 0, 0, 0⟩, none, 0, HYES.out, rfl, ⟨none, 0, rfl, by simp, by unfold maxLen; omega, by simp, by simp⟩, ⟨HI2.out a (by simp), i64_0, i64_0, i64_0, i64_0⟩⟩⟩
        · have d2 : decide (3 < a) = false := by simpa using hb
          have HNS : Hid (stepOf wStep vs = none) := Lib.hid (by rw [HSO.out, if_neg (by omega)])
          clear ha hb
          go_wp2_with fail
          refine (rnums_no (word := wInput) HI.out (by decide) (by decide) hl (HP0.out)).mono ?_
          rintro e x0 ⟨rfl, hbb⟩
          have HBx0 := Lib.hid hbb
          clear hbb
          go_wp2_with fail
          refine (rnums_no (word := wCycle) HC.out (by decide) (by decide) hl (HP0.out.below HBx0.out)).mono ?_
          rintro e x1 ⟨rfl, hbb⟩
          have HBx1 := Lib.hid (HBx0.out.trans (hbb.mono HBx0.out.size))
          clear hbb
          go_wp2_with fail
          refine (rnums_no (word := wResolve) HR.out (by decide) (by decide) hl (HP0.out.below HBx1.out)).mono ?_
          rintro e x2 ⟨rfl, hbb⟩
          have HBx2 := Lib.hid (HBx1.out.trans (hbb.mono HBx1.out.size))
          clear hbb
          go_wp2_with fail
          refine (rnums_yes (word := wStep) HS.out (by decide) (by decide) hl (HP0.out.below HBx2.out)).mono ?_
          rintro e x3 ⟨Ao, co, rfl, hoo, hbb⟩
          have HO := Lib.hid hoo
          clear hoo
          have HBx3 := Lib.hid (HBx2.out.trans (hbb.mono HBx2.out.size))
          clear hbb
          obtain ⟨g, hg, -, hgl, hgc⟩ := own_cells HO.out (by rw [hvs]; simp)
          subst hg
          have j0 := hgc 0 a (by rw [hvs]; rfl)
          have HI2 := Lib.hid HO.out.2
          rw [hvs] at HI2
          have HNO : Hid (stepP line = none) := Lib.hid (HSP.out.trans HNS.out)
          have KK := HRB.out.keep HBx3.out
          have HBK : Hid (Below w.heap.size w x3) := Lib.hid (HB0.out.trans (HBx3.out.mono HB0.out.size))
          have c0 := KK.cell 0
          have c1q := KK.cell 1
          have c2 := KK.cell 2
          have c3 := KK.cell 3
          have c4 := KK.cell 4
          have c5 := KK.cell 5
          have z0 := KK.frozen 0
          have z1 := KK.frozen 1
          have z2 := KK.frozen 2
          have z3 := KK.frozen 3
          have z4 := KK.frozen 4
          have z5 := KK.frozen 5
          simp only [List.getElem?_toArray, List.getElem?_cons_zero, List.getElem?_cons_succ] at c0 c1q c2 c3 c4 c5
          have U := blk_st6 KK (.int .i64 0) (.int .i64 0) (.slice none 0 0) (.int .i64 0) (.int .i64 0) (.int .i64 0)
          have HBZ := below_st6 HBK.out (.int .i64 0) (.int .i64 0) (.slice none 0 0) (.int .i64 0) (.int .i64 0) (.int .i64 0)
          have HGZ := grown_st6 x3 w.heap.size (.int .i64 0) (.int .i64 0) (.slice none 0 0) (.int .i64 0) (.int .i64 0) (.int .i64 0)
          unfold st6 at U HBZ HGZ
          have HU := Lib.hid U
          have HBZ := Lib.hid HBZ
          have HGZ := Lib.hid HGZ
          clear U KK
          go_wp2_with fail
          clear c0 c1q c2 c3 c4 c5 z0 z1 z2 z3 z4 z5
          generalize (((((x3.setCell ⟨w.heap.size, 0, none⟩ (.int .i64 0)).setCell ⟨w.heap.size, 1, none⟩ (.int .i64 0)).setCell ⟨w.heap.size, 2, none⟩ (.slice none 0 0)).setCell ⟨w.heap.size, 3, none⟩ (.int .i64 0)).setCell ⟨w.heap.size, 4, none⟩ (.int .i64 0)).setCell ⟨w.heap.size, 5, none⟩ (.int .i64 0) = W9 at *
          have u0 := HU.out.cell 0
          have u1 := HU.out.cell 1
          have u2 := HU.out.cell 2
          have u3 := HU.out.cell 3
          have u4 := HU.out.cell 4
          have u5 := HU.out.cell 5
          simp only [List.getElem?_toArray, List.getElem?_cons_zero, List.getElem?_cons_succ] at u0 u1 u2 u3 u4 u5
          exact bodyPost_ret (v := .tuple #[.agg #[.int .i64 0, .int .i64 0, .slice none 0 0, .int .i64 0, .int .i64 0, .int .i64 0], .bool false]) (by simp [results, Tryd.results37, go_sem, u0, u1, u2, u3, u4, u5]) rfl ⟨HBZ.out, .inl ⟨HNO.out, rfl⟩⟩
    · have q1 : ((vs.length : Int) == 1) = false := by rw [beq_eq_false_iff_ne]; omega
      have HNS : Hid (stepOf wStep vs = none) := Lib.hid (by unfold stepOf; rw [if_neg (fun e => absurd e.1 (by decide)), if_neg (by decide), if_neg (fun e => absurd e.1 (by decide)), if_neg (fun e => hln e.2.1)])
      clear hln
      go_wp2_with fail
      refine (rnums_no (word := wInput) HI.out (by decide) (by decide) hl (HP0.out)).mono ?_
      rintro e x0 ⟨rfl, hbb⟩
      have HBx0 := Lib.hid hbb
      clear hbb
      go_wp2_with fail
      refine (rnums_no (word := wCycle) HC.out (by decide) (by decide) hl (HP0.out.below HBx0.out)).mono ?_
      rintro e x1 ⟨rfl, hbb⟩
      have HBx1 := Lib.hid (HBx0.out.trans (hbb.mono HBx0.out.size))
      clear hbb
      go_wp2_with fail
      refine (rnums_no (word := wResolve) HR.out (by decide) (by decide) hl (HP0.out.below HBx1.out)).mono ?_
      rintro e x2 ⟨rfl, hbb⟩
      have HBx2 := Lib.hid (HBx1.out.trans (hbb.mono HBx1.out.size))
      clear hbb
      go_wp2_with fail
      refine (rnums_yes (word := wStep) HS.out (by decide) (by decide) hl (HP0.out.below HBx2.out)).mono ?_
      rintro e x3 ⟨Ao, co, rfl, hoo, hbb⟩
      have HO := Lib.hid hoo
      clear hoo
      have HBx3 := Lib.hid (HBx2.out.trans (hbb.mono HBx2.out.size))
      clear hbb
      have HNO : Hid (stepP line = none) := Lib.hid (HSP.out.trans HNS.out)
      have KK := HRB.out.keep HBx3.out
      have HBK : Hid (Below w.heap.size w x3) := Lib.hid (HB0.out.trans (HBx3.out.mono HB0.out.size))
      have c0 := KK.cell 0
      have c1q := KK.cell 1
      have c2 := KK.cell 2
      have c3 := KK.cell 3
      have c4 := KK.cell 4
      have c5 := KK.cell 5
      have z0 := KK.frozen 0
      have z1 := KK.frozen 1
      have z2 := KK.frozen 2
      have z3 := KK.frozen 3
      have z4 := KK.frozen 4
      have z5 := KK.frozen 5
      simp only [List.getElem?_toArray, List.getElem?_cons_zero, List.getElem?_cons_succ] at c0 c1q c2 c3 c4 c5
      have U := blk_st6 KK (.int .i64 0) (.int .i64 0) (.slice none 0 0) (.int .i64 0) (.int .i64 0) (.int .i64 0)
      have HBZ := below_st6 HBK.out (.int .i64 0) (.int .i64 0) (.slice none 0 0) (.int .i64 0) (.int .i64 0) (.int .i64 0)
      have HGZ := grown_st6 x3 w.heap.size (.int .i64 0) (.int .i64 0) (.slice none 0 0) (.int .i64 0) (.int .i64 0) (.int .i64 0)
      unfold st6 at U HBZ HGZ
      have HU := Lib.hid U
      have HBZ := Lib.hid HBZ
      have HGZ := Lib.hid HGZ
      clear U KK
      go_wp2_with fail
      clear c0 c1q c2 c3 c4 c5 z0 z1 z2 z3 z4 z5
      generalize (((((x3.setCell ⟨w.heap.size, 0, none⟩ (.int .i64 0)).setCell ⟨w.heap.size, 1, none⟩ (.int .i64 0)).setCell ⟨w.heap.size, 2, none⟩ (.slice none 0 0)).setCell ⟨w.heap.size, 3, none⟩ (.int .i64 0)).setCell ⟨w.heap.size, 4, none⟩ (.int .i64 0)).setCell ⟨w.heap.size, 5, none⟩ (.int .i64 0) = W9 at *
      have u0 := HU.out.cell 0
      have u1 := HU.out.cell 1
      have u2 := HU.out.cell 2
      have u3 := HU.out.cell 3
      have u4 := HU.out.cell 4
      have u5 := HU.out.cell 5
      simp only [List.getElem?_toArray, List.getElem?_cons_zero, List.getElem?_cons_succ] at u0 u1 u2 u3 u4 u5
      exact bodyPost_ret (v := .tuple #[.agg #[.int .i64 0, .int .i64 0, .slice none 0 0, .int .i64 0, .int .i64 0, .int .i64 0], .bool false]) (by simp [results, Tryd.results37, go_sem, u0, u1, u2, u3, u4, u5]) rfl ⟨HBZ.out, .inl ⟨HNO.out, rfl⟩⟩
end Go.Proofs.YtfffalfnjficaaaDoor
