/-
  WALK: interleaveref31.ParseSteps.
-/
import Derived.Test.YtfffalfnjficaaaDoorRefStep
import Derived.Test.YtfffalfnjficaaaDoorRefLines
import Derived.Test.YtfffalfnjficaaaDoorStepsEnd
namespace Go.Proofs.YtfffalfnjficaaaDoor
open Go.RowKit

set_option maxRecDepth 100000 in
set_option maxHeartbeats 8000000 in
theorem rsteps_ref (s : List UInt8) (w : World) (hl : s.length ≤ 900000) (hp : PL w) :
    Calls Tryd.prog 18 #[.string ⟨s.toArray⟩] w (StepsEnd w s) := by
  obtain ⟨iT, hiT, hzT0, hzT1, hzT2⟩ := info_parts info_stepP
  have HPL := Lib.hid hp
  clear hp
  go_enter Tryd.func18, Tryd.ntmps18
  go_wp2_with fail
  refine (rlines_any s w hl HPL.out).mono ?_
  rintro e w3 ⟨A, k, last, ls, hls, rfl, htx, hb, -⟩
  have HB3 := Lib.hid hb
  have HLS := Lib.hid hls
  have HP3 := Lib.hid (HPL.out.below hb)
  have HPN : Hid (ls.length + 1 = (pieces 10 s).length) := Lib.hid (by rw [hls]; simp)
  have hlsn : ls.length ≤ 1000000 := by have := pieces_len 10 s; have := HPN.out; omega
  obtain ⟨A', c', ex, kx1, kx2, hrd⟩ := htx
  injection ex with ex1 ex2 ex3
  subst ex1 ex3
  have HRD := Lib.hid hrd
  unfold maxLen at kx2
  clear hls hb ex2 hrd
  go_wp2_with fail
  go_loopw [5, 19] (fun v iv wr => ∃ (ps : List (Stp × Value)) (r : List UInt8), ps.length ≤ ls.length ∧ iv = .int .i64 ps.length ∧ Hid (OwnStps wr w3.heap.size (fun b => w3.heap.size ≤ b) v ps) ∧ Hid (RdP s ps.length (ps.map (·.1)) r) ∧ Hid (Below w3.heap.size w3 wr)) (fun _ iv _ => ls.length - (intOf iv).toNat)
  case atStart => exact ⟨[], s, by simp, rfl, Lib.hid (OwnStps.nil _ _ _), Lib.hid (RdP.start s), Lib.hid (Below.refl _ _)⟩
  case round =>
    obtain ⟨ps, r, hi, rfl, HOS, HRL, HB⟩ := hrel
    have HPW : Hid (PL wr) := Lib.hid (HP3.out.below HB.out)
    have HBW : Hid (Below w.heap.size w wr) := Lib.hid (HB3.out.trans (HB.out.mono HB3.out.size))
    obtain ⟨Ao, co, hA, -, -, -⟩ := owns_rd HOS.out.1
    subst hA
    by_cases hlt : ps.length < ls.length
    · obtain ⟨line, hline⟩ : ∃ line, ls[ps.length]? = some line := ⟨_, List.getElem?_eq_getElem hlt⟩
      have hpl : (pieces 10 s)[ps.length]? = some line := by rw [HLS.out, List.getElem?_append_left hlt]; exact hline
      have hll : line.length ≤ 900000 := by have := (pieces_mem (List.mem_of_getElem? hpl)).2; omega
      obtain ⟨b, off, rfl, hbl, hcl0⟩ := HRD.out.at_ (k := ps.length) (u := .string ⟨line.toArray⟩) (by rw [List.getElem?_map, hline]; rfl)
      have hcline : wr.cell? ⟨b, off + ps.length, none⟩ = some (.string ⟨line.toArray⟩) := (HB.out.cell (p := ⟨b, off + ps.length, none⟩) hbl).trans hcl0
      have hbw : b < wr.heap.size := Nat.lt_of_lt_of_le hbl HB.out.size
      have HPI : Hid ((pieces 10 s)[ps.length]? = some line ∧ ps.length + 1 < (pieces 10 s).length) := Lib.hid ⟨hpl, by have := HPN.out; omega⟩
      clear hline hpl hcl0 hbl
      go_wp2_with fail
      refine (rstep_any line wr hll HPW.out).mono ?_
      rintro e w6 ⟨hb6, hret⟩
      have HB6 := Lib.hid hb6
      clear hb6
      rcases hret with ⟨hno, rfl⟩ | ⟨x, A6, c6, hso, rfl, hi6, hok6⟩
      · have HBAD : Hid (RunP [] 1 s (.bad (ps.length + 1))) := Lib.hid (HRL.out.stepBad HPI.out.2 HPI.out.1 hno)
        clear hno
        unfold zSt
        go_wp2_with fail
        go_ret3
        exact ⟨(HBW.out.trans (HB6.out.mono HBW.out.size)).alloc (Nat.le_trans HBW.out.size HB6.out.size) _, .inr ⟨_, HBAD.out, rfl⟩⟩
      · have HOS6 := Lib.hid (HOS.out.keep HB6.out)
        have HI6 : Hid (IntsO w6 (fun b => w3.heap.size ≤ b ∧ some b ≠ (Value.slice Ao ps.length co).ownBlock) (.slice A6 x.lits.length c6) x.lits) := Lib.hid (hi6.mono fun b _ hb => ⟨Nat.le_trans HB.out.size hb, fun e => by have := (HOS.out.1.lt b e.symm).2; omega⟩)
        have HOK := Lib.hid hok6
        obtain ⟨t, hrl⟩ := HRL.out.step HPI.out.2 HPI.out.1 hso
        have HRL2 := Lib.hid hrl
        have HBN : Hid (Below w3.heap.size w3 w6) := Lib.hid (HB.out.trans (HB6.out.mono HB.out.size))
        clear hrl hi6 hok6 hso
        rw [show Stp.val x (.slice A6 x.lits.length c6) = .agg #[.int .i64 x.kind, .int .i64 x.index, .slice A6 x.lits.length c6, .int .i64 x.p, .int .i64 x.q, .int .i64 x.var] from rfl]
        have HO : Hid (∀ u ∈ ([.int .i64 x.kind, .int .i64 x.index, .slice A6 x.lits.length c6, .int .i64 x.p, .int .i64 x.q, .int .i64 x.var] : List Value), u.oneCell' = true) := by
          refine Lib.hid ?_
          intro u hu; simp at hu; rcases hu with rfl | rfl | rfl | rfl | rfl | rfl <;> rfl
        have H63 : Hid (ps.length + 1 ≤ maxLen) := by refine Lib.hid ?_; unfold maxLen; omega
        have HBY : Hid ((ps.length + 1) * 64 ≤ 140737488355328) := by refine Lib.hid ?_; omega
        have HBA : Hid (w3.heap.size ≤ ((w6.alloc (.cells #[.int .i64 x.kind, .int .i64 x.index, .slice A6 x.lits.length c6, .int .i64 x.p, .int .i64 x.q, .int .i64 x.var] 81)).alloc (.cells #[.int .i64 x.kind, .int .i64 x.index, .slice A6 x.lits.length c6, .int .i64 x.p, .int .i64 x.q, .int .i64 x.var] 81)).heap.size) := by refine Lib.hid ?_; have := HBN.out.size; simp; omega
        have hb6a : Below w6.heap.size w6 (w6.alloc (.cells #[.int .i64 x.kind, .int .i64 x.index, .slice A6 x.lits.length c6, .int .i64 x.p, .int .i64 x.q, .int .i64 x.var] 81)) := (Below.refl _ _).alloc (Nat.le_refl _) _
        have HOS6a := Lib.hid (HOS6.out.keep hb6a)
        have HI6a := Lib.hid (HI6.out.keep hb6a)
        have HBNa := Lib.hid (HBN.out.trans (hb6a.mono HBN.out.size))
        have hca := cells_at (w6.alloc (.cells #[.int .i64 x.kind, .int .i64 x.index, .slice A6 x.lits.length c6, .int .i64 x.p, .int .i64 x.q, .int .i64 x.var] 81)) 81 [.int .i64 x.kind, .int .i64 x.index, .slice A6 x.lits.length c6, .int .i64 x.p, .int .i64 x.q, .int .i64 x.var] rfl
        rw [show (w6.alloc (.cells #[.int .i64 x.kind, .int .i64 x.index, .slice A6 x.lits.length c6, .int .i64 x.p, .int .i64 x.q, .int .i64 x.var] 81)).heap.size = w6.heap.size + 1 by simp] at hca
        have HCA := Lib.hid hca
        clear hca hb6a
        go_wp2_with (at_builtin; refine wpList_append_own_at _ rfl _ _ 43 rfl w3.heap.size 81 iT _ 6 64 Tryd.underlying43 hiT hzT0 hzT1 hzT2 rfl (by decide) _ _ _ rfl (HOS6a.out.1.alloc _) ⟨w6.heap.size + 1, 0, none⟩ 1 1 [.int .i64 x.kind, .int .i64 x.index, .slice A6 x.lits.length c6, .int .i64 x.p, .int .i64 x.q, .int .i64 x.var] rfl rfl HCA.out HO.out H63.out HBY.out HBA.out ?_)
        intro v7 w7 hown hgrow _ hat
        have HOS7 := Lib.hid (HOS6a.out.push (s := x) (lv := .slice A6 x.lits.length c6) HI6a.out HOK.out hown hgrow (by simpa using hat))
        have HB7 : Hid (Below w3.heap.size w3 w7) := Lib.hid ((HBNa.out.alloc HBNa.out.size _).grown hgrow (by have := HBNa.out.size; simp at *; omega) fun k e => by have := HOS6a.out.1.lt k e; omega)
        obtain ⟨A7, c7, e7, -, -, -⟩ := owns_rd hown
        subst e7
        clear hown hgrow hat HO H63 HBY HBA
        go_wp2_with fail
        go_roundw
        case rel => exact ⟨ps ++ [(x, .slice A6 x.lits.length c6)], t, by simp; omega, by simp, by simpa using HOS7, by simpa using HRL2, HB7⟩
        case measure => simp [intOf]; omega
    · obtain hpe : ps.length = ls.length := by omega
      have HPE : Hid (ps.length = ls.length) := Lib.hid hpe
      have hpi : (pieces 10 s)[ps.length]? = some last := by rw [HLS.out, List.getElem?_append_right (by omega), hpe, Nat.sub_self]; rfl
      have HPI := Lib.hid hpi
      have HPN2 : Hid (ps.length + 1 = (pieces 10 s).length) := Lib.hid (by rw [hpe]; exact HPN.out)
      clear hpi hpe
      by_cases hla : last = []
      · subst hla
        have HOK : Hid (RunP [] 1 s (.ok (ps.map (·.1)))) := Lib.hid (HRL.out.endOk HPN2.out HPI.out)
        go_wp2_with fail
        go_ret3
        exact ⟨HBW.out, .inl ⟨_, _, HOK.out, rfl, HOS.out.stps⟩⟩
      · have q0 : (last == []) = false := by rw [beq_eq_false_iff_ne]; exact hla
        have HBAD : Hid (RunP [] 1 s (.bad (ps.length + 1))) := Lib.hid (HRL.out.endBad HPN2.out HPI.out hla)
        clear hla
        go_wp2_with fail
        go_ret3
        exact ⟨HBW.out, .inr ⟨_, HBAD.out, by rw [HPE.out]; rfl⟩⟩
end Go.Proofs.YtfffalfnjficaaaDoor
