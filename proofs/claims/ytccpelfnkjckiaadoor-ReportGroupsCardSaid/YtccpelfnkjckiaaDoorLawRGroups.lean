/-
  WALK: interleavelaw39.ReportGroups.
-/
import Derived.Test.YtccpelfnkjckiaaDoorFindings
import Derived.Test.YtccpelfnkjckiaaDoorRepGrpR
import Derived.Test.YtccpelfnkjckiaaDoorRepSame
namespace Go.Proofs.YtccpelfnkjckiaaDoor
open Go.RowKit

set_option maxRecDepth 100000 in
set_option maxHeartbeats 4000000 in
theorem lawRGroups (v : Value) (fs : List (FIn × (Option Addr × Nat))) (w : World) (h : FIns w v fs) (hT : Tab w) (hW : WordsAt w) :
    Calls Tryd.prog 5 #[v] w fun e w' => e = .returned (.bool true) ∧ Below w.heap.size w w' := by
  have HAW := Lib.hid (awake39_from hT hW)
  have HFI := Lib.hid h
  clear hT hW h
  go_enter Tryd.func5, Tryd.ntmps5
  go_wp2_with fail
  refine (findings_any v fs w HFI.out).mono ?_
  rintro e w1 ⟨fv, ps, rfl, hown, hl, hb1⟩
  obtain ⟨A, c, rfl, h1, h2, hr, hok, hs⟩ := hown.fnds
  have HB1 := Lib.hid hb1
  have HR := Lib.hid hr
  have HOK := Lib.hid hok
  have HPL : Hid (ps.length ≤ 1000000 ∧ ∀ q ∈ ps, q.1.sites.length ≤ 1000000) := Lib.hid ⟨by omega, fun q hq => by have := hs q hq; omega⟩
  clear hb1 hr hok hs hown hl
  go_wp2_with fail
  refine (group_any ps A c w1 HR.out HOK.out HPL.out.1 HPL.out.2).mono ?_
  rintro e w2 ⟨v, qs, rfl, hown, hrep, hb2⟩
  have HB2 := Lib.hid hb2
  have HRP := Lib.hid hown.reps
  have HIR := Lib.hid hrep
  clear hown hrep hb2
  go_wp2_with fail
  refine (rgroup_any ps A c w2 (HR.out.keep HB2.out) (fun q hq => (HOK.out q hq).keep HB2.out) HPL.out.1 HPL.out.2).mono ?_
  rintro e w3 ⟨v', qs', rfl, hrq, hrep, hb3⟩
  have HB3 := Lib.hid (HB1.out.trans ((HB2.out.trans (hb3.mono HB2.out.size)).mono HB1.out.size))
  have HR1 : Hid (Reps w3 v (qs.map (·.1))) := Lib.hid (HRP.out.keep hb3)
  have HR2 : Hid (Reps w3 v' (qs.map (·.1))) := Lib.hid (by rw [reports_unique HIR.out hrep]; exact hrq.reps)
  clear hrq hrep hb3
  go_wp2_with fail
  refine (srep_same v v' _ w3 HR1.out HR2.out).mono ?_
  rintro e w4 ⟨rfl, n, rfl⟩
  go_wp2_with fail
  refine (HAW.out _ (bdrew HB3.out n)).mono ?_
  rintro e w' ⟨rfl, hb⟩
  have HB := Lib.hid hb
  clear hb
  go_wp2_with fail
  go_ret
  exact ⟨rfl, HB.out⟩
end Go.Proofs.YtccpelfnkjckiaaDoor
