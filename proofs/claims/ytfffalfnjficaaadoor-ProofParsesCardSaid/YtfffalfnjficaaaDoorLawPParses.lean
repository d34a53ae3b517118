/-
  WALK: interleavelaw33.ProofParses.
-/
import Derived.Test.YtfffalfnjficaaaDoorPParse
import Derived.Test.YtfffalfnjficaaaDoorRefSteps
import Derived.Test.YtfffalfnjficaaaDoorStepsTwo
import Derived.Test.YtfffalfnjficaaaDoorSameSteps
import Derived.Test.YtfffalfnjficaaaDoorAwake33
namespace Go.Proofs.YtfffalfnjficaaaDoor
open Go.RowKit

set_option maxRecDepth 100000 in
set_option maxHeartbeats 4000000 in
theorem lawPParses (s : List UInt8) (w : World) (hpl : PL w) :
    Calls Tryd.prog 6 #[.string ⟨s.toArray⟩] w fun e w' => e = .returned (.bool true) ∧ Below w.heap.size w w' := by
  have HPL := Lib.hid hpl
  clear hpl
  go_enter Tryd.func6, Tryd.ntmps6
  by_cases hs : 4000 < s.length
  · go_wp2_with fail
    refine (awake33 w).mono ?_
    rintro e w9 ⟨rfl, hb9⟩
    have HB9 := Lib.hid hb9
    clear hb9
    go_wp2_with fail
    go_ret
    exact ⟨rfl, HB9.out⟩
  · have hs2 : s.length ≤ 4000 := by omega
    go_wp2_with fail
    refine (pparse_any s w (by omega) HPL.out).mono ?_
    rintro e w2 h1
    have HB2 := Lib.hid h1.1
    obtain ⟨l1, A1, n1, c1, er, ln, rfl, hl, his⟩ := h1.shape
    have HL2 := Lib.hid hl
    have HIS := Lib.hid his
    clear h1 his hl
    go_wp2_with fail
    refine (rsteps_ref s w2 (by omega) (HPL.out.below HB2.out)).mono ?_
    rintro e w4 h1
    have HB4 := Lib.hid (HB2.out.trans (h1.1.mono HB2.out.size))
    have HL4 := Lib.hid (HL2.out.keep h1.1)
    obtain ⟨l2, A2, n2, c2, er2, ln2, rfl, hl, his⟩ := h1.shape
    obtain ⟨rfl, rfl, rfl⟩ := HIS.out.fn his
    have HG4 := Lib.hid hl
    clear h1 his hl
    go_wp2_with fail
    refine (sameSteps_any _ _ l2 w4 HL4.out HG4.out).mono ?_
    rintro e w7 ⟨rfl, hb7⟩
    have HB7 := Lib.hid (HB4.out.trans (hb7.mono HB4.out.size))
    clear hb7
    go_wp2_with fail
    refine (awake33 w7).mono ?_
    rintro e w9 ⟨rfl, hb9⟩
    have HB9 := Lib.hid (HB7.out.trans (hb9.mono HB7.out.size))
    clear hb9
    go_wp2_with fail
    go_ret
    exact ⟨rfl, HB9.out⟩
end Go.Proofs.YtfffalfnjficaaaDoor
