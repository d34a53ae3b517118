/-
  WALK: interleavelaw33.ProofFormats.
-/
import Derived.Test.YtdmndikenejhiaaDoorAwake33
import Derived.Test.YtdmndikenejhiaaDoorLarge33
import Derived.Test.YtdmndikenejhiaaDoorFmtRef33
namespace Go.Proofs.YtdmndikenejhiaaDoor
open Go.RowKit

set_option maxRecDepth 100000 in
set_option maxHeartbeats 1000000 in
theorem lawPFormats (v : Value) (l : List Stp) (w : World) (hl : Stps w v l) (hn : l.length ≤ 140737488355328) (hll : ∀ s ∈ l, s.lits.length ≤ 140737488355328) (hT : Tab w) :
    Calls Tryd.prog 4 #[v] w fun e w' => e = .returned (.bool true) ∧ Below w.heap.size w w' := by
  have HT := Lib.hid hT
  have HL := Lib.hid hl
  have HLL := Lib.hid hll
  have HNN := Lib.hid hn
  obtain ⟨A, cl, ps, hps, rfl, l1, l2, -, -⟩ := hl
  clear hT hn hll
  go_enter Tryd.func4, Tryd.ntmps4
  go_wp2_with fail
  refine (large33_any _ l w HL.out HNN.out HLL.out).mono ?_
  rintro e w' ⟨rfl, rfl⟩
  cases hlg : largeS l
  · obtain ⟨s1, s2⟩ := largeS_small hlg
    have HS2 := Lib.hid s2
    have HS1 := Lib.hid s1
    clear hlg s1 s2
    go_wp2_with fail
    refine (pformat_any _ l _ HL.out HT.out (by have := HS1.out; omega) (fun s hs => by have := HS2.out s hs; omega)).mono ?_
    rintro e w2 ⟨rfl, hb2⟩
    have HB2 := Lib.hid hb2
    clear hb2
    go_wp2_with fail
    refine (rformatSteps_any _ l _ (HL.out.keep HB2.out) (HT.out.keep HB2.out HT.out.lt) (by have := HS1.out; omega) (fun s hs => by have := HS2.out s hs; omega)).mono ?_
    rintro e w3 ⟨rfl, hb3⟩
    have HB3 := Lib.hid (HB2.out.trans (hb3.mono HB2.out.size))
    clear hb3
    go_wp2_with fail
    refine (awake33 _).mono ?_
    rintro e w4 ⟨rfl, hb4⟩
    have HB4 := Lib.hid hb4
    clear hb4
    go_wp2_with fail
    go_ret
    exact ⟨rfl, HB3.out.trans (HB4.out.mono HB3.out.size)⟩
  · clear hlg
    go_wp2_with fail
    refine (awake33 _).mono ?_
    rintro e w4 ⟨rfl, hb4⟩
    have HB4 := Lib.hid hb4
    clear hb4
    go_wp2_with fail
    go_ret
    exact ⟨rfl, HB4.out⟩
end Go.Proofs.YtdmndikenejhiaaDoor
