/-
  WALK: interleavelaw31.FormulaParses.
-/
import Derived.Test.YtfffalfnjficaaaDoorRParse
import Derived.Test.YtfffalfnjficaaaDoorRefParse
import Derived.Test.YtfffalfnjficaaaDoorTwoParses
import Derived.Test.YtfffalfnjficaaaDoorSameF
import Derived.Test.YtfffalfnjficaaaDoorAwake31
namespace Go.Proofs.YtfffalfnjficaaaDoor
open Go.RowKit

set_option maxRecDepth 100000 in
set_option maxHeartbeats 4000000 in
theorem lawParses (s : List UInt8) (w : World) (hpl : PL w) :
    Calls Tryd.prog 3 #[.string ⟨s.toArray⟩] w fun e w' => e = .returned (.bool true) ∧ Below w.heap.size w w' := by
  have HPL := Lib.hid hpl
  clear hpl
  go_enter Tryd.func3, Tryd.ntmps3
  by_cases hs : 4000 < s.length
  · go_wp2_with fail
    refine (awake31 w HPL.out.tab).mono ?_
    rintro e w9 ⟨rfl, hb9⟩
    have HB9 := Lib.hid hb9
    clear hb9
    go_wp2_with fail
    go_ret
    exact ⟨rfl, HB9.out⟩
  · have hs2 : s.length ≤ 4000 := by omega
    go_wp2_with fail
    refine (parse_any s w (by omega) HPL.out).mono ?_
    rintro e w2 h1
    have HB2 := Lib.hid h1.1
    obtain ⟨f, a, er, ln, rfl, hf, his⟩ := h1.shape
    have HF2 := Lib.hid hf
    have HIS := Lib.hid his
    clear h1 his
    obtain ⟨av, cv, rfl, -, -, hf3, hf4⟩ := hf
    obtain ⟨Aa, ca, rfl, -, -, -, -⟩ := hf3
    obtain ⟨Ac, cc, vs, rfl, -, -, -, -, -⟩ := hf4
    have B1 := Blk.new w2 26 #[.int .i64 f.ints, .int .i64 f.bools, .slice Aa f.atoms.length ca, .slice Ac f.clauses.length cc]
    have hb3 : Below w2.heap.size w2 (w2.alloc (.cells #[.int .i64 f.ints, .int .i64 f.bools, .slice Aa f.atoms.length ca, .slice Ac f.clauses.length cc] 26)) := (Below.refl _ _).alloc (Nat.le_refl _) _
    go_wp2_with fail
    generalize w2.alloc (.cells #[.int .i64 f.ints, .int .i64 f.bools, .slice Aa f.atoms.length ca, .slice Ac f.clauses.length cc] 26) = w3 at *
    have HF3 := Lib.hid (HF2.out.keep hb3)
    have HB3 := Lib.hid (HB2.out.trans (hb3.mono HB2.out.size))
    have HB1 := Lib.hid B1
    clear B1 hb3
    refine (rparse_ref s w3 (by omega) (HPL.out.below HB3.out)).mono ?_
    rintro e w4 h1
    have HB4 := Lib.hid (HB3.out.trans (h1.1.mono HB3.out.size))
    have HF4 := Lib.hid (HF3.out.keep h1.1)
    have HK4 := Lib.hid (HB1.out.keep h1.1)
    obtain ⟨f', a', er', ln', rfl, hf, his⟩ := h1.shape
    obtain ⟨rfl, rfl, rfl⟩ := HIS.out.fn his
    have HG4 := Lib.hid hf
    clear h1 his
    obtain ⟨av2, cv2, rfl, -, -, hd2, hm2⟩ := hf
    obtain ⟨A2, c2, rfl, -, -, -, -⟩ := hd2
    obtain ⟨C2, cc2, vs2, rfl, -, -, -, -, -⟩ := hm2
    have hk6 := HK4.out.alloc (.cells #[.int .i64 f'.ints, .int .i64 f'.bools, .slice A2 f'.atoms.length c2, .slice C2 f'.clauses.length cc2] 26)
    have hb6 : Below w4.heap.size w4 (w4.alloc (.cells #[.int .i64 f'.ints, .int .i64 f'.bools, .slice A2 f'.atoms.length c2, .slice C2 f'.clauses.length cc2] 26)) := (Below.refl _ _).alloc (Nat.le_refl _) _
    have q0 := hk6.cell 0
    have q1 := hk6.cell 1
    have q2 := hk6.cell 2
    have q3 := hk6.cell 3
    simp only [List.getElem?_toArray, List.getElem?_cons_zero, List.getElem?_cons_succ] at q0 q1 q2 q3
    have HB6 := Lib.hid hb6
    have HBW6 := Lib.hid (HB4.out.trans (hb6.mono HB4.out.size))
    clear hk6 hb6
    go_wp2_with fail
    clear q0 q1 q2 q3
    generalize w4.alloc (.cells #[.int .i64 f'.ints, .int .i64 f'.bools, .slice A2 f'.atoms.length c2, .slice C2 f'.clauses.length cc2] 26) = w6 at *
    refine (samef_any _ _ f' w6 (HF4.out.keep HB6.out) (HG4.out.keep HB6.out)).mono ?_
    rintro e w7 ⟨rfl, hb7⟩
    have HB7 := Lib.hid (HBW6.out.trans (hb7.mono HBW6.out.size))
    clear hb7
    go_wp2_with fail
    refine (awake31 w7 (HPL.out.below HB7.out).tab).mono ?_
    rintro e w9 ⟨rfl, hb9⟩
    have HB9 := Lib.hid (HB7.out.trans (hb9.mono HB7.out.size))
    clear hb9
    go_wp2_with fail
    go_ret
    exact ⟨rfl, HB9.out⟩
end Go.Proofs.YtfffalfnjficaaaDoor
