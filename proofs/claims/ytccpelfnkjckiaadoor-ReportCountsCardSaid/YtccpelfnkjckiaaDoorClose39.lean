/-
  WHAT THE ROWS' LIST GIVES (laws of chapter 39): strconv's table of powers of ten; the words of package report; a world for the witness.
-/
import Derived.Test.YtccpelfnkjckiaaDoorClose
import Derived.Test.YtccpelfnkjckiaaDoorRepFmt
namespace Go.Proofs.YtccpelfnkjckiaaDoor
open Go.ChangeShapes Go.WideShapes Go.ChangeAt Go.RowKit

def lst4 : List (String × DataW Unit) := [("math/bits.deBruijn32tab", Rows.laid_math_bits_deBruijn32tab), ("math/bits.deBruijn64tab", Rows.laid_math_bits_deBruijn64tab), ("internal/strconv.uint64pow10", Rows.laid_internal_strconv_uint64pow10), ("interleave/report.words", Rows.laid_interleave_report_words)]

theorem tab_of4 {W : World} (h : laidMetH Tryd.prog lst4 W) : Tab W := by
  have h1 : laidMet Tryd.prog lst4 W := h
  have h2 := laidMet_tail (laidMet_tail h1)
  exact Lib.tabIs_of_head (zs := Lib.pow10Tab) (rest := [("interleave/report.words", Rows.laid_interleave_report_words)]) gTab gTabType Tryd.underlying175 Tryd.underlying143 (by kernel_rfl) (by kernel_rfl) h2

theorem gWords : Tryd.prog.globalNamed "interleave/report.words" = some 0 := by kernel_rfl
theorem gWordsType : (Tryd.prog.globals[0]?).map (·.type) = some 105 := by kernel_rfl

/-- The words lie where they are listed. -/
theorem words_of4 {W : World} (h : laidMetH Tryd.prog lst4 W) : WordsAt W := by
  have h1 : laidMet Tryd.prog lst4 W := h
  have h2 : laidMet Tryd.prog [("interleave/report.words", Rows.laid_interleave_report_words)] W := laidMet_tail (laidMet_tail (laidMet_tail h1))
  obtain ⟨ps, ⟨g', t', cs, fuel, p, q, hg', ht', hvar, hd, _, _⟩, _⟩ := h2
  obtain rfl := Option.some.inj (gWords.symm.trans hg')
  obtain rfl := Option.some.inj (gWordsType.symm.trans ht')
  have key : cs.toList = kindWords.map fun s => Value.string ⟨s.toArray⟩ := by
    cases fuel with
    | zero => simp [DataW.trod] at hd
    | succ fuel =>
      have hc5 : Tryd.prog.cellsOf 105 = 5 := by kernel_rfl
      have hc1 : Tryd.prog.cellsOf 9 = 1 := by kernel_rfl
      simp only [DataW.trod, Tryd.underlying105, hc5, hc1, Nat.mul_one] at hd
      split at hd
      · rename_i hl
        obtain ⟨xs, hm, hx⟩ := Option.map_eq_some_iff.1 hd
        have hxs : xs.map (·.1) = kindWords.map fun s => (DataW.lit (.string s) : DataW Unit) := by
          have := congrArg Prod.fst hx
          simpa [Rows.laid_interleave_report_words, kindWords] using this
        have hxl : xs.length = 5 := by simpa using Lib.mapM_length hm
        apply List.ext_getElem?
        intro i
        by_cases hi : i < 5
        · obtain ⟨b, hb, hf⟩ := Lib.mapM_at hm i i (by simp [hi])
          obtain ⟨s, hc, rfl, _⟩ := DataW.trod_string Tryd.underlying9 hf
          have h1 : cs.toList[i]? = some (.string s) := by
            have := congrArg (·[0]?) hc
            simpa [List.getElem?_take, List.getElem?_drop] using this
          have h2 : (xs.map (·.1))[i]? = some (DataW.lit (.string s.data.toList) : DataW Unit) := by simp [hb]
          rw [hxs] at h2
          simp only [List.getElem?_map, Option.map_eq_some_iff, DataW.lit.injEq, Lit.string.injEq] at h2
          obtain ⟨z', hz', hz2⟩ := h2
          rw [h1, List.getElem?_map, hz', Option.map_some, hz2]
        · rw [List.getElem?_eq_none (by omega), List.getElem?_eq_none (by simp [kindWords]; omega)]
      · cases hd
  refine ⟨?_, fun k s hk => ?_⟩
  · unfold World.var? at hvar
    rw [gWords] at hvar
    simp only [Option.bind_some] at hvar
    rcases Nat.lt_or_ge 0 W.heap.size with hl | hl
    · exact hl
    · rw [Array.getElem?_eq_none hl] at hvar; simp at hvar
  · have h3 := World.var?_cell gWords hvar k
    rw [h3, ← Array.getElem?_toList, key, List.getElem?_map, hk]; rfl

/-- A world that holds what the initialisers lay, the words too. -/
noncomputable def laidWorld4 (os : Os) : World :=
  { laidWorld os with heap := (laidWorld os).heap.modify 0 (putAll (kindWords.map fun s => Value.string ⟨s.toArray⟩).toArray) }
end Go.Proofs.YtccpelfnkjckiaaDoor
