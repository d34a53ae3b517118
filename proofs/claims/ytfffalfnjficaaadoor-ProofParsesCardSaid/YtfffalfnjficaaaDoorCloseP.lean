/-
  WHAT THE ROWS' LIST GIVES (laws that parse): strconv's table of powers of ten, its two errors.
-/
import Derived.Test.YtfffalfnjficaaaDoorClose
import Derived.Test.YtfffalfnjficaaaDoorAtoi
import Derived.Deep.DeepLaidRun
namespace Go.Proofs.YtfffalfnjficaaaDoor
open Go.ChangeShapes Go.WideShapes Go.ChangeAt Go.RowKit

def lst7 : List (String × DataW Unit) := [("math/bits.deBruijn32tab", Rows.laid_math_bits_deBruijn32tab), ("math/bits.deBruijn64tab", Rows.laid_math_bits_deBruijn64tab), ("internal/strconv.uint64pow10", Rows.laid_internal_strconv_uint64pow10), ("unicode/utf8.acceptRanges", Rows.laid_unicode_utf8_acceptRanges), ("strconv.ErrRange", Rows.laid_strconv_ErrRange), ("strconv.ErrSyntax", Rows.laid_strconv_ErrSyntax), ("unicode/utf8.first", Rows.laid_unicode_utf8_first)]

theorem tab_of7 {W : World} (h : laidMetH Tryd.prog lst7 W) : Tab W := by
  have h1 : laidMet Tryd.prog lst7 W := h
  have h2 := laidMet_tail (laidMet_tail h1)
  exact Lib.tabIs_of_head (zs := Lib.pow10Tab) (rest := [("unicode/utf8.acceptRanges", Rows.laid_unicode_utf8_acceptRanges), ("strconv.ErrRange", Rows.laid_strconv_ErrRange), ("strconv.ErrSyntax", Rows.laid_strconv_ErrSyntax), ("unicode/utf8.first", Rows.laid_unicode_utf8_first)]) gTab gTabType Tryd.underlying163 Tryd.underlying120 (by kernel_rfl) (by kernel_rfl) h2
theorem gErrS : Tryd.prog.globalNamed "strconv.ErrSyntax" = some 1 := by kernel_rfl
theorem gErrSType : (Tryd.prog.globals[1]?).map (·.type) = some 92 := by kernel_rfl

theorem err_s {W : World} {rest : List (String × DataW Unit)} (h : laidMet Tryd.prog (("strconv.ErrSyntax", Rows.laid_strconv_ErrSyntax) :: rest) W) : ∃ v, W.cell? ⟨1, 0, none⟩ = some v ∧ IsErr v := by
  obtain ⟨ps, ⟨g', t', cs, fuel, p, q, hg', ht', hvar, hd, _, _⟩, _⟩ := h
  obtain rfl := Option.some.inj (gErrS.symm.trans hg')
  obtain rfl := Option.some.inj (gErrSType.symm.trans ht')
  cases fuel with
  | zero => simp [DataW.trod] at hd
  | succ fuel =>
    simp only [DataW.trod, Tryd.underlying92] at hd
    have h3 := World.var?_cell gErrS hvar 0
    rcases hl : cs.toList with _ | ⟨v, _ | ⟨v2, t⟩⟩
    · rw [hl] at hd; simp at hd
    · have hv : cs[0]? = some v := by rw [← Array.getElem?_toList, hl]; rfl
      rw [hl] at hd
      refine ⟨v, h3.trans hv, ?_⟩
      cases v with
      | nilIface => exact .inl rfl
      | iface te pe => exact .inr ⟨_, _, rfl⟩
      | _ => simp at hd
    · rw [hl] at hd; simp at hd
theorem gErrR : Tryd.prog.globalNamed "strconv.ErrRange" = some 2 := by kernel_rfl
theorem gErrRType : (Tryd.prog.globals[2]?).map (·.type) = some 92 := by kernel_rfl

theorem err_r {W : World} {rest : List (String × DataW Unit)} (h : laidMet Tryd.prog (("strconv.ErrRange", Rows.laid_strconv_ErrRange) :: rest) W) : ∃ v, W.cell? ⟨2, 0, none⟩ = some v ∧ IsErr v := by
  obtain ⟨ps, ⟨g', t', cs, fuel, p, q, hg', ht', hvar, hd, _, _⟩, _⟩ := h
  obtain rfl := Option.some.inj (gErrR.symm.trans hg')
  obtain rfl := Option.some.inj (gErrRType.symm.trans ht')
  cases fuel with
  | zero => simp [DataW.trod] at hd
  | succ fuel =>
    simp only [DataW.trod, Tryd.underlying92] at hd
    have h3 := World.var?_cell gErrR hvar 0
    rcases hl : cs.toList with _ | ⟨v, _ | ⟨v2, t⟩⟩
    · rw [hl] at hd; simp at hd
    · have hv : cs[0]? = some v := by rw [← Array.getElem?_toList, hl]; rfl
      rw [hl] at hd
      refine ⟨v, h3.trans hv, ?_⟩
      cases v with
      | nilIface => exact .inl rfl
      | iface te pe => exact .inr ⟨_, _, rfl⟩
      | _ => simp at hd
    · rw [hl] at hd; simp at hd
theorem cell_lt {W : World} {g : Nat} {v : Value} (h : W.cell? ⟨g, 0, none⟩ = some v) : g < W.heap.size := by
  rcases Nat.lt_or_ge g W.heap.size with hl | hl
  · exact hl
  · unfold World.cell? at h; rw [Array.getElem?_eq_none hl] at h; simp at h
/-- What the library's variables hold. -/
theorem pl_of7 {W : World} (h : laidMetH Tryd.prog lst7 W) (hm : ML W) : PL W := by
  have h1 : laidMet Tryd.prog lst7 W := h
  have h2 := laidMet_tail (laidMet_tail (laidMet_tail (laidMet_tail h1)))
  have e2 := err_r h2
  have e1 := err_s (laidMet_tail h2)
  have ht := tab_of7 h
  obtain ⟨v, c1, _⟩ := id e1
  obtain ⟨u, c2, _⟩ := id e2
  exact ⟨⟨hm.1, cell_lt c1, cell_lt c2, ht.lt⟩, hm, ht, e1, e2⟩
theorem ml_of_shaped {W : World} (h : W.ShapedOpen Tryd.prog) : ML W := by
  have h1 : ∃ m, W.cell? ⟨0, 0, none⟩ = some (.int .i64 m) := Go.Proofs.cell_of_shapedOpen_int (zero := #[.int .i64 0]) (t := 3) h (of_decide_eq_true (by kernel_rfl)) (by kernel_rfl) rfl (by kernel_rfl) (by kernel_rfl) Tryd.underlying3
  obtain ⟨m, hm⟩ := h1
  exact ⟨cell_lt hm, m, hm⟩
def range16 : Array Value := #[.int .u8 128, .int .u8 191, .int .u8 160, .int .u8 191, .int .u8 128, .int .u8 159, .int .u8 144, .int .u8 191, .int .u8 128, .int .u8 143] ++ Array.replicate 22 (Value.int .u8 0)
def first256 : Array Value := (Go.Pinned.utf8FirstZ.map fun z : Nat => Value.int .u8 (z : Int)).toArray
def textRange : Value := .string ⟨#[118, 97, 108, 117, 101, 32, 111, 117, 116, 32, 111, 102, 32, 114, 97, 110, 103, 101]⟩
def textSyntax : Value := .string ⟨#[105, 110, 118, 97, 108, 105, 100, 32, 115, 121, 110, 116, 97, 120]⟩
/-- A world that holds what the initialisers lay, strconv's errors and utf8's tables too. -/
noncomputable def laidWorld7 (os : Os) : World :=
  { laidWorld os with heap := (((((laidWorld os).heap.modify 5 (putAll range16)).modify 4 (putAll first256)).modify 2 (putAll #[.iface 159 (.pointer (some ⟨(laidWorld os).heap.size, 0, none⟩))])).modify 1 (putAll #[.iface 159 (.pointer (some ⟨(laidWorld os).heap.size + 1, 0, none⟩))])) ++ #[.cells #[textRange] 161, .cells #[textSyntax] 161] }
end Go.Proofs.YtfffalfnjficaaaDoor
