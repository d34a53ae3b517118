/-
  WHAT THE ROWS' LIST GIVES (traces): strconv's table of powers of ten, its two errors, the words of the kinds, the words that are no names.
-/
import Derived.Test.YtmnjmegejaejlaaDoorCards
import Derived.Test.YtmnjmegejaejlaaDoorTie
import Derived.Test.YtmnjmegejaejlaaDoorTT7
import Derived.Test.YtmnjmegejaejlaaDoorTT3
import Derived.Deep.DeepHandedRow
import Derived.Lib.LaidTab
import Derived.Test.YtmnjmegejaejlaaDoorTT10
import Derived.Deep.DeepLaidRun
namespace Go.Proofs.YtmnjmegejaejlaaDoor
open Go.ChangeShapes Go.WideShapes Go.ChangeAt Go.RowKit

theorem own : ownKnob Tryd.prog.godebug = none := by kernel_rfl
theorem laidOut : laidOutB Tryd.prog = true := by kernel_rfl

theorem laidMet_tail {P : Program} {x : String × DataW Unit} {rest : List (String × DataW Unit)} {W : World} (h : laidMet P (x :: rest) W) : laidMet P rest W := by
  obtain ⟨ps, ⟨g, t, cs, fuel, p, q, _, _, _, _, hq, rfl⟩, hz⟩ := h
  exact ⟨q, hq, (List.nodup_append.1 hz.1).2.1, fun b off hb => hz.2 b off (by simp [hb])⟩

def lst3 : List (String × DataW Unit) := [("math/bits.deBruijn32tab", Rows.laid_math_bits_deBruijn32tab), ("math/bits.deBruijn64tab", Rows.laid_math_bits_deBruijn64tab), ("internal/strconv.uint64pow10", Rows.laid_internal_strconv_uint64pow10)]

theorem gTabType : (Tryd.prog.globals[2]?).map (·.type) = some 126 := by kernel_rfl

theorem tab_of {W : World} (h : laidMetH Tryd.prog lst3 W) : Tab W := by
  have h1 : laidMet Tryd.prog lst3 W := h
  have h2 := laidMet_tail (laidMet_tail h1)
  exact Lib.tabIs_of_head (zs := Lib.pow10Tab) (rest := []) gTab gTabType Tryd.underlying126 Tryd.underlying113 (by kernel_rfl) (by kernel_rfl) h2

def putAll (cs : Array Value) : Obj → Obj
  | .cells _ t frozen => .cells cs t frozen
  | o => o
def tab32 : Array Value := #[.int .u8 0, .int .u8 1, .int .u8 28, .int .u8 2, .int .u8 29, .int .u8 14, .int .u8 24, .int .u8 3, .int .u8 30, .int .u8 22, .int .u8 20, .int .u8 15, .int .u8 25, .int .u8 17, .int .u8 4, .int .u8 8, .int .u8 31, .int .u8 27, .int .u8 13, .int .u8 23, .int .u8 21, .int .u8 19, .int .u8 16, .int .u8 7, .int .u8 26, .int .u8 12, .int .u8 18, .int .u8 6, .int .u8 11, .int .u8 5, .int .u8 10, .int .u8 9]
def tab64 : Array Value := #[.int .u8 0, .int .u8 1, .int .u8 56, .int .u8 2, .int .u8 57, .int .u8 49, .int .u8 28, .int .u8 3, .int .u8 61, .int .u8 58, .int .u8 42, .int .u8 50, .int .u8 38, .int .u8 29, .int .u8 17, .int .u8 4, .int .u8 62, .int .u8 47, .int .u8 59, .int .u8 36, .int .u8 45, .int .u8 43, .int .u8 51, .int .u8 22, .int .u8 53, .int .u8 39, .int .u8 33, .int .u8 30, .int .u8 24, .int .u8 18, .int .u8 12, .int .u8 5, .int .u8 63, .int .u8 55, .int .u8 48, .int .u8 27, .int .u8 60, .int .u8 41, .int .u8 37, .int .u8 16, .int .u8 46, .int .u8 35, .int .u8 44, .int .u8 21, .int .u8 52, .int .u8 32, .int .u8 23, .int .u8 11, .int .u8 54, .int .u8 26, .int .u8 40, .int .u8 15, .int .u8 34, .int .u8 20, .int .u8 31, .int .u8 10, .int .u8 25, .int .u8 14, .int .u8 19, .int .u8 9, .int .u8 13, .int .u8 8, .int .u8 7, .int .u8 6]

/-- A world that holds what the initialisers lay. -/
noncomputable def laidWorld (os : Os) : World :=
  { World.holding Tryd.prog os ⟨#[], #[], []⟩ with heap := (((World.holding Tryd.prog os ⟨#[], #[], []⟩).heap.modify 2 (putAll (Lib.pow10Tab.map fun z => Value.int .u64 z).toArray)).modify 8 (putAll tab32)).modify 9 (putAll tab64) }

def lst9 : List (String × DataW Unit) := [("math/bits.deBruijn32tab", Rows.laid_math_bits_deBruijn32tab), ("math/bits.deBruijn64tab", Rows.laid_math_bits_deBruijn64tab), ("internal/strconv.uint64pow10", Rows.laid_internal_strconv_uint64pow10), ("unicode/utf8.acceptRanges", Rows.laid_unicode_utf8_acceptRanges), ("strconv.ErrRange", Rows.laid_strconv_ErrRange), ("strconv.ErrSyntax", Rows.laid_strconv_ErrSyntax), ("interleave/token.keywords", Rows.laid_interleave_token_keywords), ("interleave/trace.kinds", Rows.laid_interleave_trace_kinds), ("unicode/utf8.first", Rows.laid_unicode_utf8_first)]

theorem tab_of9 {W : World} (h : laidMetH Tryd.prog lst9 W) : Tab W := by
  have h1 : laidMet Tryd.prog lst9 W := h
  have h2 := laidMet_tail (laidMet_tail h1)
  exact Lib.tabIs_of_head (zs := Lib.pow10Tab) (rest := [("unicode/utf8.acceptRanges", Rows.laid_unicode_utf8_acceptRanges), ("strconv.ErrRange", Rows.laid_strconv_ErrRange), ("strconv.ErrSyntax", Rows.laid_strconv_ErrSyntax), ("interleave/token.keywords", Rows.laid_interleave_token_keywords), ("interleave/trace.kinds", Rows.laid_interleave_trace_kinds), ("unicode/utf8.first", Rows.laid_unicode_utf8_first)]) gTab gTabType Tryd.underlying126 Tryd.underlying113 (by kernel_rfl) (by kernel_rfl) h2
theorem gErrS : Tryd.prog.globalNamed "strconv.ErrSyntax" = some 4 := by kernel_rfl
theorem gErrSType : (Tryd.prog.globals[4]?).map (·.type) = some 91 := by kernel_rfl

theorem err_s {W : World} {rest : List (String × DataW Unit)} (h : laidMet Tryd.prog (("strconv.ErrSyntax", Rows.laid_strconv_ErrSyntax) :: rest) W) : ∃ v, W.cell? ⟨4, 0, none⟩ = some v ∧ IsErr v := by
  obtain ⟨ps, ⟨g', t', cs, fuel, p, q, hg', ht', hvar, hd, _, _⟩, _⟩ := h
  obtain rfl := Option.some.inj (gErrS.symm.trans hg')
  obtain rfl := Option.some.inj (gErrSType.symm.trans ht')
  cases fuel with
  | zero => simp [DataW.trod] at hd
  | succ fuel =>
    simp only [DataW.trod, Tryd.underlying91] at hd
    have h3 := World.var?_cell gErrS hvar 0
    rcases hl : cs.toList with _ | ⟨v, _ | ⟨v2, t⟩⟩
    · rw [hl] at hd; simp at hd
    · have hv : cs[0]? = some v := by rw [← Array.getElem?_toList, hl]; rfl
      rw [hl] at hd
      refine ⟨v, h3.trans hv, ?_⟩
      cases v with
      | nilIface => exact .inl rfl
      | iface te pe => exact .inr ⟨_, _, rfl⟩
      | _ => simp at hd
    · rw [hl] at hd; simp at hd
theorem gErrR : Tryd.prog.globalNamed "strconv.ErrRange" = some 5 := by kernel_rfl
theorem gErrRType : (Tryd.prog.globals[5]?).map (·.type) = some 91 := by kernel_rfl

theorem err_r {W : World} {rest : List (String × DataW Unit)} (h : laidMet Tryd.prog (("strconv.ErrRange", Rows.laid_strconv_ErrRange) :: rest) W) : ∃ v, W.cell? ⟨5, 0, none⟩ = some v ∧ IsErr v := by
  obtain ⟨ps, ⟨g', t', cs, fuel, p, q, hg', ht', hvar, hd, _, _⟩, _⟩ := h
  obtain rfl := Option.some.inj (gErrR.symm.trans hg')
  obtain rfl := Option.some.inj (gErrRType.symm.trans ht')
  cases fuel with
  | zero => simp [DataW.trod] at hd
  | succ fuel =>
    simp only [DataW.trod, Tryd.underlying91] at hd
    have h3 := World.var?_cell gErrR hvar 0
    rcases hl : cs.toList with _ | ⟨v, _ | ⟨v2, t⟩⟩
    · rw [hl] at hd; simp at hd
    · have hv : cs[0]? = some v := by rw [← Array.getElem?_toList, hl]; rfl
      rw [hl] at hd
      refine ⟨v, h3.trans hv, ?_⟩
      cases v with
      | nilIface => exact .inl rfl
      | iface te pe => exact .inr ⟨_, _, rfl⟩
      | _ => simp at hd
    · rw [hl] at hd; simp at hd
theorem cell_lt {W : World} {g : Nat} {v : Value} (h : W.cell? ⟨g, 0, none⟩ = some v) : g < W.heap.size := by
  rcases Nat.lt_or_ge g W.heap.size with hl | hl
  · exact hl
  · unfold World.cell? at h; rw [Array.getElem?_eq_none hl] at h; simp at h
/-- A table of words as a row lists it. -/
def strData {H : Type} (l : List (List UInt8)) : DataW H := .agg (l.map fun s => .lit (.string s))
theorem cells_of_strs {H : Type} {enc : TypeId × Value → H} {P : Program} {w : World} {base : Nat} {sp : Nat → Bool} {held : Bool} {fuel : Nat} {t e : TypeId} {n : Nat} {cs : List Value} {l : List (List UInt8)} {p : List MemPlace}
    (ht : P.underlying t = some (.array n e)) (he : P.underlying e = some .string) (hce : P.cellsOf e = 1) (hct : P.cellsOf t = n)
    (h : DataW.trod enc P w base sp held fuel t cs = some (strData l, p)) : cs = l.map fun s => Value.string ⟨s.toArray⟩ := by
  cases fuel with
  | zero => simp [DataW.trod] at h
  | succ fuel =>
    simp only [DataW.trod, ht, hce, hct, Nat.mul_one] at h
    split at h
    · rename_i hl
      obtain ⟨xs, hm, hx⟩ := Option.map_eq_some_iff.1 h
      have hxs : xs.map (·.1) = l.map fun s => (DataW.lit (.string s) : DataW H) := by
        have := congrArg Prod.fst hx
        simpa [strData] using this
      have hxl : xs.length = n := by simpa using Lib.mapM_length hm
      have hzl : l.length = n := by
        have := congrArg List.length hxs
        simp at this
        omega
      apply List.ext_getElem?
      intro i
      by_cases hi : i < n
      · obtain ⟨b, hb, hf⟩ := Lib.mapM_at hm i i (by simp [hi])
        obtain ⟨s, hc, rfl, _⟩ := DataW.trod_string he hf
        have h1 : cs[i]? = some (.string s) := by
          have := congrArg (·[0]?) hc
          simpa [List.getElem?_take, List.getElem?_drop] using this
        have h2 : (xs.map (·.1))[i]? = some (DataW.lit (.string s.data.toList) : DataW H) := by simp [hb]
        rw [hxs] at h2
        simp only [List.getElem?_map, Option.map_eq_some_iff, DataW.lit.injEq, Lit.string.injEq] at h2
        obtain ⟨z', hz', rfl⟩ := h2
        simp [h1, hz']
      · rw [List.getElem?_eq_none (by omega), List.getElem?_eq_none (by simp; omega)]
    · cases h
theorem strs_of_head {P : Program} {W : World} {name : String} {l : List (List UInt8)} {rest : List (String × DataW Unit)} {g : Nat} {t e : TypeId} {n : Nat}
    (hg : P.globalNamed name = some g) (hty : (P.globals[g]?).map (·.type) = some t) (ht : P.underlying t = some (.array n e)) (he : P.underlying e = some .string) (hce : P.cellsOf e = 1) (hct : P.cellsOf t = n)
    (h : laidMet P ((name, strData l) :: rest) W) : ∀ (k : Nat) (s : List UInt8), l[k]? = some s → W.cell? ⟨g, k, none⟩ = some (.string ⟨s.toArray⟩) := by
  obtain ⟨ps, ⟨g', t', cs, fuel, p, q, hg', ht', hvar, hd, _, _⟩, _⟩ := h
  obtain rfl := Option.some.inj (hg.symm.trans hg')
  obtain rfl := Option.some.inj (hty.symm.trans ht')
  have hcs := cells_of_strs ht he hce hct hd
  intro k s hk
  refine (World.var?_cell hg hvar k).trans ?_
  rw [← Array.getElem?_toList, hcs, List.getElem?_map, hk]
  rfl
theorem gKeys : Tryd.prog.globalNamed "interleave/token.keywords" = some 3 := by kernel_rfl
theorem gKeysType : (Tryd.prog.globals[3]?).map (·.type) = some 133 := by kernel_rfl
theorem gKinds : Tryd.prog.globalNamed "interleave/trace.kinds" = some 0 := by kernel_rfl
theorem gKindsType : (Tryd.prog.globals[0]?).map (·.type) = some 96 := by kernel_rfl
/-- What the variables hold. -/
theorem pt_of9 {W : World} (h : laidMetH Tryd.prog lst9 W) (hm : ML W) : PT W := by
  have h1 : laidMet Tryd.prog lst9 W := h
  have h2 := laidMet_tail (laidMet_tail (laidMet_tail (laidMet_tail h1)))
  have e2 := err_r h2
  have e1 := err_s (laidMet_tail h2)
  have h3 := laidMet_tail (laidMet_tail h2)
  have kw := strs_of_head (l := keysL) (rest := [("interleave/trace.kinds", Rows.laid_interleave_trace_kinds), ("unicode/utf8.first", Rows.laid_unicode_utf8_first)]) gKeys gKeysType Tryd.underlying133 Tryd.underlying9 (by kernel_rfl) (by kernel_rfl) h3
  have kd := strs_of_head (l := [] :: kindsL) (rest := [("unicode/utf8.first", Rows.laid_unicode_utf8_first)]) gKinds gKindsType Tryd.underlying96 Tryd.underlying9 (by kernel_rfl) (by kernel_rfl) (laidMet_tail h3)
  have ht := tab_of9 h
  obtain ⟨v, c1, _⟩ := id e1
  obtain ⟨u, c2, _⟩ := id e2
  exact ⟨⟨hm.1, cell_lt c1, cell_lt c2, ht.lt, cell_lt (kd 0 [] rfl), cell_lt (kw 0 [118, 97, 114] rfl)⟩, hm, ht, e1, e2, kd, kw⟩
theorem ml_of_shaped {W : World} (h : W.ShapedOpen Tryd.prog) : ML W := by
  have h1 : ∃ m, W.cell? ⟨1, 0, none⟩ = some (.int .i64 m) := Go.Proofs.cell_of_shapedOpen_int (zero := #[.int .i64 0]) (t := 3) h (of_decide_eq_true (by kernel_rfl)) (by kernel_rfl) rfl (by kernel_rfl) (by kernel_rfl) Tryd.underlying3
  obtain ⟨m, hm⟩ := h1
  exact ⟨cell_lt hm, m, hm⟩
def range16 : Array Value := #[.int .u8 128, .int .u8 191, .int .u8 160, .int .u8 191, .int .u8 128, .int .u8 159, .int .u8 144, .int .u8 191, .int .u8 128, .int .u8 143] ++ Array.replicate 22 (Value.int .u8 0)
def first256 : Array Value := (Go.Pinned.utf8FirstZ.map fun z : Nat => Value.int .u8 (z : Int)).toArray
def textRange : Value := .string ⟨#[118, 97, 108, 117, 101, 32, 111, 117, 116, 32, 111, 102, 32, 114, 97, 110, 103, 101]⟩
def textSyntax : Value := .string ⟨#[105, 110, 118, 97, 108, 105, 100, 32, 115, 121, 110, 116, 97, 120]⟩
/-- A world that holds what the initialisers lay, strconv's errors and utf8's tables too. -/
noncomputable def laidWorld7 (os : Os) : World :=
  { laidWorld os with heap := (((((laidWorld os).heap.modify 7 (putAll range16)).modify 6 (putAll first256)).modify 5 (putAll #[.iface 153 (.pointer (some ⟨(laidWorld os).heap.size, 0, none⟩))])).modify 4 (putAll #[.iface 153 (.pointer (some ⟨(laidWorld os).heap.size + 1, 0, none⟩))])) ++ #[.cells #[textRange] 155, .cells #[textSyntax] 155] }
/-- A world that holds the two tables of words too. -/
noncomputable def laidWorld9 (os : Os) : World :=
  { laidWorld7 os with heap := ((laidWorld7 os).heap.modify 3 (putAll (keysL.map fun s => Value.string ⟨s.toArray⟩).toArray)).modify 0 (putAll (([] :: kindsL).map fun s => Value.string ⟨s.toArray⟩).toArray) }
end Go.Proofs.YtmnjmegejaejlaaDoor
