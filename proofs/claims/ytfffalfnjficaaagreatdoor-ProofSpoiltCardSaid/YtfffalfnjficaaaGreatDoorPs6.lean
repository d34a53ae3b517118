/-
  WORDS: a word and numbers as a line; strconv.Itoa in this seat's words.
  WHAT THE ROWS' LIST GIVES: strconv's table of powers of ten; a world for the witness.
-/
import Derived.Test.YtfffalfnjficaaaGreatDoorPs5
import Derived.Lib.LaidTab
import Derived.WalkSmall
import Derived.Lib.ItoaLen
import Derived.Test.YtfffalfnjficaaaGreatDoorCards
import Derived.Test.YtfffalfnjficaaaGreatDoorTie
import Derived.Test.YtfffalfnjficaaaGreatDoorPs4
import Derived.Deep.DeepHandedRow
namespace Go.Proofs.YtfffalfnjficaaaGreatDoor
open Go.RowKit

/-- strconv's table of powers of ten holds what its initialiser lays. -/
def Tab (w : World) : Prop := Lib.TabIs Tryz.prog w "internal/strconv.uint64pow10" .u64 Lib.pow10Tab
theorem gTab : Tryz.prog.globalNamed "internal/strconv.uint64pow10" = some 3 := by kernel_rfl
theorem Tab.keep {B : Nat} {w w' : World} (h : Tab w) (hb : Below B w w') (hB : 3 < B) : Tab w' := var?_below hb gTab hB h
theorem Tab.lt {w : World} (h : Tab w) : 3 < w.heap.size := by
  unfold Tab Lib.TabIs World.var? at h
  rw [gTab] at h
  simp only [Option.bind_some] at h
  rcases Nat.lt_or_ge 3 w.heap.size with hl | hl
  · exact hl
  · rw [Array.getElem?_eq_none hl] at h; simp at h

theorem below_grow (w : World) (k : Nat) (os : Array Obj) : Below w.heap.size w (Sort.grow (w.drewN k) os) := by
  refine ⟨rfl, rfl, rfl, ?_, fun i hi => ?_⟩
  · simp [Sort.grow, World.drewN]
  · show (w.heap ++ os)[i]? = w.heap[i]?
    rw [Array.getElem?_append_left hi]

theorem itoa_any (n : Int) (w : World) (hn : I64 n) (hT : Tab w) :
    Calls Tryz.prog 34 #[.int .i64 n] w fun e w' => e = .returned (.string ⟨(Lib.itoa n).toArray⟩) ∧ Below w.heap.size w w' := by
  refine (Tryz.strconv_Itoa n hn.1 hn.2 w hT).mono ?_
  rintro e w' ⟨rfl, k, os, rfl⟩
  exact ⟨rfl, below_grow w k os⟩

theorem itoa_len (n : Int) (h : I64 n) : (Lib.itoa n).length ≤ 21 := by
  obtain ⟨h1, h2⟩ := h
  unfold Lib.itoa
  split
  · have := Lib.nDigits_le20 n.natAbs (by omega)
    simp only [List.length_cons, Lib.decDigits_length]; omega
  · have := Lib.nDigits_le20 n.toNat (by omega)
    simp only [Lib.decDigits_length]; omega
theorem bsize (l : List UInt8) : (ByteArray.mk l.toArray).size = l.length := by simp [ByteArray.size]

/-- The numbers of a line, each behind a blank. -/
def numsText (l : List Int) : List UInt8 := l.flatMap fun n => 32 :: Lib.itoa n
def lineText (word : List UInt8) (l : List Int) : List UInt8 := word ++ numsText l ++ [10]

theorem numsText_snoc (l : List Int) (x : Int) : numsText (l ++ [x]) = numsText l ++ (32 :: Lib.itoa x) := by simp [numsText]
theorem numsText_len (l : List Int) (h : ∀ x ∈ l, I64 x) : (numsText l).length ≤ 22 * l.length := by
  induction l with
  | nil => simp [numsText]
  | cons x r ih =>
    have h1 := itoa_len x (h x (by simp))
    have h2 := ih fun y hy => h y (by simp [hy])
    simp only [numsText, List.flatMap_cons, List.length_append, List.length_cons] at h2 ⊢
    omega

theorem lineText_len (wd : List UInt8) (l : List Int) (h : ∀ x ∈ l, I64 x) : (lineText wd l).length ≤ wd.length + 22 * l.length + 1 := by
  have := numsText_len l h
  simp only [lineText, List.length_append, List.length_cons, List.length_nil]; omega
theorem flatMap_take_succ {α β : Type} {l : List α} {g : α → List β} {k : Nat} {x : α} (h : l[k]? = some x) : (l.take (k + 1)).flatMap g = (l.take k).flatMap g ++ g x := by
  rw [take_succ_of h]; simp
theorem strCells_of (l : List UInt8) : Lib.strCells ⟨l.toArray⟩ = Lib.byteCells l := by simp [Lib.strCells, Lib.byteCells]
theorem byteCells_append (a b : List UInt8) : Lib.byteCells (a ++ b) = Lib.byteCells a ++ Lib.byteCells b := by simp [Lib.byteCells]

theorem isBuilder_keep {T e : TypeId} {B b : Nat} {bs : List Value} {w w' : World} (h : Lib.IsBuilder T e B b bs w) (hb : Below w.heap.size w w') : Lib.IsBuilder T e B b bs w' := by
  have key : ∀ p, Lib.BuilderAt T e B b p bs w → Lib.BuilderAt T e B b p bs w' := by
    rintro p ⟨h1, v, hbk, hown, hne⟩
    have hlt : b < w.heap.size := (Array.getElem?_eq_some_iff.1 hbk).1
    refine ⟨h1, v, (hb.block b hlt).trans hbk, ?_, hne⟩
    obtain ⟨hl, ho⟩ := hown
    refine ⟨hl, ?_⟩
    rcases ho with ho | ⟨g, cap, cur, hv, hg, hh, r⟩
    · exact .inl ho
    · exact .inr ⟨g, cap, cur, hv, hg, (hb.block g (Array.getElem?_eq_some_iff.1 hh).1).trans hh, r⟩
  rcases h with h | h
  · exact .inl (key _ h)
  · exact .inr (key _ h)
end Go.Proofs.YtfffalfnjficaaaGreatDoor

namespace Go.Proofs.YtfffalfnjficaaaGreatDoor
open Go.ChangeShapes Go.WideShapes Go.ChangeAt Go.RowKit

theorem own : ownKnob Tryz.prog.godebug = none := by kernel_rfl
theorem laidOut : laidOutB Tryz.prog = true := by kernel_rfl

theorem laidMet_tail {P : Program} {x : String × DataW Unit} {rest : List (String × DataW Unit)} {W : World} (h : laidMet P (x :: rest) W) : laidMet P rest W := by
  obtain ⟨ps, ⟨g, t, cs, fuel, p, q, _, _, _, _, hq, rfl⟩, hz⟩ := h
  exact ⟨q, hq, (List.nodup_append.1 hz.1).2.1, fun b off hb => hz.2 b off (by simp [hb])⟩

def lst3 : List (String × DataW Unit) := [("math/bits.deBruijn32tab", Rows.laid_math_bits_deBruijn32tab), ("math/bits.deBruijn64tab", Rows.laid_math_bits_deBruijn64tab), ("internal/strconv.uint64pow10", Rows.laid_internal_strconv_uint64pow10)]

theorem gTabType : (Tryz.prog.globals[3]?).map (·.type) = some 152 := by kernel_rfl

theorem tab_of {W : World} (h : laidMetH Tryz.prog lst3 W) : Tab W := by
  have h1 : laidMet Tryz.prog lst3 W := h
  have h2 := laidMet_tail (laidMet_tail h1)
  exact Lib.tabIs_of_head (zs := Lib.pow10Tab) (rest := []) gTab gTabType Tryz.underlying152 Tryz.underlying132 (by kernel_rfl) (by kernel_rfl) h2

def putAll (cs : Array Value) : Obj → Obj
  | .cells _ t frozen => .cells cs t frozen
  | o => o
def tab32 : Array Value := #[.int .u8 0, .int .u8 1, .int .u8 28, .int .u8 2, .int .u8 29, .int .u8 14, .int .u8 24, .int .u8 3, .int .u8 30, .int .u8 22, .int .u8 20, .int .u8 15, .int .u8 25, .int .u8 17, .int .u8 4, .int .u8 8, .int .u8 31, .int .u8 27, .int .u8 13, .int .u8 23, .int .u8 21, .int .u8 19, .int .u8 16, .int .u8 7, .int .u8 26, .int .u8 12, .int .u8 18, .int .u8 6, .int .u8 11, .int .u8 5, .int .u8 10, .int .u8 9]
def tab64 : Array Value := #[.int .u8 0, .int .u8 1, .int .u8 56, .int .u8 2, .int .u8 57, .int .u8 49, .int .u8 28, .int .u8 3, .int .u8 61, .int .u8 58, .int .u8 42, .int .u8 50, .int .u8 38, .int .u8 29, .int .u8 17, .int .u8 4, .int .u8 62, .int .u8 47, .int .u8 59, .int .u8 36, .int .u8 45, .int .u8 43, .int .u8 51, .int .u8 22, .int .u8 53, .int .u8 39, .int .u8 33, .int .u8 30, .int .u8 24, .int .u8 18, .int .u8 12, .int .u8 5, .int .u8 63, .int .u8 55, .int .u8 48, .int .u8 27, .int .u8 60, .int .u8 41, .int .u8 37, .int .u8 16, .int .u8 46, .int .u8 35, .int .u8 44, .int .u8 21, .int .u8 52, .int .u8 32, .int .u8 23, .int .u8 11, .int .u8 54, .int .u8 26, .int .u8 40, .int .u8 15, .int .u8 34, .int .u8 20, .int .u8 31, .int .u8 10, .int .u8 25, .int .u8 14, .int .u8 19, .int .u8 9, .int .u8 13, .int .u8 8, .int .u8 7, .int .u8 6]

/-- A world that holds what the initialisers lay. -/
noncomputable def laidWorld (os : Os) : World :=
  { World.holding Tryz.prog os ⟨#[], #[], []⟩ with heap := (((World.holding Tryz.prog os ⟨#[], #[], []⟩).heap.modify 3 (putAll (Lib.pow10Tab.map fun z => Value.int .u64 z).toArray)).modify 6 (putAll tab32)).modify 7 (putAll tab64) }

end Go.Proofs.YtfffalfnjficaaaGreatDoor
