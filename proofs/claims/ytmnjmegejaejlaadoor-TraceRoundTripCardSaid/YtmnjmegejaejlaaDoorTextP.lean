/-
  WORDS: a word and numbers as a line; strconv.Itoa in this seat's words.
-/
import Derived.Test.YtmnjmegejaejlaaDoorBuild
import Derived.Lib.LaidTab
import Derived.WalkSmall
import Derived.Lib.ItoaLen
namespace Go.Proofs.YtmnjmegejaejlaaDoor
open Go.RowKit

/-- strconv's table of powers of ten holds what its initialiser lays. -/
def Tab (w : World) : Prop := Lib.TabIs Tryd.prog w "internal/strconv.uint64pow10" .u64 Lib.pow10Tab
theorem gTab : Tryd.prog.globalNamed "internal/strconv.uint64pow10" = some 2 := by kernel_rfl
theorem Tab.keep {B : Nat} {w w' : World} (h : Tab w) (hb : Below B w w') (hB : 2 < B) : Tab w' := var?_below hb gTab hB h
theorem Tab.lt {w : World} (h : Tab w) : 2 < w.heap.size := by
  unfold Tab Lib.TabIs World.var? at h
  rw [gTab] at h
  simp only [Option.bind_some] at h
  rcases Nat.lt_or_ge 2 w.heap.size with hl | hl
  · exact hl
  · rw [Array.getElem?_eq_none hl] at h; simp at h

theorem below_grow (w : World) (k : Nat) (os : Array Obj) : Below w.heap.size w (Sort.grow (w.drewN k) os) := by
  refine ⟨rfl, rfl, rfl, ?_, fun i hi => ?_⟩
  · simp [Sort.grow, World.drewN]
  · show (w.heap ++ os)[i]? = w.heap[i]?
    rw [Array.getElem?_append_left hi]

theorem itoa_any (n : Int) (w : World) (hn : I64 n) (hT : Tab w) :
    Calls Tryd.prog 23 #[.int .i64 n] w fun e w' => e = .returned (.string ⟨(Lib.itoa n).toArray⟩) ∧ Below w.heap.size w w' := by
  refine (Tryd.strconv_Itoa n hn.1 hn.2 w hT).mono ?_
  rintro e w' ⟨rfl, k, os, rfl⟩
  exact ⟨rfl, below_grow w k os⟩

theorem itoa_len (n : Int) (h : I64 n) : (Lib.itoa n).length ≤ 21 := by
  obtain ⟨h1, h2⟩ := h
  unfold Lib.itoa
  split
  · have := Lib.nDigits_le20 n.natAbs (by omega)
    simp only [List.length_cons, Lib.decDigits_length]; omega
  · have := Lib.nDigits_le20 n.toNat (by omega)
    simp only [Lib.decDigits_length]; omega
theorem bsize (l : List UInt8) : (ByteArray.mk l.toArray).size = l.length := by simp [ByteArray.size]

/-- The numbers of a line, each behind a blank. -/
def numsText (l : List Int) : List UInt8 := l.flatMap fun n => 32 :: Lib.itoa n
def lineText (word : List UInt8) (l : List Int) : List UInt8 := word ++ numsText l ++ [10]

theorem numsText_snoc (l : List Int) (x : Int) : numsText (l ++ [x]) = numsText l ++ (32 :: Lib.itoa x) := by simp [numsText]
theorem numsText_len (l : List Int) (h : ∀ x ∈ l, I64 x) : (numsText l).length ≤ 22 * l.length := by
  induction l with
  | nil => simp [numsText]
  | cons x r ih =>
    have h1 := itoa_len x (h x (by simp))
    have h2 := ih fun y hy => h y (by simp [hy])
    simp only [numsText, List.flatMap_cons, List.length_append, List.length_cons] at h2 ⊢
    omega

theorem lineText_len (wd : List UInt8) (l : List Int) (h : ∀ x ∈ l, I64 x) : (lineText wd l).length ≤ wd.length + 22 * l.length + 1 := by
  have := numsText_len l h
  simp only [lineText, List.length_append, List.length_cons, List.length_nil]; omega
theorem flatMap_take_succ {α β : Type} {l : List α} {g : α → List β} {k : Nat} {x : α} (h : l[k]? = some x) : (l.take (k + 1)).flatMap g = (l.take k).flatMap g ++ g x := by
  rw [take_succ_of h]; simp
theorem strCells_of (l : List UInt8) : Lib.strCells ⟨l.toArray⟩ = Lib.byteCells l := by simp [Lib.strCells, Lib.byteCells]
theorem byteCells_append (a b : List UInt8) : Lib.byteCells (a ++ b) = Lib.byteCells a ++ Lib.byteCells b := by simp [Lib.byteCells]

theorem isBuilder_keep {T e : TypeId} {B b : Nat} {bs : List Value} {w w' : World} (h : Lib.IsBuilder T e B b bs w) (hb : Below w.heap.size w w') : Lib.IsBuilder T e B b bs w' := by
  have key : ∀ p, Lib.BuilderAt T e B b p bs w → Lib.BuilderAt T e B b p bs w' := by
    rintro p ⟨h1, v, hbk, hown, hne⟩
    have hlt : b < w.heap.size := (Array.getElem?_eq_some_iff.1 hbk).1
    refine ⟨h1, v, (hb.block b hlt).trans hbk, ?_, hne⟩
    obtain ⟨hl, ho⟩ := hown
    refine ⟨hl, ?_⟩
    rcases ho with ho | ⟨g, cap, cur, hv, hg, hh, r⟩
    · exact .inl ho
    · exact .inr ⟨g, cap, cur, hv, hg, (hb.block g (Array.getElem?_eq_some_iff.1 hh).1).trans hh, r⟩
  rcases h with h | h
  · exact .inl (key _ h)
  · exact .inr (key _ h)
end Go.Proofs.YtmnjmegejaejlaaDoor
