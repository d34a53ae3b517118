/-
  WORDS: a word and numbers as a line; strconv.Itoa in this seat's words.
  CONTRACTS: strings.Cut, strings.Split and strconv.Atoi in this seat's words.
-/
import Derived.Test.YtmnjmegejaejlaaDoorTT6
import Derived.Lib.LaidTab
import Derived.WalkSmall
import Derived.Lib.ItoaLen
import Derived.Test.YtmnjmegejaejlaaDoorShelf
import Derived.Test.YtmnjmegejaejlaaDoorTT4
import Derived.Test.YtmnjmegejaejlaaDoorTT5
namespace Go.Proofs.YtmnjmegejaejlaaDoor
open Go.RowKit

/-- strconv's table of powers of ten holds what its initialiser lays. -/
def Tab (w : World) : Prop := Lib.TabIs Tryd.prog w "internal/strconv.uint64pow10" .u64 Lib.pow10Tab
theorem gTab : Tryd.prog.globalNamed "internal/strconv.uint64pow10" = some 2 := by kernel_rfl
theorem Tab.keep {B : Nat} {w w' : World} (h : Tab w) (hb : Below B w w') (hB : 2 < B) : Tab w' := var?_below hb gTab hB h
theorem Tab.lt {w : World} (h : Tab w) : 2 < w.heap.size := by
  unfold Tab Lib.TabIs World.var? at h
  rw [gTab] at h
  simp only [Option.bind_some] at h
  rcases Nat.lt_or_ge 2 w.heap.size with hl | hl
  · exact hl
  · rw [Array.getElem?_eq_none hl] at h; simp at h

theorem below_grow (w : World) (k : Nat) (os : Array Obj) : Below w.heap.size w (Sort.grow (w.drewN k) os) := by
  refine ⟨rfl, rfl, rfl, ?_, fun i hi => ?_⟩
  · simp [Sort.grow, World.drewN]
  · show (w.heap ++ os)[i]? = w.heap[i]?
    rw [Array.getElem?_append_left hi]

theorem itoa_any (n : Int) (w : World) (hn : I64 n) (hT : Tab w) :
    Calls Tryd.prog 23 #[.int .i64 n] w fun e w' => e = .returned (.string ⟨(Lib.itoa n).toArray⟩) ∧ Below w.heap.size w w' := by
  refine (Tryd.strconv_Itoa n hn.1 hn.2 w hT).mono ?_
  rintro e w' ⟨rfl, k, os, rfl⟩
  exact ⟨rfl, below_grow w k os⟩

theorem itoa_len (n : Int) (h : I64 n) : (Lib.itoa n).length ≤ 21 := by
  obtain ⟨h1, h2⟩ := h
  unfold Lib.itoa
  split
  · have := Lib.nDigits_le20 n.natAbs (by omega)
    simp only [List.length_cons, Lib.decDigits_length]; omega
  · have := Lib.nDigits_le20 n.toNat (by omega)
    simp only [Lib.decDigits_length]; omega
theorem bsize (l : List UInt8) : (ByteArray.mk l.toArray).size = l.length := by simp [ByteArray.size]

/-- The numbers of a line, each behind a blank. -/
def numsText (l : List Int) : List UInt8 := l.flatMap fun n => 32 :: Lib.itoa n
def lineText (word : List UInt8) (l : List Int) : List UInt8 := word ++ numsText l ++ [10]

theorem numsText_snoc (l : List Int) (x : Int) : numsText (l ++ [x]) = numsText l ++ (32 :: Lib.itoa x) := by simp [numsText]
theorem numsText_len (l : List Int) (h : ∀ x ∈ l, I64 x) : (numsText l).length ≤ 22 * l.length := by
  induction l with
  | nil => simp [numsText]
  | cons x r ih =>
    have h1 := itoa_len x (h x (by simp))
    have h2 := ih fun y hy => h y (by simp [hy])
    simp only [numsText, List.flatMap_cons, List.length_append, List.length_cons] at h2 ⊢
    omega

theorem lineText_len (wd : List UInt8) (l : List Int) (h : ∀ x ∈ l, I64 x) : (lineText wd l).length ≤ wd.length + 22 * l.length + 1 := by
  have := numsText_len l h
  simp only [lineText, List.length_append, List.length_cons, List.length_nil]; omega
theorem flatMap_take_succ {α β : Type} {l : List α} {g : α → List β} {k : Nat} {x : α} (h : l[k]? = some x) : (l.take (k + 1)).flatMap g = (l.take k).flatMap g ++ g x := by
  rw [take_succ_of h]; simp
theorem strCells_of (l : List UInt8) : Lib.strCells ⟨l.toArray⟩ = Lib.byteCells l := by simp [Lib.strCells, Lib.byteCells]
theorem byteCells_append (a b : List UInt8) : Lib.byteCells (a ++ b) = Lib.byteCells a ++ Lib.byteCells b := by simp [Lib.byteCells]

theorem isBuilder_keep {T e : TypeId} {B b : Nat} {bs : List Value} {w w' : World} (h : Lib.IsBuilder T e B b bs w) (hb : Below w.heap.size w w') : Lib.IsBuilder T e B b bs w' := by
  have key : ∀ p, Lib.BuilderAt T e B b p bs w → Lib.BuilderAt T e B b p bs w' := by
    rintro p ⟨h1, v, hbk, hown, hne⟩
    have hlt : b < w.heap.size := (Array.getElem?_eq_some_iff.1 hbk).1
    refine ⟨h1, v, (hb.block b hlt).trans hbk, ?_, hne⟩
    obtain ⟨hl, ho⟩ := hown
    refine ⟨hl, ?_⟩
    rcases ho with ho | ⟨g, cap, cur, hv, hg, hh, r⟩
    · exact .inl ho
    · exact .inr ⟨g, cap, cur, hv, hg, (hb.block g (Array.getElem?_eq_some_iff.1 hh).1).trans hh, r⟩
  rcases h with h | h
  · exact .inl (key _ h)
  · exact .inr (key _ h)
end Go.Proofs.YtmnjmegejaejlaaDoor

namespace Go.Proofs.YtmnjmegejaejlaaDoor
open Go.RowKit

/-- The library's variable MaxLen lies where it was. -/
def ML (w : World) : Prop := 1 < w.heap.size ∧ ∃ m, w.cell? ⟨1, 0, none⟩ = some (.int .i64 m)
theorem ML.keep {B : Nat} {w w' : World} (h : ML w) (hb : Below B w w') (hB : 1 < B) : ML w' := by
  obtain ⟨h1, m, h2⟩ := h
  exact ⟨Nat.lt_of_lt_of_le h1 hb.size, m, (hb.cell (p := ⟨1, 0, none⟩) hB).trans h2⟩
/-- The value v is a slice of the texts l. -/
def Txts (w : World) (v : Value) (l : List (List UInt8)) : Prop :=
  ∃ A c, v = .slice A l.length c ∧ l.length ≤ c ∧ c ≤ maxLen ∧ Rd w A (l.map fun s => Value.string ⟨s.toArray⟩)
theorem Txts.keep {w w' : World} {v : Value} {l : List (List UInt8)} (h : Txts w v l) (hb : Below w.heap.size w w') : Txts w' v l := by
  obtain ⟨A, c, h1, h2, h3, h4⟩ := h
  exact ⟨A, c, h1, h2, h3, h4.keep hb⟩
theorem pieces_len (c : UInt8) (s : List UInt8) : (pieces c s).length ≤ s.length + 1 := by
  induction s with
  | nil => simp [pieces]
  | cons x r ih =>
    unfold pieces
    split
    · simp; omega
    · split
      · simp
      · rename_i q qs e
        rw [e] at ih
        simp at ih ⊢; omega
theorem bytes_eta (s : ByteArray) : (⟨s.data.toList.toArray⟩ : ByteArray) = s := by cases s; rfl
theorem splitB_eq (c : UInt8) (l : List UInt8) : Lib.splitB ⟨#[c]⟩ 0 (Lib.countB ⟨l.toArray⟩ ⟨#[c]⟩) ⟨l.toArray⟩ = (pieces c l).map fun s => (⟨s.toArray⟩ : ByteArray) := by
  have h := split_pieces c ⟨l.toArray⟩
  simp only at h
  rw [← h, List.map_map]
  conv => lhs; rw [← List.map_id (Lib.splitB ⟨#[c]⟩ 0 (Lib.countB ⟨l.toArray⟩ ⟨#[c]⟩) ⟨l.toArray⟩)]
  exact List.map_congr_left fun s _ => (bytes_eta s).symm
theorem count_eq (c : UInt8) (l : List UInt8) : Lib.countB ⟨l.toArray⟩ ⟨#[c]⟩ + 1 = (pieces c l).length := by
  have h1 := Lib.splitB_all ⟨#[c]⟩ (Nat.le_refl 1) 0 _ ⟨l.toArray⟩ rfl
  rw [splitB_eq, List.length_map] at h1
  exact h1.symm

theorem split_new (c : UInt8) (l : List UInt8) (w : World) (hl : l.length ≤ 1000000000) (hm : ML w) :
    Calls Tryd.prog 17 #[.string ⟨l.toArray⟩, .string ⟨#[c]⟩] w fun e w' => ∃ k, e = .returned (.slice (some ⟨w.heap.size, 0, none⟩) (pieces c l).length k) ∧ Txts w' (.slice (some ⟨w.heap.size, 0, none⟩) (pieces c l).length k) (pieces c l) ∧ Below w.heap.size w w' := by
  obtain ⟨h0, m, hm⟩ := hm
  refine (Tryd.strings_Split ⟨l.toArray⟩ ⟨#[c]⟩ m w (by show l.toArray.size < _; simp; omega) hm (Nat.le_refl 1)).mono ?_
  rintro e w' ⟨rfl, rfl⟩
  have hp := pieces_len c l
  refine ⟨_, by rw [count_eq], ⟨_, _, rfl, Nat.le_refl _, by unfold maxLen; omega, fun _ => ⟨_, 0, rfl, by simp, fun j u hu => ?_⟩⟩, by go_grown⟩
  have hB := Blk.new w 9 ((Lib.splitB ⟨#[c]⟩ 0 (Lib.countB ⟨l.toArray⟩ ⟨#[c]⟩) ⟨l.toArray⟩).map Value.string).toArray
  rw [Nat.zero_add, hB.cell, List.getElem?_toArray, splitB_eq, List.map_map]
  exact hu
theorem split_any (c : UInt8) (l : List UInt8) (w : World) (hl : l.length ≤ 1000000000) (hm : ML w) :
    Calls Tryd.prog 17 #[.string ⟨l.toArray⟩, .string ⟨#[c]⟩] w fun e w' => ∃ A k, e = .returned (.slice A (pieces c l).length k) ∧ Txts w' (.slice A (pieces c l).length k) (pieces c l) ∧ Below w.heap.size w w' :=
  (split_new c l w hl hm).mono fun _ _ ⟨k, h⟩ => ⟨_, k, h⟩
theorem cut_any (c : UInt8) (l : List UInt8) (w : World) (hl : l.length ≤ 1000000000) (hm : ML w) :
    Calls Tryd.prog 15 #[.string ⟨l.toArray⟩, .string ⟨#[c]⟩] w fun e w' => e = .returned (.tuple #[.string ⟨(Lib.cut l [c]).1.toArray⟩, .string ⟨(Lib.cut l [c]).2.1.toArray⟩, .bool (Lib.cut l [c]).2.2]) ∧ ∃ n, w' = w.drewN n := by
  obtain ⟨h0, m, hm⟩ := hm
  exact (Tryd.strings_Cut ⟨l.toArray⟩ ⟨#[c]⟩ m w (by show l.toArray.size < _; simp; omega) hm).mono fun e w' h => h
theorem cut_fromT (A : Option Addr) (n c k : Nat) (hk : k ≤ n) (hn : n ≤ c) :
    ∃ dp, (∀ w, (Instr.slice 25 (.slice A n c) (some (.int .i64 (k : Int))) none none).run Tryd.prog w = .ok (.slice dp (n - k) (c - k)) w) ∧ (k < n → dp = A.map fun a => a.add k) := by
  refine ⟨if c = k then A else A.map fun a => a.add k, fun w => ?_, fun h => by rw [if_neg (by omega)]⟩
  rw [run_slice_l (P := Tryd.prog) (w := w) 25 _ n c (by kernel_rfl) .i64 (k : Int) (by omega) (by omega), show (sizeOf (Tryd.prog.elem 25)).run Tryd.prog w = .ok 1 w by kernel_rfl]
  simp only [Result.andThen, sliced, Int.toNat_natCast, Nat.mul_one]
end Go.Proofs.YtmnjmegejaejlaaDoor
