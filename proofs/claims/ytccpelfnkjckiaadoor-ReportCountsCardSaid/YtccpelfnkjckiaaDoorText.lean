/-
  WALKS: formula.line, interleaveref31.words: a word and numbers as a line.
-/
import Derived.Test.YtccpelfnkjckiaaDoorBuild
import Derived.Lib.LaidTab
import Derived.WalkSmall
import Derived.Lib.ItoaLen
namespace Go.Proofs.YtccpelfnkjckiaaDoor
open Go.RowKit

/-- strconv's table of powers of ten holds what its initialiser lays. -/
def Tab (w : World) : Prop := Lib.TabIs Tryd.prog w "internal/strconv.uint64pow10" .u64 Lib.pow10Tab
theorem gTab : Tryd.prog.globalNamed "internal/strconv.uint64pow10" = some 1 := by kernel_rfl
theorem Tab.keep {B : Nat} {w w' : World} (h : Tab w) (hb : Below B w w') (hB : 1 < B) : Tab w' := var?_below hb gTab hB h
theorem Tab.lt {w : World} (h : Tab w) : 1 < w.heap.size := by
  unfold Tab Lib.TabIs World.var? at h
  rw [gTab] at h
  simp only [Option.bind_some] at h
  rcases Nat.lt_or_ge 1 w.heap.size with hl | hl
  · exact hl
  · rw [Array.getElem?_eq_none hl] at h; simp at h

theorem below_grow (w : World) (k : Nat) (os : Array Obj) : Below w.heap.size w (Sort.grow (w.drewN k) os) := by
  refine ⟨rfl, rfl, rfl, ?_, fun i hi => ?_⟩
  · simp [Sort.grow, World.drewN]
  · show (w.heap ++ os)[i]? = w.heap[i]?
    rw [Array.getElem?_append_left hi]

theorem itoa_any (n : Int) (w : World) (hn : I64 n) (hT : Tab w) :
    Calls Tryd.prog 48 #[.int .i64 n] w fun e w' => e = .returned (.string ⟨(Lib.itoa n).toArray⟩) ∧ Below w.heap.size w w' := by
  refine (Tryd.strconv_Itoa n hn.1 hn.2 w hT).mono ?_
  rintro e w' ⟨rfl, k, os, rfl⟩
  exact ⟨rfl, below_grow w k os⟩

theorem itoa_len (n : Int) (h : I64 n) : (Lib.itoa n).length ≤ 21 := by
  obtain ⟨h1, h2⟩ := h
  unfold Lib.itoa
  split
  · have := Lib.nDigits_le20 n.natAbs (by omega)
    simp only [List.length_cons, Lib.decDigits_length]; omega
  · have := Lib.nDigits_le20 n.toNat (by omega)
    simp only [Lib.decDigits_length]; omega
theorem bsize (l : List UInt8) : (ByteArray.mk l.toArray).size = l.length := by simp [ByteArray.size]

/-- The numbers of a line, each behind a blank. -/
def numsText (l : List Int) : List UInt8 := l.flatMap fun n => 32 :: Lib.itoa n
def lineText (word : List UInt8) (l : List Int) : List UInt8 := word ++ numsText l ++ [10]

theorem numsText_snoc (l : List Int) (x : Int) : numsText (l ++ [x]) = numsText l ++ (32 :: Lib.itoa x) := by simp [numsText]
theorem numsText_len (l : List Int) (h : ∀ x ∈ l, I64 x) : (numsText l).length ≤ 22 * l.length := by
  induction l with
  | nil => simp [numsText]
  | cons x r ih =>
    have h1 := itoa_len x (h x (by simp))
    have h2 := ih fun y hy => h y (by simp [hy])
    simp only [numsText, List.flatMap_cons, List.length_append, List.length_cons] at h2 ⊢
    omega

theorem strCells_of (l : List UInt8) : Lib.strCells ⟨l.toArray⟩ = Lib.byteCells l := by simp [Lib.strCells, Lib.byteCells]
theorem byteCells_append (a b : List UInt8) : Lib.byteCells (a ++ b) = Lib.byteCells a ++ Lib.byteCells b := by simp [Lib.byteCells]

theorem isBuilder_keep {T e : TypeId} {B b : Nat} {bs : List Value} {w w' : World} (h : Lib.IsBuilder T e B b bs w) (hb : Below w.heap.size w w') : Lib.IsBuilder T e B b bs w' := by
  have key : ∀ p, Lib.BuilderAt T e B b p bs w → Lib.BuilderAt T e B b p bs w' := by
    rintro p ⟨h1, v, hbk, hown, hne⟩
    have hlt : b < w.heap.size := (Array.getElem?_eq_some_iff.1 hbk).1
    refine ⟨h1, v, (hb.block b hlt).trans hbk, ?_, hne⟩
    obtain ⟨hl, ho⟩ := hown
    refine ⟨hl, ?_⟩
    rcases ho with ho | ⟨g, cap, cur, hv, hg, hh, r⟩
    · exact .inl ho
    · exact .inr ⟨g, cap, cur, hv, hg, (hb.block g (Array.getElem?_eq_some_iff.1 hh).1).trans hh, r⟩
  rcases h with h | h
  · exact .inl (key _ h)
  · exact .inr (key _ h)

set_option maxHeartbeats 1000000 in
theorem line_any (B b : Nat) (acc word : List UInt8) (v : Value) (xs : List Int) (w : World) (hB : Lib.IsBuilder 104 5 B b (Lib.byteCells acc) w)
    (hT : Tab w) (hTB : 1 < B) (hv : ∀ w', Kept B b w w' → Ints w' v xs) (hlen : acc.length + word.length + 22 * xs.length + 1 ≤ 140737488355328) (hBw : B ≤ w.heap.size) :
    Calls Tryd.prog 59 #[.pointer (some ⟨b, 0, none⟩), .string ⟨word.toArray⟩, v] w fun e w' => e = .returned (.tuple #[]) ∧ Lib.IsBuilder 104 5 B b (Lib.byteCells (acc ++ lineText word xs)) w' ∧ Kept B b w w' := by
  obtain ⟨A, c, rfl, hl, hm, hx, _⟩ := hv w (Kept.refl _ _ _)
  have HV := Lib.hid hv
  have HX := Lib.hid hx
  have HB := Lib.hid hB
  have HT := Lib.hid hT
  clear hv hx hB hT
  unfold maxLen at hm
  go_enter Tryd.func59, Tryd.ntmps59
  go_wp2_with fail
  refine (writeString_any B b _ _ _ HB.out (by rw [Lib.byteCells_length, bsize]; omega) hBw).mono ?_
  rintro e w1 ⟨rfl, h1, k1⟩
  rw [strCells_of, ← byteCells_append] at h1
  have HB1 := Lib.hid (show Lib.IsBuilder 104 5 B b _ w1 from .inr h1)
  have HK1 := Lib.hid k1
  clear h1 k1
  go_wp2_with fail
  go_loopw [13] (fun i wr => ∃ k : Nat, k ≤ xs.length ∧ i = .int .i64 k ∧ Lib.IsBuilder 104 5 B b (Lib.byteCells (acc ++ word ++ numsText (xs.take k))) wr ∧ Kept B b w wr) (fun i _ => xs.length - (intOf i).toNat)
  case atStart => exact ⟨0, by omega, rfl, by simpa [numsText] using HB1.out, HK1.out⟩
  case round =>
    obtain ⟨k, hk, rfl, hb, hkept⟩ := hrel
    have HBk := Lib.hid hb
    have HKk := Lib.hid hkept
    clear hb hkept
    have hBr : B ≤ wr.heap.size := Nat.le_trans hBw HKk.out.below.size
    by_cases hlt : k < xs.length
    · obtain ⟨x, hxk⟩ : ∃ x, xs[k]? = some x := ⟨_, List.getElem?_eq_getElem hlt⟩
      obtain ⟨A', c', hv, hl2, _, _, hr⟩ := HV.out wr HKk.out
      injection hv with hA _ hc
      subst hA hc
      obtain ⟨b1, o1, rfl, hb1, hc1⟩ := hr.int hxk
      have HXI := Lib.hid (HX.out x (List.mem_of_getElem? hxk))
      have HXK := Lib.hid hxk
      clear hxk hr
      have hnl : (numsText (xs.take k)).length ≤ 22 * k := by
        have := numsText_len (xs.take k) fun y hy => HX.out y (List.mem_of_mem_take hy)
        have h2 := List.length_take_le k xs
        omega
      have hil := itoa_len x HXI.out
      go_wp2_with fail
      refine (writeByte_any B b _ _ _ HBk.out (by simp [Lib.byteCells_length]; omega) hBr).mono ?_
      rintro e w2 ⟨rfl, h2, k2⟩
      have HB2 := Lib.hid (show Lib.IsBuilder 104 5 B b _ w2 from .inr h2)
      have HK2 := Lib.hid k2
      clear h2 k2
      go_wp2_with fail
      refine (itoa_any x _ HXI.out (HT.out.keep (HKk.out.below.trans HK2.out.below) hTB)).mono ?_
      rintro e w3 ⟨rfl, hb3⟩
      have HB3 := Lib.hid hb3
      clear hb3
      have hk2 : Kept B b w w3 := (HKk.out.trans HK2.out).trans (Kept.of_below HB3.out (Nat.le_trans hBr HK2.out.below.size))
      have hb3 : Lib.IsBuilder 104 5 B b (Lib.byteCells (acc ++ word ++ numsText (xs.take k) ++ [32])) w3 := by
        rw [byteCells_append _ [32]]
        exact isBuilder_keep HB2.out HB3.out
      have HK3 := Lib.hid hk2
      have HB4 := Lib.hid hb3
      clear hk2 hb3
      go_wp2_with fail
      refine (writeString_any B b _ _ _ HB4.out (by rw [Lib.byteCells_length, bsize]; simp; omega) (Nat.le_trans hBw HK3.out.below.size)).mono ?_
      rintro e w4 ⟨rfl, h4, k4⟩
      rw [strCells_of, ← byteCells_append] at h4
      have HB5 := Lib.hid (show Lib.IsBuilder 104 5 B b _ w4 from .inr h4)
      have HK4 := Lib.hid (HK3.out.trans k4)
      clear h4 k4
      go_wp2_with fail
      go_roundw
      case rel => exact ⟨k + 1, by omega, by go_num, by rw [take_succ_of HXK.out, numsText_snoc]; simpa using HB5.out, HK4.out⟩
      case measure => simp [intOf]; omega
    · have hnl : (numsText (xs.take k)).length ≤ 22 * k := by
        have := numsText_len (xs.take k) fun y hy => HX.out y (List.mem_of_mem_take hy)
        have h2 := List.length_take_le k xs
        omega
      go_wp2_with fail
      refine (writeByte_any B b _ _ _ HBk.out (by simp [Lib.byteCells_length]; omega) hBr).mono ?_
      rintro e w2 ⟨rfl, h2, k2⟩
      have HB2 := Lib.hid h2
      have HK2 := Lib.hid (HKk.out.trans k2)
      clear h2 k2
      go_wp2_with fail
      go_end0
      refine ⟨rfl, .inr ?_, HK2.out⟩
      have h := HB2.out
      rw [List.take_of_length_le (by omega)] at h
      simpa [lineText, byteCells_append, Lib.byteCells] using h
end Go.Proofs.YtccpelfnkjckiaaDoor
