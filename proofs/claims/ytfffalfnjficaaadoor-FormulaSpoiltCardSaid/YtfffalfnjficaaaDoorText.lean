/-
  WALK: formula.line: a word and numbers as a line.
-/
import Derived.Test.YtfffalfnjficaaaDoorTextP
namespace Go.Proofs.YtfffalfnjficaaaDoor
open Go.RowKit

set_option maxHeartbeats 1000000 in
theorem line_any (B b : Nat) (acc word : List UInt8) (v : Value) (xs : List Int) (w : World) (hB : Lib.IsBuilder 69 5 B b (Lib.byteCells acc) w)
    (hT : Tab w) (hTB : 3 < B) (hv : ∀ w', Kept B b w w' → Ints w' v xs) (hlen : acc.length + word.length + 22 * xs.length + 1 ≤ 140737488355328) (hBw : B ≤ w.heap.size) :
    Calls Tryd.prog 30 #[.pointer (some ⟨b, 0, none⟩), .string ⟨word.toArray⟩, v] w fun e w' => e = .returned (.tuple #[]) ∧ Lib.IsBuilder 69 5 B b (Lib.byteCells (acc ++ lineText word xs)) w' ∧ Kept B b w w' := by
  obtain ⟨A, c, rfl, hl, hm, hx, _⟩ := hv w (Kept.refl _ _ _)
  have HV := Lib.hid hv
  have HX := Lib.hid hx
  have HB := Lib.hid hB
  have HT := Lib.hid hT
  clear hv hx hB hT
  unfold maxLen at hm
  go_enter Tryd.func30, Tryd.ntmps30
  go_wp2_with fail
  refine (writeString_any B b _ _ _ HB.out (by rw [Lib.byteCells_length, bsize]; omega) hBw).mono ?_
  rintro e w1 ⟨rfl, h1, k1⟩
  rw [strCells_of, ← byteCells_append] at h1
  have HB1 := Lib.hid (show Lib.IsBuilder 69 5 B b _ w1 from .inr h1)
  have HK1 := Lib.hid k1
  clear h1 k1
  go_wp2_with fail
  go_loopw [13] (fun i wr => ∃ k : Nat, k ≤ xs.length ∧ i = .int .i64 k ∧ Lib.IsBuilder 69 5 B b (Lib.byteCells (acc ++ word ++ numsText (xs.take k))) wr ∧ Kept B b w wr) (fun i _ => xs.length - (intOf i).toNat)
  case atStart => exact ⟨0, by omega, rfl, by simpa [numsText] using HB1.out, HK1.out⟩
  case round =>
    obtain ⟨k, hk, rfl, hb, hkept⟩ := hrel
    have HBk := Lib.hid hb
    have HKk := Lib.hid hkept
    clear hb hkept
    have hBr : B ≤ wr.heap.size := Nat.le_trans hBw HKk.out.below.size
    by_cases hlt : k < xs.length
    · obtain ⟨x, hxk⟩ : ∃ x, xs[k]? = some x := ⟨_, List.getElem?_eq_getElem hlt⟩
      obtain ⟨A', c', hv, hl2, _, _, hr⟩ := HV.out wr HKk.out
      injection hv with hA _ hc
      subst hA hc
      obtain ⟨b1, o1, rfl, hb1, hc1⟩ := hr.int hxk
      have HXI := Lib.hid (HX.out x (List.mem_of_getElem? hxk))
      have HXK := Lib.hid hxk
      clear hxk hr
      have hnl : (numsText (xs.take k)).length ≤ 22 * k := by
        have := numsText_len (xs.take k) fun y hy => HX.out y (List.mem_of_mem_take hy)
        have h2 := List.length_take_le k xs
        omega
      have hil := itoa_len x HXI.out
      go_wp2_with fail
      refine (writeByte_any B b _ _ _ HBk.out (by simp [Lib.byteCells_length]; omega) hBr).mono ?_
      rintro e w2 ⟨rfl, h2, k2⟩
      have HB2 := Lib.hid (show Lib.IsBuilder 69 5 B b _ w2 from .inr h2)
      have HK2 := Lib.hid k2
      clear h2 k2
      go_wp2_with fail
      refine (itoa_any x _ HXI.out (HT.out.keep (HKk.out.below.trans HK2.out.below) hTB)).mono ?_
      rintro e w3 ⟨rfl, hb3⟩
      have HB3 := Lib.hid hb3
      clear hb3
      have hk2 : Kept B b w w3 := (HKk.out.trans HK2.out).trans (Kept.of_below HB3.out (Nat.le_trans hBr HK2.out.below.size))
      have hb3 : Lib.IsBuilder 69 5 B b (Lib.byteCells (acc ++ word ++ numsText (xs.take k) ++ [32])) w3 := by
        rw [byteCells_append _ [32]]
        exact isBuilder_keep HB2.out HB3.out
      have HK3 := Lib.hid hk2
      have HB4 := Lib.hid hb3
      clear hk2 hb3
      go_wp2_with fail
      refine (writeString_any B b _ _ _ HB4.out (by rw [Lib.byteCells_length, bsize]; simp; omega) (Nat.le_trans hBw HK3.out.below.size)).mono ?_
      rintro e w4 ⟨rfl, h4, k4⟩
      rw [strCells_of, ← byteCells_append] at h4
      have HB5 := Lib.hid (show Lib.IsBuilder 69 5 B b _ w4 from .inr h4)
      have HK4 := Lib.hid (HK3.out.trans k4)
      clear h4 k4
      go_wp2_with fail
      go_roundw
      case rel => exact ⟨k + 1, by omega, by go_num, by rw [take_succ_of HXK.out, numsText_snoc]; simpa using HB5.out, HK4.out⟩
      case measure => simp [intOf]; omega
    · have hnl : (numsText (xs.take k)).length ≤ 22 * k := by
        have := numsText_len (xs.take k) fun y hy => HX.out y (List.mem_of_mem_take hy)
        have h2 := List.length_take_le k xs
        omega
      go_wp2_with fail
      refine (writeByte_any B b _ _ _ HBk.out (by simp [Lib.byteCells_length]; omega) hBr).mono ?_
      rintro e w2 ⟨rfl, h2, k2⟩
      have HB2 := Lib.hid h2
      have HK2 := Lib.hid (HKk.out.trans k2)
      clear h2 k2
      go_wp2_with fail
      go_end0
      refine ⟨rfl, .inr ?_, HK2.out⟩
      have h := HB2.out
      rw [List.take_of_length_le (by omega)] at h
      simpa [lineText, byteCells_append, Lib.byteCells] using h
end Go.Proofs.YtfffalfnjficaaaDoor
