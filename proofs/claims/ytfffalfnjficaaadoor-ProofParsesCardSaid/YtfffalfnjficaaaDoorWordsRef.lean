/-
  WALK: interleaveref31.words.
-/
import Derived.Test.YtfffalfnjficaaaDoorTextP
import Derived.Test.YtfffalfnjficaaaDoorLit
namespace Go.Proofs.YtfffalfnjficaaaDoor
open Go.RowKit

theorem str_append (a b : List UInt8) : (ByteArray.mk a.toArray) ++ (ByteArray.mk b.toArray) = ByteArray.mk (a ++ b).toArray := by
  apply ByteArray.ext
  simp

set_option maxHeartbeats 1000000 in
theorem words_any (word : List UInt8) (v : Value) (xs : List Int) (w : World) (hv : Ints w v xs) (hT : Tab w) (hlen : word.length + 22 * xs.length + 1 ≤ 140737488355328) :
    Calls Tryd.prog 28 #[.string ⟨word.toArray⟩, v] w fun e w' => e = .returned (.string ⟨(lineText word xs).toArray⟩) ∧ Below w.heap.size w w' := by
  obtain ⟨A, c, rfl, hl, hm, hx, hr⟩ := hv
  have HX := Lib.hid hx
  have HR := Lib.hid hr
  have HT := Lib.hid hT
  clear hx hr hT
  unfold maxLen at hm
  go_enter Tryd.func28, Tryd.ntmps28
  go_wp2_with fail
  go_loopw [0, 9] (fun s i wr => ∃ k : Nat, k ≤ xs.length ∧ i = .int .i64 k ∧ s = .string ⟨(word ++ numsText (xs.take k)).toArray⟩ ∧ Below w.heap.size w wr) (fun _ i _ => xs.length - (intOf i).toNat)
  case atStart => exact ⟨0, by omega, rfl, by simp [numsText], Below.refl _ _⟩
  case round =>
    obtain ⟨k, hk, rfl, rfl, hbk⟩ := hrel
    have HBk := Lib.hid hbk
    clear hbk
    have hnl : (numsText (xs.take k)).length ≤ 22 * k := by
      have := numsText_len (xs.take k) fun y hy => HX.out y (List.mem_of_mem_take hy)
      have h2 := List.length_take_le k xs
      omega
    by_cases hlt : k < xs.length
    · obtain ⟨x, hxk⟩ : ∃ x, xs[k]? = some x := ⟨_, List.getElem?_eq_getElem hlt⟩
      obtain ⟨b1, o1, rfl, hb1, hc1⟩ := (HR.out.keep HBk.out).int hxk
      have HXI := Lib.hid (HX.out x (List.mem_of_getElem? hxk))
      have HXK := Lib.hid hxk
      clear hxk
      have hil := itoa_len x HXI.out
      go_wp2_with fail
      refine (itoa_any x _ HXI.out (HT.out.keep HBk.out HT.out.lt)).mono ?_
      rintro e w3 ⟨rfl, hb3⟩
      have HB3 := Lib.hid hb3
      clear hb3
      go_wp2_with fail
      refine ⟨⟨k + 1, by omega, by go_num, ?_, HBk.out.trans (HB3.out.mono HBk.out.size)⟩, by simp [intOf]; omega⟩
      rw [take_succ_of HXK.out, numsText_snoc, show (ByteArray.mk #[32]) = ByteArray.mk [32].toArray from rfl, str_append, str_append]
      simp
    · have HE : Hid (lineText word xs = word ++ numsText (xs.take k) ++ [10]) := by rw [List.take_of_length_le (by omega)]; exact rfl
      go_wp2_with fail
      go_ret
      refine ⟨?_, HBk.out⟩
      rw [HE.out]
      exact congrArg (fun s => Ending.returned (.string s)) (str_append (word ++ numsText (xs.take k)) [10])

end Go.Proofs.YtfffalfnjficaaaDoor
