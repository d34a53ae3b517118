/-
  WALKS: interleaveref16.num, nums.
-/
import Derived.Test.YtmnjmegejaejlaaDoorTT32
import Derived.Test.YtmnjmegejaejlaaDoorTT10
namespace Go.Proofs.YtmnjmegejaejlaaDoor
open Go.RowKit

theorem str_app (a b : List UInt8) : ByteArray.mk a.toArray ++ ByteArray.mk b.toArray = ByteArray.mk (a ++ b).toArray := by
  rw [ByteArray.ext_iff]
  simp [ByteArray.data_append]
theorem str_sp (a : List UInt8) : ByteArray.mk #[32] ++ ByteArray.mk a.toArray = ByteArray.mk (32 :: a).toArray := str_app [32] a
theorem tailS_mapN (l : List Int) : tailS (l.map Lib.itoa) = numsText l := by
  unfold tailS numsText
  induction l with
  | nil => rfl
  | cons x r ih => rw [List.map_cons, List.flatMap_cons, List.flatMap_cons, ih]
theorem rnum_any (n : Int) (w : World) (hn : I64 n) (hT : Tab w) :
    Calls Tryd.prog 27 #[.int .i64 n] w fun e w' => e = .returned (.string ⟨(32 :: Lib.itoa n).toArray⟩) ∧ Below w.heap.size w w' := by
  have hln := itoa_len n hn
  go_enter Tryd.func27, Tryd.ntmps27
  go_wp2_with fail
  refine (itoa_any n w hn hT).mono ?_
  rintro e w1 ⟨rfl, hb⟩
  go_wp2_with fail
  go_ret
  exact ⟨congrArg (fun s => Ending.returned (Value.string s)) (str_sp _), hb⟩
set_option maxRecDepth 100000 in
set_option maxHeartbeats 2000000 in
theorem rnums_any (word : List UInt8) (A : Option Addr) (c : Nat) (l : List Int) (w : World) (hl : Ints w (.slice A l.length c) l) (hp : PT w) (hn : l.length ≤ 1000000000) (hw : word.length ≤ 1000) :
    Calls Tryd.prog 29 #[.string ⟨word.toArray⟩, .slice A l.length c] w fun e w' => e = .returned (.string ⟨(tailS (numsP word l)).toArray⟩) ∧ Below w.heap.size w w' := by
  have HL := Lib.hid hl
  have HP := Lib.hid hp
  clear hl hp
  go_enter Tryd.func29, Tryd.ntmps29
  by_cases h0 : l = []
  · have z0 : ((l.length : Int) == 0) = true := by rw [h0]; rfl
    have HN : Hid (numsP word l = []) := Lib.hid (by rw [h0]; rfl)
    clear h0
    go_wp2_with fail
    go_ret
    exact ⟨by rw [HN.out]; rfl, Below.refl _ _⟩
  · have hpos : 0 < l.length := List.length_pos_iff.2 h0
    have z0 : ((l.length : Int) == 0) = false := by rw [beq_eq_false_iff_ne]; omega
    have HN : Hid (numsP word l = word :: l.map Lib.itoa) := Lib.hid (by unfold numsP; rw [if_neg h0])
    have hsp := str_sp word
    clear h0
    go_wp2_with fail
    clear hsp
    go_loopw [5, 6] (fun sv iv wr => ∃ k : Nat, k ≤ l.length ∧ iv = .int .i64 (k : Int) ∧ sv = .string ⟨(32 :: word ++ numsText (l.take k)).toArray⟩ ∧ Hid (Below w.heap.size w wr)) (fun _ iv _ => l.length - (intOf iv).toNat)
    case atStart => exact ⟨0, by omega, rfl, by simp [numsText], Lib.hid (Below.refl _ _)⟩
    case round =>
      obtain ⟨k, hk, rfl, rfl, HB⟩ := hrel
      by_cases hlt : k < l.length
      · obtain ⟨x, hx⟩ : ∃ x, l[k]? = some x := ⟨_, List.getElem?_eq_getElem hlt⟩
        obtain ⟨A', c', e, -, -, hi, hr⟩ := HL.out.keep HB.out
        injection e with e1 _ e3
        subst e1 e3
        obtain ⟨b1, o1, rfl, hb1, hc1⟩ := hr.int hx
        have HIX : Hid (I64 x) := Lib.hid (hi x (List.mem_of_getElem? hx))
        have HTS : Hid (32 :: word ++ numsText (l.take (k + 1)) = (32 :: word ++ numsText (l.take k)) ++ (32 :: Lib.itoa x)) := Lib.hid (by rw [take_succ_of hx, numsText_snoc, List.append_assoc])
        have lk : (k : Int) < (l.length : Int) := by omega
        have lm : (k : Int) < 1000000000 := by omega
        have htx : (32 :: word ++ numsText (l.take k)).length ≤ 100000000000 := by
          have h1 := numsText_len (l.take k) (fun y hy => hi y (List.mem_of_mem_take hy))
          have h2 := List.length_take_le k l
          simp only [List.length_append, List.length_cons]; omega
        have hlx : (32 :: Lib.itoa x).length ≤ 22 := by have := itoa_len x HIX.out; simp; omega
        clear hx hi hr hb1
        generalize 32 :: word ++ numsText (l.take k) = tx at *
        generalize hix : 32 :: Lib.itoa x = ix at *
        go_wp2_with fail
        refine (rnum_any x wr HIX.out (HP.out.below HB.out).tab).mono ?_
        rintro e w1 ⟨rfl, hb⟩
        rw [hix]
        have HB1 : Hid (Below w.heap.size w w1) := Lib.hid (HB.out.trans (hb.mono HB.out.size))
        clear hb hc1
        go_wp2_with fail
        go_roundw
        case rel => exact ⟨k + 1, by omega, by go_num, by rw [HTS.out, str_app], HB1⟩
        case measure => simp [intOf]; omega
      · obtain rfl : k = l.length := by omega
        have lk : ¬ ((l.length : Int) < (l.length : Int)) := by omega
        go_wp2_with fail
        go_ret
        exact ⟨by rw [HN.out, tailS_cons, tailS_mapN]; rfl, HB.out⟩
end Go.Proofs.YtmnjmegejaejlaaDoor
