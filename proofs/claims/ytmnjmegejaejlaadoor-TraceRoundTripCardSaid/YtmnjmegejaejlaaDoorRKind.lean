/-
  WALKS: interleaveref16.kinds, kindOf; interleaveref01.Letter, Digit, inner, Keywords, IsKeyword, IsName.
-/
import Derived.Test.YtmnjmegejaejlaaDoorTrdr
namespace Go.Proofs.YtmnjmegejaejlaaDoor
open Go.RowKit

theorem strV_at {l : List (List UInt8)} {j : Nat} {p : List UInt8} (h : l[j]? = some p) : (strV l)[j]? = some (.string ⟨p.toArray⟩) := by unfold strV; rw [List.getElem?_map, h]; rfl
/-- A call that makes a slice of the texts l. -/
def StrsRet (l : List (List UInt8)) (n : Nat) (w : World) (e : Ending) (w' : World) : Prop := e = .returned (.slice (some ⟨w.heap.size, 0, none⟩) n n) ∧ w' = w.alloc (.cells (strV l).toArray 9)
set_option maxRecDepth 100000 in
set_option maxHeartbeats 2000000 in
theorem rkinds_any (w : World) : Calls Tryd.prog 28 #[] w (StrsRet kindsL 23 w) := by
  go_enter Tryd.func28, Tryd.ntmps28
  go_wp2_with fail
  go_ret
  exact ⟨rfl, rfl⟩
set_option maxRecDepth 100000 in
set_option maxHeartbeats 2000000 in
theorem rkeys_any (w : World) : Calls Tryd.prog 67 #[] w (StrsRet keysL 22 w) := by
  go_enter Tryd.func67, Tryd.ntmps67
  go_wp2_with fail
  go_ret
  exact ⟨rfl, rfl⟩
set_option maxRecDepth 100000 in
set_option maxHeartbeats 4000000 in
theorem rkindOf_any (s : List UInt8) (w : World) :
    Calls Tryd.prog 58 #[.string ⟨s.toArray⟩] w fun e w' => e = .returned (.int .i64 (((kindI s).getD 0 : Nat) : Int)) ∧ Below w.heap.size w w' := by
  have HKL : Hid (kindsL.length = 23) := Lib.hid rfl
  go_enter Tryd.func58, Tryd.ntmps58
  go_wp2_with fail
  refine (rkinds_any w).mono ?_
  rintro e w2 ⟨rfl, hw2⟩
  have HBK : Hid (Blk w2 w.heap.size 9 (strV kindsL).toArray) := Lib.hid (by rw [hw2]; exact Blk.new _ _ _)
  have HB2 : Hid (Below w.heap.size w w2) := Lib.hid (by rw [hw2]; exact (Below.refl _ _).alloc (Nat.le_refl _) _)
  have HLT := Lib.hid HBK.out.lt
  clear hw2
  go_wp2_with fail
  go_loopw [4] (fun i wr => ∃ j : Nat, j ≤ 23 ∧ i = .int .i64 (j : Int) ∧ Hid (s ∉ kindsL.take j) ∧ wr = w2) (fun i _ => 23 - (intOf i).toNat)
  case atStart => exact ⟨0, by omega, rfl, Lib.hid (by simp), rfl⟩
  case round =>
    obtain ⟨j, hj, rfl, HNI, rfl⟩ := hrel
    by_cases hj2 : j < 23
    · obtain ⟨p, hp⟩ : ∃ p, kindsL[j]? = some p := ⟨_, List.getElem?_eq_getElem (by have := HKL.out; omega)⟩
      have hc := HBK.out.cell j
      rw [List.getElem?_toArray, strV_at hp] at hc
      have HPJ := Lib.hid hp
      clear hp
      by_cases hsp : p = s
      · have HK : Hid (kindI s = some (j + 1)) := Lib.hid (kindI_at (by rw [← hsp]; exact HPJ.out) HNI.out)
        have q0 : (p == s) = true := by rw [beq_iff_eq]; exact hsp
        clear hsp
        go_wp2_with fail
        go_ret
        exact ⟨by rw [HK.out]; simp, HB2.out⟩
      · have q0 : (p == s) = false := by rw [beq_eq_false_iff_ne]; exact hsp
        have HN2 : Hid (s ∉ kindsL.take (j + 1)) := Lib.hid (contains_take HNI.out HPJ.out (fun e => hsp e.symm))
        clear hsp
        go_wp2_with fail
        go_roundw
        case rel => exact ⟨j + 1, by omega, by go_num, HN2, trivial⟩
        case measure => simp [intOf]; omega
    · obtain rfl : j = 23 := by omega
      have HK : Hid (kindI s = none) := Lib.hid (kindI_none (by
        have h := HNI.out
        rwa [List.take_of_length_le (by rw [HKL.out]; omega)] at h))
      go_wp2_with fail
      go_ret
      exact ⟨by rw [HK.out]; rfl, HB2.out⟩
set_option maxRecDepth 100000 in
set_option maxHeartbeats 4000000 in
theorem rkey_any (s : List UInt8) (w : World) :
    Calls Tryd.prog 46 #[.string ⟨s.toArray⟩] w fun e w' => e = .returned (.bool (keysL.contains s)) ∧ Below w.heap.size w w' := by
  have HKL : Hid (keysL.length = 22) := Lib.hid rfl
  go_enter Tryd.func46, Tryd.ntmps46
  go_wp2_with fail
  refine (rkeys_any w).mono ?_
  rintro e w2 ⟨rfl, hw2⟩
  have HBK : Hid (Blk w2 w.heap.size 9 (strV keysL).toArray) := Lib.hid (by rw [hw2]; exact Blk.new _ _ _)
  have HB2 : Hid (Below w.heap.size w w2) := Lib.hid (by rw [hw2]; exact (Below.refl _ _).alloc (Nat.le_refl _) _)
  have HLT := Lib.hid HBK.out.lt
  clear hw2
  go_wp2_with fail
  go_loopw [4] (fun i wr => ∃ j : Nat, j ≤ 22 ∧ i = .int .i64 (j : Int) ∧ Hid (s ∉ keysL.take j) ∧ wr = w2) (fun i _ => 22 - (intOf i).toNat)
  case atStart => exact ⟨0, by omega, rfl, Lib.hid (by simp), rfl⟩
  case round =>
    obtain ⟨j, hj, rfl, HNI, rfl⟩ := hrel
    by_cases hj2 : j < 22
    · obtain ⟨p, hp⟩ : ∃ p, keysL[j]? = some p := ⟨_, List.getElem?_eq_getElem (by have := HKL.out; omega)⟩
      have hc := HBK.out.cell j
      rw [List.getElem?_toArray, strV_at hp] at hc
      have HPJ := Lib.hid hp
      clear hp
      by_cases hsp : p = s
      · have q0 : (p == s) = true := by rw [beq_iff_eq]; exact hsp
        have HC : Hid (keysL.contains s = true) := Lib.hid (by rw [List.contains_iff_mem, ← hsp]; exact List.mem_of_getElem? HPJ.out)
        clear hsp
        go_wp2_with fail
        go_ret
        exact ⟨by rw [HC.out]; rfl, HB2.out⟩
      · have q0 : (p == s) = false := by rw [beq_eq_false_iff_ne]; exact hsp
        have HN2 : Hid (s ∉ keysL.take (j + 1)) := Lib.hid (contains_take HNI.out HPJ.out (fun e => hsp e.symm))
        clear hsp
        go_wp2_with fail
        go_roundw
        case rel => exact ⟨j + 1, by omega, by go_num, HN2, trivial⟩
        case measure => simp [intOf]; omega
    · obtain rfl : j = 22 := by omega
      have HC : Hid (keysL.contains s = false) := Lib.hid (by
        have h := HNI.out
        rw [List.take_of_length_le (by rw [HKL.out]; omega)] at h
        cases e : keysL.contains s with
        | false => rfl
        | true => rw [List.contains_iff_mem] at e; exact absurd e h)
      go_wp2_with fail
      go_ret
      exact ⟨by rw [HC.out]; rfl, HB2.out⟩
end Go.Proofs.YtmnjmegejaejlaaDoor
