/-
  WALK: interleavelaw31.FormulaOpposite.
-/
import Derived.Test.YtieahhhpajoomaaDoorAwake31
import Derived.Test.YtieahhhpajoomaaDoorLawBounds
import Derived.Deep.RegionHeld3
namespace Go.Proofs.YtieahhhpajoomaaDoor
open Go.RowKit

theorem tmod_range (a n : Int) (hn : 0 < n) : -n < a.tmod n ∧ a.tmod n < n := by
  have h1 := Int.tmod_lt_of_pos a hn
  have h2 := Int.lt_tmod_of_pos a hn
  exact ⟨h2, h1⟩

set_option maxRecDepth 100000 in
set_option maxHeartbeats 2000000 in
theorem lawOpposite (c v u : Int) (w : World) (hc : I64 c) (hv : I64 v) (hu : I64 u) (hT : Tab w) :
    Calls Tryd.prog 5 #[.int .i64 c, .int .i64 v, .int .i64 u] w fun e w' => e = .returned (.bool true) ∧ Below w.heap.size w w' := by
  have HT := Lib.hid hT
  obtain ⟨hc1, hc2⟩ := hc
  obtain ⟨hv1, hv2⟩ := hv
  obtain ⟨hu1, hu2⟩ := hu
  obtain ⟨m1, m2⟩ := tmod_range c 1048576 (by omega)
  obtain ⟨m3, m4⟩ := tmod_range v 1073741824 (by omega)
  obtain ⟨m5, m6⟩ := tmod_range u 1073741824 (by omega)
  clear hT
  go_enter Tryd.func5, Tryd.ntmps5
  go_wp2_with fail
  generalize c.tmod 1048576 = c' at *
  generalize v.tmod 1073741824 = v' at *
  generalize u.tmod 1073741824 = u' at *
  clear hc1 hc2 hv1 hv2 hu1 hu2
  have B0 := (Blk.new w 36 #[.int .i64 0, .int .i64 1, .int .i64 c']).alloc (.cells #[.int .i64 2, .int .i64 1, .slice (some ⟨w.heap.size, 0, none⟩) 1 1, .slice none 0 0] 31)
  have B1 := Blk.new (w.alloc (.cells #[.int .i64 0, .int .i64 1, .int .i64 c'] 36)) 31 #[.int .i64 2, .int .i64 1, .slice (some ⟨w.heap.size, 0, none⟩) 1 1, .slice none 0 0]
  rw [World.size_alloc] at B1
  have hbW : Below w.heap.size w ((w.alloc (.cells #[.int .i64 0, .int .i64 1, .int .i64 c'] 36)).alloc (.cells #[.int .i64 2, .int .i64 1, .slice (some ⟨w.heap.size, 0, none⟩) 1 1, .slice none 0 0] 31)) := by go_grown
  generalize (w.alloc (.cells #[.int .i64 0, .int .i64 1, .int .i64 c'] 36)).alloc (.cells #[.int .i64 2, .int .i64 1, .slice (some ⟨w.heap.size, 0, none⟩) 1 1, .slice none 0 0] 31) = W at *
  have HDS := Lib.hid (diffs_lit (ds := [⟨0, 1, c'⟩]) B0 (by simp [Diff.ok, I64]; omega) (by simp [maxLen]))
  have HB1 := Lib.hid B1
  have HBW := Lib.hid hbW
  clear B0 B1 hbW
  have hCC : ∀ d ∈ [(⟨0, 1, c'⟩ : Diff)], -9223372036854775807 ≤ d.c := by simp; omega
  have HCC := Lib.hid hCC
  clear hCC
  refine (fbound_val _ _ _ _ [⟨0, 1, c'⟩] _ _ ⟨0, 1, c'⟩ true rfl HDS.out HCC.out (by simp [I64])).mono ?_
  rintro e w1 ⟨rfl, hb1⟩
  have HB2 := Lib.hid (HB1.out.keep hb1)
  have q0 := HB2.out.cell 0
  have q1 := HB2.out.cell 1
  have q2 := HB2.out.cell 2
  have q3 := HB2.out.cell 3
  simp only [List.getElem?_toArray, List.getElem?_cons_zero, List.getElem?_cons_succ] at q0 q1 q2 q3
  have hz := HB2.out.lt
  have HDS1 := Lib.hid (HDS.out.keep hb1)
  have HBW1 := Lib.hid (HBW.out.trans (hb1.mono HBW.out.size))
  clear hb1
  simp only
  go_wp2_with fail
  refine (fbound_val _ _ _ _ [⟨0, 1, c'⟩] _ _ ⟨1, 0, -c' - 1⟩ true rfl (HDS1.out.keep (by go_grown)) HCC.out (by simp [I64])).mono ?_
  rintro e w2 ⟨rfl, hb2⟩
  have BX := (Blk.new w1 36 #[.int .i64 0, .int .i64 1, .int .i64 c']).keep hb2
  have s0 := BX.cell 0
  have s1 := BX.cell 1
  have s2 := BX.cell 2
  simp only [List.getElem?_toArray, List.getElem?_cons_zero, List.getElem?_cons_succ] at s0 s1 s2
  have hz2 := BX.lt
  have HBW2 := Lib.hid ((HBW1.out.alloc HBW1.out.size _).trans (hb2.mono (by have := HBW1.out.size; simp; omega)))
  clear hb2 BX q0 q1 q2 q3
  have hfin : (decide (v' - u' ≤ c') != decide (u' - v' ≤ -c' - 1)) = true := by
    by_cases h : v' - u' ≤ c'
    · have h2 : ¬ u' - v' ≤ -c' - 1 := by omega
      simp [h, h2]
    · have h2 : u' - v' ≤ -c' - 1 := by omega
      simp [h, h2]
  simp only
  go_wp2_with fail
  refine (awake31 _ (HT.out.keep (HBW2.out.alloc HBW2.out.size _) HT.out.lt)).mono ?_
  rintro e w3 ⟨rfl, hb3⟩
  have HB3 := Lib.hid hb3
  clear hb3
  go_wp2_with fail
  go_ret
  exact ⟨ret_bool (show (!(decide (v' - u' ≤ c') == decide (u' - v' ≤ -c' - 1))) = true from hfin), (HBW2.out.alloc HBW2.out.size _).trans (HB3.out.mono (by have := HBW2.out.size; simp; omega))⟩
end Go.Proofs.YtieahhhpajoomaaDoor
