/-
  WALK: interleavelaw31.FormulaHolds.
-/
import Derived.Test.YtieahhhpajoomaaDoorAwake31
import Derived.Deep.RegionHeld3
namespace Go.Proofs.YtieahhhpajoomaaDoor
open Go.RowKit

set_option maxRecDepth 100000 in
set_option maxHeartbeats 1000000 in
theorem lawHolds (bv iv : Value) (bs : List Bool) (lit : Int) (w : World) (hb : Bools w bv bs) (hl : I64 lit) (hT : Tab w) :
    Calls Tryd.prog 8 #[.agg #[bv, iv], .int .i64 lit] w fun e w' => e = .returned (.bool true) ∧ Below w.heap.size w w' := by
  have HT := Lib.hid hT
  have HB := Lib.hid hb
  have HL := Lib.hid hl
  obtain ⟨A, c, rfl, h1, h2, hr⟩ := hb
  unfold maxLen at h2
  clear hT hl hr
  by_cases hbig : 200 < bs.length
  · have hd : decide ((200 : Int) < (bs.length : Int)) = true := by simp; omega
    go_enter Tryd.func8, Tryd.ntmps8
    go_wp2_with fail
    refine (awake31 _ (HT.out.keep (B := w.heap.size) (by go_grown) HT.out.lt)).mono ?_
    rintro e w1 ⟨rfl, hb1⟩
    have HB1 := Lib.hid hb1
    clear hb1
    go_wp2_with fail
    go_ret
    refine ⟨rfl, Below.trans (by go_grown) (HB1.out.mono (by simp))⟩
  · have hd : decide ((200 : Int) < (bs.length : Int)) = false := by simp; omega
    go_enter Tryd.func8, Tryd.ntmps8
    go_wp2_with fail
    have B0 := Blk.new w 44 #[.slice A bs.length c, iv]
    generalize hW : w.alloc (.cells #[.slice A bs.length c, iv] 44) = W at B0 ⊢
    have hbW : Below w.heap.size w W := by rw [← hW]; go_grown
    have hsz : W.heap.size = w.heap.size + 1 := by rw [← hW]; simp
    have HS := Lib.hid hsz
    have HB0 := Lib.hid B0
    have HBW := Lib.hid hbW
    clear hW hsz B0 hbW
    go_loopw [5] (fun i wr => ∃ k : Nat, k ≤ 2 * bs.length + 3 ∧ i = .int .i64 ((k : Int) - bs.length - 1) ∧ Below W.heap.size W wr) (fun i _ => (2 * (bs.length : Int) + 3 - (intOf i + bs.length + 1)).toNat)
    case atStart => exact ⟨0, by omega, by go_num, Below.refl _ _⟩
    case round =>
      obtain ⟨k, hk, rfl, hbw⟩ := hrel
      have HBR := Lib.hid hbw
      have B1 := HB0.out.keep hbw
      have q0 := B1.cell 0
      have q1 := B1.cell 1
      simp only [List.getElem?_toArray, List.getElem?_cons_zero, List.getElem?_cons_succ] at q0 q1
      have hz : w.heap.size < wr.heap.size := by have := hbw.size; have := HS.out; omega
      have HBB := Lib.hid (HBW.out.trans (hbw.mono (by have := HS.out; omega)) : Below w.heap.size w wr)
      clear B1 hbw
      by_cases hlt : k < 2 * bs.length + 3
      · have HSOF : Hid (∀ w', Below wr.heap.size wr w' → w'.cell? ⟨w.heap.size, 0, none⟩ = some (.slice A bs.length c) ∧ w'.cell? ⟨w.heap.size, 1, none⟩ = some iv ∧ Below wr.heap.size wr w') :=
          fun w' h => ⟨(h.cell (p := ⟨w.heap.size, 0, none⟩) hz).trans q0, (h.cell (p := ⟨w.heap.size, 1, none⟩) hz).trans q1, h⟩
        go_wp2_with fail
        go_region_held3 (fun w' => w'.cell? ⟨w.heap.size, 0, none⟩ = some (.slice A bs.length c) ∧ w'.cell? ⟨w.heap.size, 1, none⟩ = some iv ∧ Below wr.heap.size wr w') (first | assumption | exact HSOF.out _ (Below.refl _ _).drew) (first
          | (go_at_call 24; refine (fholds_any _ _ bs _ _ (HB.out.keep HBB.out.drew) ⟨by omega, by omega⟩).mono ?_; rintro e w2 ⟨rfl, hb2⟩; have hs2 := HSOF.out w2 (Below.trans (Below.refl _ _).drew hb2))
          | (go_at_call 26; refine (rholds_any _ _ bs _ _ (HB.out.keep (HBB.out.trans (hs2.2.2.mono HBB.out.size))) ⟨by omega, by omega⟩).mono ?_; rintro e w3 ⟨rfl, hb3⟩; have hs3 := HSOF.out w3 (hs2.2.2.trans (hb3.mono hs2.2.2.size))))
        have HB3 := Lib.hid hs3.2.2
        clear hs2 hs3 hb2 hb3
        go_wp2_with fail
        refine ⟨⟨k + 1, by omega, by go_num, HBR.out.trans (HB3.out.mono HBR.out.size)⟩, by simp [intOf]; omega⟩
      · have HSOF : Hid (∀ w', Below wr.heap.size wr w' → w'.cell? ⟨w.heap.size, 0, none⟩ = some (.slice A bs.length c) ∧ w'.cell? ⟨w.heap.size, 1, none⟩ = some iv ∧ Below wr.heap.size wr w') :=
          fun w' h => ⟨(h.cell (p := ⟨w.heap.size, 0, none⟩) hz).trans q0, (h.cell (p := ⟨w.heap.size, 1, none⟩) hz).trans q1, h⟩
        go_wp2_with fail
        go_region_held3 (fun w' => w'.cell? ⟨w.heap.size, 0, none⟩ = some (.slice A bs.length c) ∧ w'.cell? ⟨w.heap.size, 1, none⟩ = some iv ∧ Below wr.heap.size wr w') (first | assumption | exact HSOF.out _ (Below.refl _ _).drew) (first
          | (go_at_call 24; refine (fholds_any _ _ bs _ _ (HB.out.keep HBB.out.drew) HL.out).mono ?_; rintro e w2 ⟨rfl, hb2⟩; have hs2 := HSOF.out w2 (Below.trans (Below.refl _ _).drew hb2))
          | (go_at_call 26; refine (rholds_any _ _ bs _ _ (HB.out.keep (HBB.out.trans (hs2.2.2.mono HBB.out.size))) HL.out).mono ?_; rintro e w3 ⟨rfl, hb3⟩; have hs3 := HSOF.out w3 (hs2.2.2.trans (hb3.mono hs2.2.2.size)))
          | (go_at_call 14; refine (awake31 _ (HT.out.keep (HBB.out.trans (hs3.2.2.mono HBB.out.size)) HT.out.lt)).mono ?_; rintro e w4 ⟨rfl, hb4⟩; have hs4 := HSOF.out w4 (hs3.2.2.trans (hb4.mono hs3.2.2.size))))
        have HB4 := Lib.hid hs4.2.2
        clear hs2 hs3 hs4 hb2 hb3 hb4
        go_wp2_with fail
        go_ret
        exact ⟨rfl, HBB.out.trans (HB4.out.mono HBB.out.size)⟩
end Go.Proofs.YtieahhhpajoomaaDoor
