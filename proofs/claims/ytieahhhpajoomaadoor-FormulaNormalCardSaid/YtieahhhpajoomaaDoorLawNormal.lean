/-
  WALK: interleavelaw31.FormulaNormal.
-/
import Derived.Test.YtieahhhpajoomaaDoorAwake31
import Derived.Test.YtieahhhpajoomaaDoorNormalRef
import Derived.Deep.RegionHeld3
namespace Go.Proofs.YtieahhhpajoomaaDoor
open Go.RowKit

set_option maxRecDepth 100000 in
set_option maxHeartbeats 1000000 in
theorem lawNormal (v : Value) (xs : List Int) (w : World) (hv : Ints w v xs) (_hs : xs.length ≤ 17592186044416) (hT : Tab w) :
    Calls Tryd.prog 3 #[v] w fun e w' => e = .returned (.bool true) ∧ Below w.heap.size w w' := by
  have HT := Lib.hid hT
  have HV := Lib.hid hv
  obtain ⟨A, c, rfl, h1, h2, h3, hr⟩ := hv
  unfold maxLen at h2
  have HX := Lib.hid h3
  have HR := Lib.hid hr
  obtain ⟨i0, hi, hz0, hz1, hz2⟩ := info_parts info_int
  clear hT hr h3 _hs
  by_cases hbig : 60 < xs.length
  · have hd : decide ((60 : Int) < (xs.length : Int)) = true := by simp; omega
    go_enter Tryd.func3, Tryd.ntmps3
    go_wp2_with fail
    refine (awake31 _ HT.out).mono ?_
    rintro e w1 ⟨rfl, hb1⟩
    have HB1 := Lib.hid hb1
    clear hb1
    go_wp2_with fail
    go_ret
    exact ⟨rfl, HB1.out⟩
  · have hd : decide ((60 : Int) < (xs.length : Int)) = false := by simp; omega
    go_enter Tryd.func3, Tryd.ntmps3
    go_wp2_with (at_builtin; refine wpList_append_rd _ rfl (.const (.slice none 0 0)) (.tmp 13) 22 rfl w.heap.size 3 i0 (.int .i64 0) 1 8 Tryd.underlying22 hi hz0 hz1 hz2 rfl (by decide) (.slice none 0 0) 0 [] rfl (World.ownsRow_nil _ _ _ _) A xs.length c (xs.map (Value.int .i64)) rfl (by simp) HR.out ?c1 (by unfold maxLen; omega) (by omega) (Nat.le_refl _) ?_)
    case c1 => intro u hu; obtain ⟨_, _, rfl⟩ := List.mem_map.1 hu; rfl
    intro v1 w1 hown1 hg1 _
    have hbw1 : Below w.heap.size w w1 := (Below.refl _ _).grown hg1 (Nat.le_refl _) (by simp [Value.ownBlock])
    have HIN := Lib.hid (Own.ints (base := w.heap.size) ⟨hown1, HX.out⟩)
    have HBW1 := Lib.hid hbw1
    obtain ⟨A1, cap1, rfl⟩ := owns_slice hown1
    clear hown1 hg1 hbw1
    go_wp2_with fail
    refine (fnormal_any _ xs _ HIN.out (by omega)).mono ?_
    rintro e w2 ⟨va, rfl, howna, hb2⟩
    have HOA := Lib.hid howna
    have HB2 := Lib.hid hb2
    obtain ⟨A2, cap2, rfl⟩ := owns_slice howna.1
    have hsz2 := hb2.size
    clear howna hb2
    simp only
    go_wp2_with fail
    refine (rnormal_any _ xs _ (HV.out.keep (HBW1.out.trans (HB2.out.mono HBW1.out.size))) (by omega)).mono ?_
    rintro e w3 ⟨vb, rfl, hownb, hb3⟩
    have HOB := Lib.hid hownb
    have HB3 := Lib.hid hb3
    obtain ⟨A3, cap3, rfl⟩ := owns_slice hownb.1
    have hsz3 := hb3.size
    clear hownb hb3
    have hnl : ((norm xs).getD []).length ≤ 60 := by
      cases hn : norm xs with
      | none => simp
      | some l => have := norm_len hn; simp; omega
    have HIA := Lib.hid HOA.out.ints
    generalize hys : (norm xs).getD [] = ys at *
    generalize hbo : (norm xs).isSome = bo at *
    clear hys hbo
    simp only
    go_wp2_with fail
    refine (same_any _ _ ys ys _ (HIA.out.keep HB3.out) HOB.out.ints).mono ?_
    rintro e w4 ⟨rfl, n4, rfl⟩
    rw [show decide (ys = ys) = true by simp]
    have HO4 : Hid ((w3.drewN n4).ownsRow w1.heap.size 3 1 (.slice A2 ys.length cap2) ys.length (ys.map (Value.int .i64))) := by
      have h := HOA.out.1
      have hk : w2.grownBy (w3.drewN n4) none := ⟨HB3.out.os, HB3.out.tape, HB3.out.output, HB3.out.size, fun k hk _ => HB3.out.block k hk⟩
      refine h.kept hk ?_
      cases hvb : (Value.slice A2 ys.length cap2).ownBlock <;> simp
    go_wp2_with fail
    go_loopw [36] (fun i wr => ∃ (k : Nat) (zs : List Value), k ≤ ys.length ∧ i = .int .i64 k ∧ wr.ownsRow w1.heap.size 3 1 (.slice A2 ys.length cap2) ys.length zs ∧ Below w1.heap.size w1 wr) (fun i _ => ys.length - (intOf i).toNat)
    case atStart => exact ⟨0, _, by omega, rfl, HO4.out, bdrew (HB2.out.trans (HB3.out.mono hsz2)) n4⟩
    case round =>
      obtain ⟨k, zs, hk, rfl, hown, hbw⟩ := hrel
      have HOW := Lib.hid hown
      have HBR := Lib.hid hbw
      clear hown hbw
      by_cases hlt : k < ys.length
      · obtain ⟨g, cap, hvv, hg1, hg2, hg3, hg4⟩ := owns_pos HOW.out (by omega)
        injection hvv with e1 _ e3
        subst e1 e3
        have hc := HOW.out.cellAt k (by omega)
        have hfr := HOW.out.frozenAt k
        obtain ⟨u, hu⟩ : ∃ u, zs[k]? = some u := ⟨_, List.getElem?_eq_getElem (by have := HOW.out.1; omega)⟩
        rw [hu] at hc
        clear hu
        go_wp2_with fail
        refine ⟨⟨k + 1, _, by omega, by go_num, (HOW.out.stored k _).1, HBR.out.setCell (p := ⟨g, k, none⟩) hg1 _⟩, by simp [intOf]; omega⟩
      · go_wp2_with fail
        refine (same_any _ _ xs xs _ (HIN.out.keep HBR.out) (HV.out.keep (HBW1.out.trans (HBR.out.mono HBW1.out.size)))).mono ?_
        rintro e w5 ⟨rfl, n5, rfl⟩
        rw [show decide (xs = xs) = true by simp]
        have HB5 := Lib.hid (bdrew (HBW1.out.trans (HBR.out.mono HBW1.out.size)) n5 : Below w.heap.size w (wr.drewN n5))
        go_wp2_with fail
        refine (awake31 _ (HT.out.keep HB5.out HT.out.lt)).mono ?_
        rintro e w6 ⟨rfl, hb6⟩
        have HB6 := Lib.hid hb6
        clear hb6
        go_wp2_with fail
        go_ret
        exact ⟨rfl, HB5.out.trans (HB6.out.mono HB5.out.size)⟩
end Go.Proofs.YtieahhhpajoomaaDoor
