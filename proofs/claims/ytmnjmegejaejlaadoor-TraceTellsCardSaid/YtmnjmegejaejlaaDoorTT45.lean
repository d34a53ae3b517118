/-
  WALK: interleavelaw16.TraceRoundTrip.
-/
import Derived.Test.YtmnjmegejaejlaaDoorTT34
import Derived.Test.YtmnjmegejaejlaaDoorTT37
import Derived.Test.YtmnjmegejaejlaaDoorTT44
import Derived.Test.YtmnjmegejaejlaaDoorTT36
import Derived.Test.YtmnjmegejaejlaaDoorTT29
namespace Go.Proofs.YtmnjmegejaejlaaDoor
open Go.RowKit

theorem slices_of {w : World} {vv : Value} {t : Trc} (h : IsTrc w vv t) : ∃ (A0 A1 A2 A3 A4 A5 A6 : Option Addr) (m0 m1 m2 m3 m4 m5 m6 c0 c1 c2 c3 c4 c5 c6 : Nat), vv = .agg #[.slice A0 m0 c0, .slice A1 m1 c1, .slice A2 m2 c2, .slice A3 m3 c3, .slice A4 m4 c4, .slice A5 m5 c5, .slice A6 m6 c6] := by
  obtain ⟨v, ds, rfl, hv, -⟩ := h
  obtain ⟨A0, c0, f0, -⟩ := hv 0 (by omega)
  obtain ⟨A1, c1, f1, -⟩ := hv 1 (by omega)
  obtain ⟨A2, c2, f2, -⟩ := hv 2 (by omega)
  obtain ⟨A3, c3, f3, -⟩ := hv 3 (by omega)
  obtain ⟨A4, c4, f4, -⟩ := hv 4 (by omega)
  obtain ⟨A5, c5, f5, -⟩ := hv 5 (by omega)
  obtain ⟨A6, c6, f6, -⟩ := hv 6 (by omega)
  exact ⟨A0, A1, A2, A3, A4, A5, A6, _, _, _, _, _, _, _, c0, c1, c2, c3, c4, c5, c6, by rw [f0, f1, f2, f3, f4, f5, f6]⟩
set_option maxRecDepth 100000 in
set_option maxHeartbeats 8000000 in
theorem lawTRound (t : Trc) (vv : Value) (w : World) (ht : IsTrc w vv t) (hf : Fits t) (hp : PT w) : Calls Tryd.prog 5 #[vv] w fun e w' => e = .returned (.bool true) ∧ Below w.heap.size w w' := by
  obtain ⟨A0, A1, A2, A3, A4, A5, A6, m0, m1, m2, m3, m4, m5, m6, c0, c1, c2, c3, c4, c5, c6, rfl⟩ := slices_of ht
  have hb1 : Below w.heap.size w (w.alloc (.cells #[.slice A0 m0 c0, .slice A1 m1 c1, .slice A2 m2 c2, .slice A3 m3 c3, .slice A4 m4 c4, .slice A5 m5 c5, .slice A6 m6 c6] 31)) := (Below.refl _ _).alloc (Nat.le_refl _) _
  have HB1 := Lib.hid hb1
  have HX := Lib.hid (Blk.new w 31 #[.slice A0 m0 c0, .slice A1 m1 c1, .slice A2 m2 c2, .slice A3 m3 c3, .slice A4 m4 c4, .slice A5 m5 c5, .slice A6 m6 c6])
  have HT1 := Lib.hid (ht.keep hb1)
  have HT0 := Lib.hid ht
  have HF := Lib.hid hf
  have HP := Lib.hid hp
  have HI := Lib.hid (isTrc_i64 ht)
  clear hb1 ht hf hp
  go_enter Tryd.func5, Tryd.ntmps5
  go_upto_region 1 with fail
  generalize w.alloc (.cells #[.slice A0 m0 c0, .slice A1 m1 c1, .slice A2 m2 c2, .slice A3 m3 c3, .slice A4 m4 c4, .slice A5 m5 c5, .slice A6 m6 c6] 31) = W at *
  have p0 := HX.out.cell 0
  have p1 := HX.out.cell 1
  have p2 := HX.out.cell 2
  have p3 := HX.out.cell 3
  have p4 := HX.out.cell 4
  have p5 := HX.out.cell 5
  have p6 := HX.out.cell 6
  simp only [List.getElem?_toArray, List.getElem?_cons_zero, List.getElem?_cons_succ] at p0 p1 p2 p3 p4 p5 p6
  go_wp2_with fail
  refine (large_any t _ W HT1.out HF.out).mono ?_
  rintro e w1 ⟨hl, hb⟩
  obtain ⟨lg, rfl, hsm⟩ := hl
  have HB2 := Lib.hid (HB1.out.trans (hb.mono HB1.out.size))
  have HX2 := Lib.hid (HX.out.keep hb)
  have HT2 := Lib.hid (HT1.out.keep hb)
  clear hb p0 p1 p2 p3 p4 p5 p6
  cases lg with
  | true =>
    go_wp2_with fail
    go_ret
    exact ⟨rfl, HB2.out⟩
  | false =>
    have HS := Lib.hid (hsm rfl)
    clear hsm
    have p0 := HX2.out.cell 0
    have p1 := HX2.out.cell 1
    have p2 := HX2.out.cell 2
    have p3 := HX2.out.cell 3
    have p4 := HX2.out.cell 4
    have p5 := HX2.out.cell 5
    have p6 := HX2.out.cell 6
    simp only [List.getElem?_toArray, List.getElem?_cons_zero, List.getElem?_cons_succ] at p0 p1 p2 p3 p4 p5 p6
    go_wp2_with fail
    refine (printable_any w t _ w1 HT0.out HB2.out HS.out).mono ?_
    rintro e w2 ⟨hb, P0, P1, P2, P3, P4, P5, P6, np0, np1, np2, np3, np4, np5, np6, cp0, cp1, cp2, cp3, cp4, cp5, cp6, rfl, hi⟩
    have HB3 := Lib.hid (HB2.out.trans (hb.mono HB2.out.size))
    have HX3 := Lib.hid (HX2.out.keep hb)
    have HPR : Hid (∀ it ∈ (trcP t).items, it.ok ∧ it.prt) := Lib.hid (trcP_prt t HI.out.1 HI.out.2)
    have HLN : Hid ((textT (trcP t)).length ≤ 100000) := Lib.hid (textT_len (trcP t) HPR.out (trcP_small HS.out))
    have HKK : Hid (∀ e ∈ (trcP t).events, (1 ≤ e.kind ∧ e.kind ≤ 23) ∧ e.deps.length + e.frm.length ≤ 1000000000) := Lib.hid (fun e he => by
      have h1 := sumL_mem he
      have h2 := trcP_small HS.out
      unfold Small at h2
      refine ⟨?_, by omega⟩
      obtain ⟨x, _, rfl⟩ := List.mem_map.1 (show e ∈ t.events.map evnP from he)
      exact kindP_in x.kind)
    clear p0 p1 p2 p3 p4 p5 p6
    have y0 := HX3.out.frozen 0
    have u0 := HX3.out.cell 0
    have y1 := HX3.out.frozen 1
    have u1 := HX3.out.cell 1
    have y2 := HX3.out.frozen 2
    have u2 := HX3.out.cell 2
    have y3 := HX3.out.frozen 3
    have u3 := HX3.out.cell 3
    have y4 := HX3.out.frozen 4
    have u4 := HX3.out.cell 4
    have y5 := HX3.out.frozen 5
    have u5 := HX3.out.cell 5
    have y6 := HX3.out.frozen 6
    have u6 := HX3.out.cell 6
    simp only [List.getElem?_toArray, List.getElem?_cons_zero, List.getElem?_cons_succ] at u0 u1 u2 u3 u4 u5 u6
    have U := blk_set7 HX3.out (.slice P0 np0 cp0) (.slice P1 np1 cp1) (.slice P2 np2 cp2) (.slice P3 np3 cp3) (.slice P4 np4 cp4) (.slice P5 np5 cp5) (.slice P6 np6 cp6)
    have hs := grown_set7 w2 w.heap.size (.slice P0 np0 cp0) (.slice P1 np1 cp1) (.slice P2 np2 cp2) (.slice P3 np3 cp3) (.slice P4 np4 cp4) (.slice P5 np5 cp5) (.slice P6 np6 cp6)
    have HSX : IsTrc (set7 w2 w.heap.size (.slice P0 np0 cp0) (.slice P1 np1 cp1) (.slice P2 np2 cp2) (.slice P3 np3 cp3) (.slice P4 np4 cp4) (.slice P5 np5 cp5) (.slice P6 np6 cp6)) (.agg #[.slice P0 np0 cp0, .slice P1 np1 cp1, .slice P2 np2 cp2, .slice P3 np3 cp3, .slice P4 np4 cp4, .slice P5 np5 cp5, .slice P6 np6 cp6]) (trcP t) ∧ Below w.heap.size w (set7 w2 w.heap.size (.slice P0 np0 cp0) (.slice P1 np1 cp1) (.slice P2 np2 cp2) (.slice P3 np3 cp3) (.slice P4 np4 cp4) (.slice P5 np5 cp5) (.slice P6 np6 cp6)) := ⟨hi _ w.heap.size (Nat.le_refl _) HX2.out.lt hs, HB3.out.trans (grownBy_below hs HB3.out.size (fun g e => by injection e with e; omega))⟩
    unfold set7 at U HSX
    have HU : Hid (Blk _ w.heap.size 31 #[.slice P0 np0 cp0, .slice P1 np1 cp1, .slice P2 np2 cp2, .slice P3 np3 cp3, .slice P4 np4 cp4, .slice P5 np5 cp5, .slice P6 np6 cp6]) := Lib.hid U
    have HSS := Lib.hid HSX
    clear U HSX hs hi hb
    go_upto_region 4 with fail
    clear u0 u1 u2 u3 u4 u5 u6 y0 y1 y2 y3 y4 y5 y6
    generalize ((((((w2.setCell ⟨w.heap.size, 0, none⟩ (.slice P0 np0 cp0)).setCell ⟨w.heap.size, 1, none⟩ (.slice P1 np1 cp1)).setCell ⟨w.heap.size, 2, none⟩ (.slice P2 np2 cp2)).setCell ⟨w.heap.size, 3, none⟩ (.slice P3 np3 cp3)).setCell ⟨w.heap.size, 4, none⟩ (.slice P4 np4 cp4)).setCell ⟨w.heap.size, 5, none⟩ (.slice P5 np5 cp5)).setCell ⟨w.heap.size, 6, none⟩ (.slice P6 np6 cp6) = w3 at *
    have q0 := HU.out.cell 0
    have q1 := HU.out.cell 1
    have q2 := HU.out.cell 2
    have q3 := HU.out.cell 3
    have q4 := HU.out.cell 4
    have q5 := HU.out.cell 5
    have q6 := HU.out.cell 6
    simp only [List.getElem?_toArray, List.getElem?_cons_zero, List.getElem?_cons_succ] at q0 q1 q2 q3 q4 q5 q6
    have HP3 := Lib.hid (HP.out.below HSS.out.2)
    go_wp2_with fail
    refine (tformat_any (trcP t) _ w3 HSS.out.1 HP3.out HKK.out (by have := HLN.out; omega)).mono ?_
    rintro e w4 ⟨rfl, hb⟩
    have HB4 := Lib.hid (HSS.out.2.trans (hb.mono HSS.out.2.size))
    have HT4 := Lib.hid (HSS.out.1.keep hb)
    have HU4 := Lib.hid (HU.out.keep hb)
    clear hb q0 q1 q2 q3 q4 q5 q6
    go_wp2_with fail
    refine (tparse_any (textT (trcP t)) w4 (by have := HLN.out; omega) (HP.out.below HB4.out)).mono ?_
    rintro e w5 h5
    have hb := h5.1
    obtain ⟨X0, X1, X2, X3, X4, X5, X6, nx0, nx1, nx2, nx3, nx4, nx5, nx6, cx0, cx1, cx2, cx3, cx4, cx5, cx6, u, er, ln, rfl, hj, ho⟩ := h5.shape
    obtain ⟨rfl, rfl, rfl⟩ := ho.fn (.inl ⟨textT_run (trcP t) HPR.out, rfl, rfl⟩ : TOut (textT (trcP t)) (trcP t) 0 0)
    have hbx : Below w5.heap.size w5 (w5.alloc (.cells #[.slice X0 nx0 cx0, .slice X1 nx1 cx1, .slice X2 nx2 cx2, .slice X3 nx3 cx3, .slice X4 nx4 cx4, .slice X5 nx5 cx5, .slice X6 nx6 cx6] 31)) := (Below.refl _ _).alloc (Nat.le_refl _) _
    have HY := Lib.hid (Blk.new w5 31 #[.slice X0 nx0 cx0, .slice X1 nx1 cx1, .slice X2 nx2 cx2, .slice X3 nx3 cx3, .slice X4 nx4 cx4, .slice X5 nx5 cx5, .slice X6 nx6 cx6])
    have HJ := Lib.hid (hj.keep hbx)
    have HT6 := Lib.hid ((HT4.out.keep hb).keep hbx)
    have HU6 := Lib.hid ((HU4.out.keep hb).keep hbx)
    have HB6 := Lib.hid (HB4.out.trans ((hb.trans (hbx.mono hb.size)).mono HB4.out.size))
    clear h5 hb hj ho hbx HT4 HU4
    go_upto_region 5 with fail
    generalize w5.alloc (.cells #[.slice X0 nx0 cx0, .slice X1 nx1 cx1, .slice X2 nx2 cx2, .slice X3 nx3 cx3, .slice X4 nx4 cx4, .slice X5 nx5 cx5, .slice X6 nx6 cx6] 31) = w6 at *
    generalize w5.heap.size = g5 at *
    have p0 := HU6.out.cell 0
    have q0 := HY.out.cell 0
    have p1 := HU6.out.cell 1
    have q1 := HY.out.cell 1
    have p2 := HU6.out.cell 2
    have q2 := HY.out.cell 2
    have p3 := HU6.out.cell 3
    have q3 := HY.out.cell 3
    have p4 := HU6.out.cell 4
    have q4 := HY.out.cell 4
    have p5 := HU6.out.cell 5
    have q5 := HY.out.cell 5
    have p6 := HU6.out.cell 6
    have q6 := HY.out.cell 6
    simp only [List.getElem?_toArray, List.getElem?_cons_zero, List.getElem?_cons_succ] at p0 q0 p1 q1 p2 q2 p3 q3 p4 q4 p5 q5 p6 q6
    go_wp2_with fail
    refine (strace_same _ _ (trcP t) w6 HT6.out HJ.out).mono ?_
    rintro e w7 ⟨rfl, hb7⟩
    have HB7 := Lib.hid (HB6.out.trans (hb7.mono HB6.out.size))
    clear hb7 p0 q0 p1 q1 p2 q2 p3 q3 p4 q4 p5 q5 p6 q6
    go_wp2_with fail
    refine (awake16 w7 (HP.out.below HB7.out)).mono ?_
    rintro e w8 ⟨rfl, hb8⟩
    go_wp2_with fail
    go_ret
    exact ⟨rfl, HB7.out.trans (hb8.mono HB7.out.size)⟩
end Go.Proofs.YtmnjmegejaejlaaDoor
