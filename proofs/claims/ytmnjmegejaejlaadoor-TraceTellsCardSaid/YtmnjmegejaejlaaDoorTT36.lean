/-
  WALK: interleaveref09.SameTrace, at equal traces.
-/
import Derived.Test.YtmnjmegejaejlaaDoorTT35
namespace Go.Proofs.YtmnjmegejaejlaaDoor
open Go.RowKit

set_option maxRecDepth 100000 in
set_option maxHeartbeats 8000000 in
theorem strace_same (av bv : Value) (t : Trc) (w : World) (ha : IsTrc w av t) (hb : IsTrc w bv t) :
    Calls Tryd.prog 8 #[av, bv] w fun e w' => e = .returned (.bool true) ∧ Below w.heap.size w w' := by
  obtain ⟨v, ds, rfl, hv, hdl, hev, -⟩ := ha
  obtain ⟨u, es, rfl, hu, hel, hew, -⟩ := hb
  obtain ⟨A0, c0, f0, ga0, ka0, ra0⟩ := hv 0 (by omega)
  obtain ⟨B0, d0, f0', gb0, kb0, rb0⟩ := hu 0 (by omega)
  obtain ⟨A1, c1, f1, ga1, ka1, ra1⟩ := hv 1 (by omega)
  obtain ⟨B1, d1, f1', gb1, kb1, rb1⟩ := hu 1 (by omega)
  obtain ⟨A2, c2, f2, ga2, ka2, ra2⟩ := hv 2 (by omega)
  obtain ⟨B2, d2, f2', gb2, kb2, rb2⟩ := hu 2 (by omega)
  obtain ⟨A3, c3, f3, ga3, ka3, ra3⟩ := hv 3 (by omega)
  obtain ⟨B3, d3, f3', gb3, kb3, rb3⟩ := hu 3 (by omega)
  obtain ⟨A4, c4, f4, ga4, ka4, ra4⟩ := hv 4 (by omega)
  obtain ⟨B4, d4, f4', gb4, kb4, rb4⟩ := hu 4 (by omega)
  obtain ⟨A5, c5, f5, ga5, ka5, ra5⟩ := hv 5 (by omega)
  obtain ⟨B5, d5, f5', gb5, kb5, rb5⟩ := hu 5 (by omega)
  obtain ⟨A6, c6, f6, ga6, ka6, ra6⟩ := hv 6 (by omega)
  obtain ⟨B6, d6, f6', gb6, kb6, rb6⟩ := hu 6 (by omega)
  rw [f0, f0', f1, f1', f2, f2', f3, f3', f4, f4', f5, f5', f6, f6']
  have HA0 : Hid (t.cells.length ≤ c0 ∧ c0 ≤ maxLen ∧ Rd w A0 (t.cells.flatMap Cel.cells)) := Lib.hid ⟨ga0, ka0, ra0⟩
  have HB0 : Hid (t.cells.length ≤ d0 ∧ d0 ≤ maxLen ∧ Rd w B0 (t.cells.flatMap Cel.cells)) := Lib.hid ⟨gb0, kb0, rb0⟩
  have HA1 : Hid (t.locks.length ≤ c1 ∧ c1 ≤ maxLen ∧ Rd w A1 (t.locks.flatMap Lck.cells)) := Lib.hid ⟨ga1, ka1, ra1⟩
  have HB1 : Hid (t.locks.length ≤ d1 ∧ d1 ≤ maxLen ∧ Rd w B1 (t.locks.flatMap Lck.cells)) := Lib.hid ⟨gb1, kb1, rb1⟩
  have HA2 : Hid (t.conds.length ≤ c2 ∧ c2 ≤ maxLen ∧ Rd w A2 (t.conds.flatMap Cnd.cells)) := Lib.hid ⟨ga2, ka2, ra2⟩
  have HB2 : Hid (t.conds.length ≤ d2 ∧ d2 ≤ maxLen ∧ Rd w B2 (t.conds.flatMap Cnd.cells)) := Lib.hid ⟨gb2, kb2, rb2⟩
  have HA3 : Hid (t.futs.length ≤ c3 ∧ c3 ≤ maxLen ∧ Rd w A3 (t.futs.flatMap strC)) := Lib.hid ⟨ga3, ka3, ra3⟩
  have HB3 : Hid (t.futs.length ≤ d3 ∧ d3 ≤ maxLen ∧ Rd w B3 (t.futs.flatMap strC)) := Lib.hid ⟨gb3, kb3, rb3⟩
  have HA4 : Hid (t.thrs.length ≤ c4 ∧ c4 ≤ maxLen ∧ Rd w A4 (t.thrs.flatMap strC)) := Lib.hid ⟨ga4, ka4, ra4⟩
  have HB4 : Hid (t.thrs.length ≤ d4 ∧ d4 ≤ maxLen ∧ Rd w B4 (t.thrs.flatMap strC)) := Lib.hid ⟨gb4, kb4, rb4⟩
  have HA5 : Hid (t.sites.length ≤ c5 ∧ c5 ≤ maxLen ∧ Rd w A5 (t.sites.flatMap Sit.cells)) := Lib.hid ⟨ga5, ka5, ra5⟩
  have HB5 : Hid (t.sites.length ≤ d5 ∧ d5 ≤ maxLen ∧ Rd w B5 (t.sites.flatMap Sit.cells)) := Lib.hid ⟨gb5, kb5, rb5⟩
  have HA6 : Hid (t.events.length ≤ c6 ∧ c6 ≤ maxLen ∧ Rd w A6 ((t.events.zip ds).flatMap evC)) := Lib.hid ⟨ga6, ka6, ra6⟩
  have HB6 : Hid (t.events.length ≤ d6 ∧ d6 ≤ maxLen ∧ Rd w B6 ((t.events.zip es).flatMap evC)) := Lib.hid ⟨gb6, kb6, rb6⟩
  have HEV := Lib.hid hev
  have HEW := Lib.hid hew
  have HD := Lib.hid hdl
  have HE := Lib.hid hel
  clear hv hu hev hew hdl hel f0 f0' ga0 gb0 ka0 kb0 ra0 rb0 f1 f1' ga1 gb1 ka1 kb1 ra1 rb1 f2 f2' ga2 gb2 ka2 kb2 ra2 rb2 f3 f3' ga3 gb3 ka3 kb3 ra3 rb3 f4 f4' ga4 gb4 ka4 kb4 ra4 rb4 f5 f5' ga5 gb5 ka5 kb5 ra5 rb5 f6 f6' ga6 gb6 ka6 kb6 ra6 rb6
  show Calls Tryd.prog 8 #[.agg #[.slice A0 t.cells.length c0, .slice A1 t.locks.length c1, .slice A2 t.conds.length c2, .slice A3 t.futs.length c3, .slice A4 t.thrs.length c4, .slice A5 t.sites.length c5, .slice A6 t.events.length c6], .agg #[.slice B0 t.cells.length d0, .slice B1 t.locks.length d1, .slice B2 t.conds.length d2, .slice B3 t.futs.length d3, .slice B4 t.thrs.length d4, .slice B5 t.sites.length d5, .slice B6 t.events.length d6]] w _
  have hz1 := Blk.new w 31 #[.slice A0 t.cells.length c0, .slice A1 t.locks.length c1, .slice A2 t.conds.length c2, .slice A3 t.futs.length c3, .slice A4 t.thrs.length c4, .slice A5 t.sites.length c5, .slice A6 t.events.length c6]
  have hz2 := hz1.alloc (.cells #[.slice B0 t.cells.length d0, .slice B1 t.locks.length d1, .slice B2 t.conds.length d2, .slice B3 t.futs.length d3, .slice B4 t.thrs.length d4, .slice B5 t.sites.length d5, .slice B6 t.events.length d6] 31)
  have ht := Blk.new (w.alloc (.cells #[.slice A0 t.cells.length c0, .slice A1 t.locks.length c1, .slice A2 t.conds.length c2, .slice A3 t.futs.length c3, .slice A4 t.thrs.length c4, .slice A5 t.sites.length c5, .slice A6 t.events.length c6] 31)) 31 #[.slice B0 t.cells.length d0, .slice B1 t.locks.length d1, .slice B2 t.conds.length d2, .slice B3 t.futs.length d3, .slice B4 t.thrs.length d4, .slice B5 t.sites.length d5, .slice B6 t.events.length d6]
  rw [show ∀ (a : World) (o : Obj), (a.alloc o).heap.size = a.heap.size + 1 from fun a o => by simp] at ht
  have hbb : Below w.heap.size w ((w.alloc (.cells #[.slice A0 t.cells.length c0, .slice A1 t.locks.length c1, .slice A2 t.conds.length c2, .slice A3 t.futs.length c3, .slice A4 t.thrs.length c4, .slice A5 t.sites.length c5, .slice A6 t.events.length c6] 31)).alloc (.cells #[.slice B0 t.cells.length d0, .slice B1 t.locks.length d1, .slice B2 t.conds.length d2, .slice B3 t.futs.length d3, .slice B4 t.thrs.length d4, .slice B5 t.sites.length d5, .slice B6 t.events.length d6] 31)) := by go_grown
  have HBB := Lib.hid hbb
  have HZ := Lib.hid hz2
  have HT := Lib.hid ht
  clear hz1 hz2 ht hbb
  go_enter Tryd.func8, Tryd.ntmps8
  go_upto_region 1 with fail
  generalize (w.alloc (.cells #[.slice A0 t.cells.length c0, .slice A1 t.locks.length c1, .slice A2 t.conds.length c2, .slice A3 t.futs.length c3, .slice A4 t.thrs.length c4, .slice A5 t.sites.length c5, .slice A6 t.events.length c6] 31)).alloc (.cells #[.slice B0 t.cells.length d0, .slice B1 t.locks.length d1, .slice B2 t.conds.length d2, .slice B3 t.futs.length d3, .slice B4 t.thrs.length d4, .slice B5 t.sites.length d5, .slice B6 t.events.length d6] 31) = W at *
  have p0 := HZ.out.cell 0
  have q0 := HT.out.cell 0
  have p1 := HZ.out.cell 1
  have q1 := HT.out.cell 1
  have p2 := HZ.out.cell 2
  have q2 := HT.out.cell 2
  have p3 := HZ.out.cell 3
  have q3 := HT.out.cell 3
  have p4 := HZ.out.cell 4
  have q4 := HT.out.cell 4
  have p5 := HZ.out.cell 5
  have q5 := HT.out.cell 5
  have p6 := HZ.out.cell 6
  have q6 := HT.out.cell 6
  simp only [List.getElem?_toArray, List.getElem?_cons_zero, List.getElem?_cons_succ] at p0 q0 p1 q1 p2 q2 p3 q3 p4 q4 p5 q5 p6 q6
  go_wp2_with fail
  refine (sworld_same t A0 A1 A2 A3 A4 A5 B0 B1 B2 B3 B4 B5 c0 c1 c2 c3 c4 c5 d0 d1 d2 d3 d4 d5 W ⟨HA0.out.1, HA0.out.2.1, HA0.out.2.2.keep HBB.out⟩ ⟨HB0.out.1, HB0.out.2.1, HB0.out.2.2.keep HBB.out⟩ ⟨HA1.out.1, HA1.out.2.1, HA1.out.2.2.keep HBB.out⟩ ⟨HB1.out.1, HB1.out.2.1, HB1.out.2.2.keep HBB.out⟩ ⟨HA2.out.1, HA2.out.2.1, HA2.out.2.2.keep HBB.out⟩ ⟨HB2.out.1, HB2.out.2.1, HB2.out.2.2.keep HBB.out⟩ ⟨HA3.out.1, HA3.out.2.1, HA3.out.2.2.keep HBB.out⟩ ⟨HB3.out.1, HB3.out.2.1, HB3.out.2.2.keep HBB.out⟩ ⟨HA4.out.1, HA4.out.2.1, HA4.out.2.2.keep HBB.out⟩ ⟨HB4.out.1, HB4.out.2.1, HB4.out.2.2.keep HBB.out⟩ ⟨HA5.out.1, HA5.out.2.1, HA5.out.2.2.keep HBB.out⟩ ⟨HB5.out.1, HB5.out.2.1, HB5.out.2.2.keep HBB.out⟩).mono ?_
  rintro e w1 ⟨rfl, hb1⟩
  have HB1 := Lib.hid hb1
  have HBW := Lib.hid (HBB.out.trans (hb1.mono HBB.out.size))
  have p6' := (HZ.out.keep hb1).cell 6
  have q6' := (HT.out.keep hb1).cell 6
  simp only [List.getElem?_toArray, List.getElem?_cons_zero, List.getElem?_cons_succ] at p6' q6'
  clear hb1 p0 q0 p1 q1 p2 q2 p3 q3 p4 q4 p5 q5 p6 q6
  go_wp2_with fail
  refine (sevents_same A6 B6 c6 d6 t.events ds es w1 HA6.out.1 HA6.out.2.1 HB6.out.1 HB6.out.2.1 HD.out HE.out (HA6.out.2.2.keep HBW.out) (HB6.out.2.2.keep HBW.out) (fun k e d a b => ⟨(HEV.out k e d a b).1.keep HBW.out, (HEV.out k e d a b).2.keep HBW.out⟩) (fun k e d a b => ⟨(HEW.out k e d a b).1.keep HBW.out, (HEW.out k e d a b).2.keep HBW.out⟩)).mono ?_
  rintro e w2 ⟨rfl, hb2⟩
  go_wp2_with fail
  go_ret
  exact ⟨rfl, HBW.out.trans (hb2.mono HBW.out.size)⟩
theorem isTrc_zero (w : World) : IsTrc w (.agg #[.slice none 0 0, .slice none 0 0, .slice none 0 0, .slice none 0 0, .slice none 0 0, .slice none 0 0, .slice none 0 0]) trc0 := by
  refine ⟨nilV, [], rfl, fun i hi => ?_, rfl, fun k e d h => by simp [trc0] at h, ⟨by simp [trc0], by simp [trc0], by simp [trc0], by simp [trc0]⟩⟩
  have hi7 : i = 0 ∨ i = 1 ∨ i = 2 ∨ i = 3 ∨ i = 4 ∨ i = 5 ∨ i = 6 := by omega
  rcases hi7 with rfl | rfl | rfl | rfl | rfl | rfl | rfl <;> exact ⟨none, 0, rfl, Nat.le_refl _, by simp [maxLen], fun h => by simp [rowX, trc0] at h⟩
end Go.Proofs.YtmnjmegejaejlaaDoor
