/-
  WALK: interleavelaw16.printable.
-/
import Derived.Test.YtmnjmegejaejlaaDoorTT33
import Derived.Test.YtmnjmegejaejlaaDoorTT31
import Derived.Deep.RegionHeld3
import Derived.Deep.QuietTactic
import Derived.BigQuiet
namespace Go.Proofs.YtmnjmegejaejlaaDoor
open Go.RowKit

theorem info_prt0 : (Tryd.prog.info? 55).map (fun i => (i.zero, i.size, i.bytes)) = some (some (.agg #[.string ⟨#[]⟩, .int .i64 0, .int .i64 0, .bool false, .int .i64 0]), 5, 48) := by kernel_rfl
theorem info_prt1 : (Tryd.prog.info? 57).map (fun i => (i.zero, i.size, i.bytes)) = some (some (.agg #[.string ⟨#[]⟩, .bool false]), 2, 24) := by kernel_rfl
theorem info_prt2 : (Tryd.prog.info? 59).map (fun i => (i.zero, i.size, i.bytes)) = some (some (.agg #[.string ⟨#[]⟩, .int .i64 0]), 2, 24) := by kernel_rfl
theorem info_prt3 : (Tryd.prog.info? 9).map (fun i => (i.zero, i.size, i.bytes)) = some (some (.string ⟨#[]⟩), 1, 16) := by kernel_rfl
theorem info_prt5 : (Tryd.prog.info? 71).map (fun i => (i.zero, i.size, i.bytes)) = some (some (.agg #[.int .i64 0, .int .i64 0, .int .i64 0]), 3, 24) := by kernel_rfl
theorem info_prt6 : (Tryd.prog.info? 53).map (fun i => (i.zero, i.size, i.bytes)) = some (some (.agg #[.int .i64 0, .int .i64 0, .int .i64 0, .int .i64 0, .int .i64 0, .slice none 0 0, .slice none 0 0]), 7, 88) := by kernel_rfl
theorem kind_conv (k : Int) : wrap64 (wrap64 ((IntKind.u64.wrap k).tmod 23) + 1) = kindP k := by
  have h : 0 ≤ k % 18446744073709551616 := by omega
  rw [IntKind.wrap_u64, Int.tmod_eq_emod_of_nonneg h]
  unfold kindP wrap64
  omega
theorem sit_len (l : List Sit) : (l.flatMap Sit.cells).length = l.length * 3 := by
  induction l with
  | nil => rfl
  | cons x r ih => rw [List.flatMap_cons, List.length_append, ih]; simp [Sit.cells]; omega
/-- What printable answers. -/
def PrtRet (w00 w : World) (t : Trc) (e : Ending) (w' : World) : Prop := Below w.heap.size w w' ∧ ∃ (B0 B1 B2 B3 B4 B5 B6 : Option Addr) (n0 n1 n2 n3 n4 n5 n6 d0 d1 d2 d3 d4 d5 d6 : Nat), e = .returned (.agg #[.slice B0 n0 d0, .slice B1 n1 d1, .slice B2 n2 d2, .slice B3 n3 d3, .slice B4 n4 d4, .slice B5 n5 d5, .slice B6 n6 d6]) ∧ ∀ (w'' : World) (g : Nat), w00.heap.size ≤ g → g < w.heap.size → w'.grownBy w'' (some g) → IsTrc w'' (.agg #[.slice B0 n0 d0, .slice B1 n1 d1, .slice B2 n2 d2, .slice B3 n3 d3, .slice B4 n4 d4, .slice B5 n5 d5, .slice B6 n6 d6]) (trcP t)
set_option maxRecDepth 100000 in
set_option maxHeartbeats 32000000 in
theorem printable_any (w00 : World) (t : Trc) (vv : Value) (w : World) (ht : IsTrc w00 vv t) (h00 : Below w00.heap.size w00 w) (hs : Small t) :
    Calls Tryd.prog 11 #[vv] w (PrtRet w00 w t) := by
  obtain ⟨iC0, hi0, hz0a, hz0b, hz0c⟩ := info_parts info_prt0
  obtain ⟨iC1, hi1, hz1a, hz1b, hz1c⟩ := info_parts info_prt1
  obtain ⟨iC2, hi2, hz2a, hz2b, hz2c⟩ := info_parts info_prt2
  obtain ⟨iC3, hi3, hz3a, hz3b, hz3c⟩ := info_parts info_prt3
  obtain ⟨iC5, hi5, hz5a, hz5b, hz5c⟩ := info_parts info_prt5
  obtain ⟨iC6, hi6, hz6a, hz6b, hz6c⟩ := info_parts info_prt6
  obtain ⟨v, ds, rfl, hv, hdl, hev, hok⟩ := ht
  obtain ⟨A0, c0, f0, ga0, ka0, ra0⟩ := hv 0 (by omega)
  obtain ⟨A1, c1, f1, ga1, ka1, ra1⟩ := hv 1 (by omega)
  obtain ⟨A2, c2, f2, ga2, ka2, ra2⟩ := hv 2 (by omega)
  obtain ⟨A3, c3, f3, ga3, ka3, ra3⟩ := hv 3 (by omega)
  obtain ⟨A4, c4, f4, ga4, ka4, ra4⟩ := hv 4 (by omega)
  obtain ⟨A5, c5, f5, ga5, ka5, ra5⟩ := hv 5 (by omega)
  obtain ⟨A6, c6, f6, ga6, ka6, ra6⟩ := hv 6 (by omega)
  rw [f0, f1, f2, f3, f4, f5, f6]
  have HR0 : Hid (Rd w A0 (t.cells.flatMap Cel.cells)) := Lib.hid (ra0.keep h00)
  have HR1 : Hid (Rd w A1 (t.locks.flatMap Lck.cells)) := Lib.hid (ra1.keep h00)
  have HR2 : Hid (Rd w A2 (t.conds.flatMap Cnd.cells)) := Lib.hid (ra2.keep h00)
  have HR3 : Hid (Rd w A3 (t.futs.flatMap strC)) := Lib.hid (ra3.keep h00)
  have HR4 : Hid (Rd w A4 (t.thrs.flatMap strC)) := Lib.hid (ra4.keep h00)
  have HR5 : Hid (Rd w A5 (t.sites.flatMap Sit.cells)) := Lib.hid (ra5.keep h00)
  have HR6 : Hid (Rd w A6 ((t.events.zip ds).flatMap evC)) := Lib.hid (ra6.keep h00)
  show Calls Tryd.prog 11 #[.agg #[.slice A0 t.cells.length c0, .slice A1 t.locks.length c1, .slice A2 t.conds.length c2, .slice A3 t.futs.length c3, .slice A4 t.thrs.length c4, .slice A5 t.sites.length c5, .slice A6 t.events.length c6]] w _
  have hb1 : Below w.heap.size w (w.alloc (.cells #[.slice A0 t.cells.length c0, .slice A1 t.locks.length c1, .slice A2 t.conds.length c2, .slice A3 t.futs.length c3, .slice A4 t.thrs.length c4, .slice A5 t.sites.length c5, .slice A6 t.events.length c6] 31)) := (Below.refl _ _).alloc (Nat.le_refl _) _
  have hb2 := hb1.alloc hb1.size (.cells #[.slice none 0 0, .slice none 0 0, .slice none 0 0, .slice none 0 0, .slice none 0 0, .slice none 0 0, .slice none 0 0] 31)
  have hb3 := hb2.alloc hb2.size (.cells #[.slice none 0 0, .slice none 0 0, .slice none 0 0, .slice none 0 0, .slice none 0 0, .slice none 0 0, .slice none 0 0] 31)
  have hx1 := ((Blk.new w 31 #[.slice A0 t.cells.length c0, .slice A1 t.locks.length c1, .slice A2 t.conds.length c2, .slice A3 t.futs.length c3, .slice A4 t.thrs.length c4, .slice A5 t.sites.length c5, .slice A6 t.events.length c6]).alloc (.cells #[.slice none 0 0, .slice none 0 0, .slice none 0 0, .slice none 0 0, .slice none 0 0, .slice none 0 0, .slice none 0 0] 31)).alloc (.cells #[.slice none 0 0, .slice none 0 0, .slice none 0 0, .slice none 0 0, .slice none 0 0, .slice none 0 0, .slice none 0 0] 31)
  have hx2 := (Blk.new (w.alloc (.cells #[.slice A0 t.cells.length c0, .slice A1 t.locks.length c1, .slice A2 t.conds.length c2, .slice A3 t.futs.length c3, .slice A4 t.thrs.length c4, .slice A5 t.sites.length c5, .slice A6 t.events.length c6] 31)) 31 #[.slice none 0 0, .slice none 0 0, .slice none 0 0, .slice none 0 0, .slice none 0 0, .slice none 0 0, .slice none 0 0]).alloc (.cells #[.slice none 0 0, .slice none 0 0, .slice none 0 0, .slice none 0 0, .slice none 0 0, .slice none 0 0, .slice none 0 0] 31)
  have hx3 := Blk.new ((w.alloc (.cells #[.slice A0 t.cells.length c0, .slice A1 t.locks.length c1, .slice A2 t.conds.length c2, .slice A3 t.futs.length c3, .slice A4 t.thrs.length c4, .slice A5 t.sites.length c5, .slice A6 t.events.length c6] 31)).alloc (.cells #[.slice none 0 0, .slice none 0 0, .slice none 0 0, .slice none 0 0, .slice none 0 0, .slice none 0 0, .slice none 0 0] 31)) 31 #[.slice none 0 0, .slice none 0 0, .slice none 0 0, .slice none 0 0, .slice none 0 0, .slice none 0 0, .slice none 0 0]
  simp only [show ∀ (a : World) (o : Obj), (a.alloc o).heap.size = a.heap.size + 1 from fun a o => by simp] at hx2 hx3
  have HB3 := Lib.hid hb3
  have HX := Lib.hid hx1
  have HRB := Lib.hid hx2
  have HT0 := Lib.hid (PrS.start (w0 := w00) hx3 hx3.lt)
  have HLT := Lib.hid hx3.lt
  have HEV := Lib.hid hev
  have HDL := Lib.hid hdl
  have HOK := Lib.hid hok
  have HS := Lib.hid hs
  have H00 := Lib.hid h00
  clear hv hdl hev hok hb1 hb2 hb3 hx1 hx2 hx3 hs h00 f0 ga0 ka0 ra0 f1 ga1 ka1 ra1 f2 ga2 ka2 ra2 f3 ga3 ka3 ra3 f4 ga4 ka4 ra4 f5 ga5 ka5 ra5 f6 ga6 ka6 ra6
  go_enter Tryd.func11, Tryd.ntmps11
  go_upto_region 2 with fail
  generalize ((w.alloc (.cells #[.slice A0 t.cells.length c0, .slice A1 t.locks.length c1, .slice A2 t.conds.length c2, .slice A3 t.futs.length c3, .slice A4 t.thrs.length c4, .slice A5 t.sites.length c5, .slice A6 t.events.length c6] 31)).alloc (.cells #[.slice none 0 0, .slice none 0 0, .slice none 0 0, .slice none 0 0, .slice none 0 0, .slice none 0 0, .slice none 0 0] 31)).alloc (.cells #[.slice none 0 0, .slice none 0 0, .slice none 0 0, .slice none 0 0, .slice none 0 0, .slice none 0 0, .slice none 0 0] 31) = W0 at *
  generalize hxb : w.heap.size = xb at *
  generalize hwb : xb + 1 + 1 = b at *
  have HBB : Hid (xb + 1 < b ∧ b < W0.heap.size ∧ w.heap.size = xb) := Lib.hid ⟨by omega, HLT.out, hxb⟩
  clear HLT
  generalize hbase : W0.heap.size = base at *
  have HBA0 : Hid (base = W0.heap.size) := Lib.hid hbase.symm
  have HXK : Hid (∀ w', Below b W0 w' → Blk w' xb 31 #[.slice A0 t.cells.length c0, .slice A1 t.locks.length c1, .slice A2 t.conds.length c2, .slice A3 t.futs.length c3, .slice A4 t.thrs.length c4, .slice A5 t.sites.length c5, .slice A6 t.events.length c6]) := Lib.hid (fun w' h => HX.out.below h (by have := HBB.out; have := HBA0.out; omega))
  have HRK : Hid (∀ w', Below b W0 w' → Blk w' (xb + 1) 31 #[.slice none 0 0, .slice none 0 0, .slice none 0 0, .slice none 0 0, .slice none 0 0, .slice none 0 0, .slice none 0 0]) := Lib.hid (fun w' h => HRB.out.below h (by have := HBB.out; have := HBA0.out; omega))
  have HWK : Hid (∀ w', Below b W0 w' → Below w.heap.size w w') := Lib.hid (fun w' h => by
    have h1 := HBB.out
    rw [h1.2.2]
    exact HB3.out.trans (h.mono (by omega)))
  have HBB2 : Hid (b < base) := Lib.hid (by have := HBB.out; have := HBA0.out; have := HBA0.out; omega)
  clear HX HRB HB3 hwb hxb hbase
  go_wp2_with fail
  go_loopw [4] (fun iv wr => ∃ k : Nat, k ≤ t.cells.length ∧ iv = .int .i64 (k : Int) ∧ Hid (∃ v ds, PrS w00 wr base b v (⟨(t.cells.take k).map celP, [], [], [], [], [], []⟩ : Trc) ds ∧ ∀ j, 0 < j → j < 7 → v j = .slice none 0 0) ∧ Hid (Below b W0 wr)) (fun iv _ => t.cells.length - (intOf iv).toNat)
  case atStart => exact ⟨0, by omega, rfl, Lib.hid ⟨_, _, HT0.out, fun j _ _ => rfl⟩, Lib.hid (Below.refl _ _)⟩
  case round =>
    obtain ⟨k, hkl, rfl, HEX, HBR⟩ := hrel
    have q0 := (HXK.out wr HBR.out).cell 0
    simp only [List.getElem?_toArray, List.getElem?_cons_zero] at q0
    by_cases hlt : k < t.cells.length
    · obtain ⟨v, ds', hT, hvn⟩ := HEX.out
      clear HEX
      obtain ⟨x, hx⟩ : ∃ x, t.cells[k]? = some x := ⟨_, List.getElem?_eq_getElem hlt⟩
      have HPT : Hid ((⟨(t.cells.take (k + 1)).map celP, [], [], [], [], [], []⟩ : Trc) = ((⟨(t.cells.take k).map celP, [], [], [], [], [], []⟩ : Trc)).add (.cell (celP x))) := Lib.hid (by rw [take_succ_of hx]; simp [Trc.add])
      have HRN : Hid (rowN (⟨(t.cells.take k).map celP, [], [], [], [], [], []⟩ : Trc) 0 ≤ 1000000) := Lib.hid (by have h1 := HS.out; unfold Small at h1; simp [rowN]; omega)
      have lk : (k : Int) < (t.cells.length : Int) := by omega
      have lm : (k : Int) < 1000000 := by have h1 := HS.out; unfold Small at h1; omega
      generalize (⟨(t.cells.take k).map celP, [], [], [], [], [], []⟩ : Trc) = tk at *
      have HT1 := Lib.hid hT
      have HVN := Lib.hid hvn
      clear hT hvn
      obtain ⟨b1, o1, e1, hb1, g1⟩ := (HR0.out.keep (HWK.out _ HBR.out)).flat (g := Cel.cells) (m := 5) (fun _ => rfl) (by omega) hx
      subst e1
      have HIX := Lib.hid (HOK.out.1 x (List.mem_of_getElem? hx))
      clear hx
      obtain ⟨nm, ix, sz, vo, ini⟩ := x
      have y0 : wr.cell? ⟨b1, o1 + k * 5, none⟩ = some (.string ⟨nm.toArray⟩) := g1 0 _ rfl
      have y1 : wr.cell? ⟨b1, o1 + k * 5 + 1, none⟩ = some (.int .i64 ix) := g1 1 _ rfl
      have y2 : wr.cell? ⟨b1, o1 + k * 5 + 2, none⟩ = some (.int .i64 sz) := g1 2 _ rfl
      have y3 : wr.cell? ⟨b1, o1 + k * 5 + 3, none⟩ = some (.bool vo) := g1 3 _ rfl
      have y4 : wr.cell? ⟨b1, o1 + k * 5 + 4, none⟩ = some (.int .i64 ini) := g1 4 _ rfl
      clear g1 hb1
      have HXA := Lib.hid (Blk.new wr 55 #[.string ⟨nm.toArray⟩, .int .i64 ix, .int .i64 sz, .bool vo, .int .i64 ini])
      have hba : Below wr.heap.size wr (wr.alloc (.cells #[.string ⟨nm.toArray⟩, .int .i64 ix, .int .i64 sz, .bool vo, .int .i64 ini] 55)) := (Below.refl _ _).alloc (Nat.le_refl _) _
      have HBA1 := Lib.hid hba
      clear hba
      go_upto_region 6 with fail
      generalize wr.alloc (.cells #[.string ⟨nm.toArray⟩, .int .i64 ix, .int .i64 sz, .bool vo, .int .i64 ini] 55) = wa at *
      have p0 := HXA.out.cell 0
      have z0 := HXA.out.frozen 0
      simp only [List.getElem?_toArray, List.getElem?_cons_zero] at p0
      have HXB : Hid (Blk (wa.setCell ⟨wr.heap.size, 0, none⟩ (.string ⟨#[99, 49]⟩)) wr.heap.size 55 #[.string ⟨#[99, 49]⟩, .int .i64 ix, .int .i64 sz, .bool vo, .int .i64 ini]) := Lib.hid (HXA.out.set_ 0 (.string ⟨#[99, 49]⟩))
      have HBA2 := Lib.hid (HBA1.out.setCell (Nat.le_refl _) (.string ⟨#[99, 49]⟩) (p := ⟨wr.heap.size, 0, none⟩))
      clear y0 y1 y2 y3 y4
      go_upto_region 7 with fail
      generalize wa.setCell ⟨wr.heap.size, 0, none⟩ (.string ⟨#[99, 49]⟩) = wb at *
      clear p0 z0 HXA HBA1
      have HT2 := Lib.hid (HT1.out.keep HBA2.out)
      have HBA : Hid (Below b W0 wb) := Lib.hid (HBR.out.trans (HBA2.out.mono (by have := HBR.out.size; have := HBB.out; have := HBA0.out; omega)))
      generalize wr.heap.size = ga at *
      have p0 := HXB.out.cell 0
      have p1 := HXB.out.cell 1
      have p2 := HXB.out.cell 2
      have p3 := HXB.out.cell 3
      have p4 := HXB.out.cell 4
      simp only [List.getElem?_toArray, List.getElem?_cons_zero, List.getElem?_cons_succ] at p0 p1 p2 p3 p4
      clear q0
      have HON : Hid (∀ u ∈ ([.string ⟨#[99, 49]⟩, .int .i64 ix, .int .i64 sz, .bool vo, .int .i64 ini] : List Value), u.oneCell' = true) := Lib.hid (by intro u hu; simp at hu; rcases hu with rfl | rfl | rfl | rfl | rfl <;> rfl)
      have HM1 : Hid (rowN tk 0 + 1 ≤ maxLen) := Lib.hid (by have := HRN.out; unfold maxLen; omega)
      have HM2 : Hid ((rowN tk 0 + 1) * 48 ≤ 140737488355328) := Lib.hid (by have := HRN.out; omega)
      have HM3 : Hid (base ≤ (wb.alloc (.cells #[.string ⟨#[99, 49]⟩, .int .i64 ix, .int .i64 sz, .bool vo, .int .i64 ini] 55)).heap.size) := Lib.hid (by have := HT2.out.le; simp; omega)
      have HTA := Lib.hid (HT2.out.keep ((Below.refl _ _).alloc (Nat.le_refl _) (.cells #[.string ⟨#[99, 49]⟩, .int .i64 ix, .int .i64 sz, .bool vo, .int .i64 ini] 55)))
      have HOW := Lib.hid (HTA.out.row 0 (by omega))
      have r0 := HT2.out.blk.cell 0
      have ra := HTA.out.blk.cell 0
      simp only [List.getElem?_toArray, List.getElem?_cons_zero] at r0 ra
      go_wp2_with (at_builtin; refine wpList_append_own_at _ rfl _ _ 22 rfl base 55 iC0 (.agg #[.string ⟨#[]⟩, .int .i64 0, .int .i64 0, .bool false, .int .i64 0]) 5 48 Tryd.underlying22 hi0 hz0a hz0b hz0c rfl (by decide) _ _ _ rfl (HOW.out) ⟨wb.heap.size, 0, none⟩ 1 1 [.string ⟨#[99, 49]⟩, .int .i64 ix, .int .i64 sz, .bool vo, .int .i64 ini] rfl rfl (cells_at wb 55 [.string ⟨#[99, 49]⟩, .int .i64 ix, .int .i64 sz, .bool vo, .int .i64 ini] rfl) HON.out HM1.out HM2.out HM3.out ?_)
      intro v7 w7 hown hgrow _ hat
      obtain ⟨A7, c7, e7, -, -, -⟩ := owns_rd hown
      subst e7
      have HT8 := Lib.hid (HTA.out.push (i := 0) (it := (.cell ⟨[99, 49], ix, sz, vo, ini⟩)) (d := (.slice none 0 0, .slice none 0 0)) rfl hown hgrow (by simpa using hat) (by intro e he; cases he) HIX.out)
      have hb7 := HTA.out.blk.grown hgrow (by intro e; have := HTA.out.own (i := 0) (by omega) b e.symm; have := HTA.out.lt; omega)
      have k7 := hb7.cell 0
      have z7 := hb7.frozen 0
      simp only [List.getElem?_toArray, List.getElem?_cons_zero] at k7
      have HB7 : Hid (Below b W0 w7) := Lib.hid ((HBA.out.alloc (by have := HBA.out.size; have := HBB.out; have := HBA0.out; omega) (.cells #[.string ⟨#[99, 49]⟩, .int .i64 ix, .int .i64 sz, .bool vo, .int .i64 ini] 55)).grown hgrow (by have := HBA.out.size; have := HBB.out; have := HBA0.out; simp; omega) (fun g e => by have := HTA.out.own (i := 0) (by omega) g e; have := HTA.out.lt; omega))
      have HB8 := Lib.hid (HB7.out.setCell (Nat.le_refl b) (.slice A7 (rowN tk 0 + 1) c7) (p := ⟨b, 0, none⟩))
      go_wp2_with fail
      clear HB7 k7 z7 hb7 hown hgrow hat r0 ra HOW HON HM1 HM2 HM3
      generalize w7.setCell ⟨b, 0, none⟩ (.slice A7 (rowN tk 0 + 1) c7) = w8 at *
      go_roundw
      case rel => exact ⟨k + 1, by omega, by go_num, Lib.hid ⟨_, _, by rw [HPT.out]; exact HT8.out, fun j h1 h2 => by rw [upd_other _ _ (by omega)]; exact HVN.out j h1 h2⟩, HB8⟩
      case measure => simp [intOf]; omega
    · obtain rfl : k = t.cells.length := by omega
      have lk : ¬ ((t.cells.length : Int) < (t.cells.length : Int)) := by omega
      clear hlt hkl
      have HEN : Hid (∃ v ds, PrS w00 wr base b v (⟨t.cells.map celP, [], [], [], [], [], []⟩ : Trc) ds ∧ ∀ j, 0 < j → j < 7 → v j = .slice none 0 0) := Lib.hid (by have h := HEX.out; rw [List.take_length] at h; exact h)
      go_wp2_with fail
      clear q0
      go_loopw [6] (fun iv wr => ∃ k : Nat, k ≤ t.locks.length ∧ iv = .int .i64 (k : Int) ∧ Hid (∃ v ds, PrS w00 wr base b v (⟨t.cells.map celP, (t.locks.take k).map lckP, [], [], [], [], []⟩ : Trc) ds ∧ ∀ j, 1 < j → j < 7 → v j = .slice none 0 0) ∧ Hid (Below b W0 wr)) (fun iv _ => t.locks.length - (intOf iv).toNat)
      case atStart => exact ⟨0, by omega, rfl, Lib.hid (by obtain ⟨v, ds, h1, h2⟩ := HEN.out; exact ⟨v, ds, by simpa using h1, fun j a c => h2 j (by omega) c⟩), HBR⟩
      case round =>
        obtain ⟨k, hkl, rfl, HEX, HBR⟩ := hrel
        have q1 := (HXK.out wr HBR.out).cell 1
        simp only [List.getElem?_toArray, List.getElem?_cons_zero, List.getElem?_cons_succ] at q1
        by_cases hlt : k < t.locks.length
        · obtain ⟨v, ds', hT, hvn⟩ := HEX.out
          clear HEX
          obtain ⟨x, hx⟩ : ∃ x, t.locks[k]? = some x := ⟨_, List.getElem?_eq_getElem hlt⟩
          have HPT : Hid ((⟨t.cells.map celP, (t.locks.take (k + 1)).map lckP, [], [], [], [], []⟩ : Trc) = ((⟨t.cells.map celP, (t.locks.take k).map lckP, [], [], [], [], []⟩ : Trc)).add (.lock (lckP x))) := Lib.hid (by rw [take_succ_of hx]; simp [Trc.add])
          have HRN : Hid (rowN (⟨t.cells.map celP, (t.locks.take k).map lckP, [], [], [], [], []⟩ : Trc) 1 ≤ 1000000) := Lib.hid (by have h1 := HS.out; unfold Small at h1; simp [rowN]; omega)
          have lk : (k : Int) < (t.locks.length : Int) := by omega
          have lm : (k : Int) < 1000000 := by have h1 := HS.out; unfold Small at h1; omega
          generalize (⟨t.cells.map celP, (t.locks.take k).map lckP, [], [], [], [], []⟩ : Trc) = tk at *
          have HT1 := Lib.hid hT
          have HVN := Lib.hid hvn
          clear hT hvn
          obtain ⟨b1, o1, e1, hb1, g0⟩ := HR1.out.flat (g := Lck.cells) (m := 2) (fun _ => rfl) (by omega) hx
          subst e1
          clear hx
          obtain ⟨nm, rw⟩ := x
          have HB1B : b1 < b := by have := HBB.out; have := HBA0.out; omega
          have y1 : wr.cell? ⟨b1, o1 + k * 2 + 1, none⟩ = some (.bool rw) := ((HWK.out _ HBR.out).cell (p := ⟨b1, o1 + k * 2 + 1, none⟩) hb1).trans (g0 1 _ rfl)
          clear hb1
          clear g0
          have HBA := HBR
          have HON : Hid (∀ u ∈ ([.string ⟨#[76, 111, 99, 107, 95, 111, 102, 95, 105, 116]⟩, .bool rw] : List Value), u.oneCell' = true) := Lib.hid (by intro u hu; simp at hu; rcases hu with rfl | rfl <;> rfl)
          have HM1 : Hid (rowN tk 1 + 1 ≤ maxLen) := Lib.hid (by have := HRN.out; unfold maxLen; omega)
          have HM2 : Hid ((rowN tk 1 + 1) * 24 ≤ 140737488355328) := Lib.hid (by have := HRN.out; omega)
          have HM3 : Hid (base ≤ (wr.alloc (.cells #[.string ⟨#[76, 111, 99, 107, 95, 111, 102, 95, 105, 116]⟩, .bool rw] 57)).heap.size) := Lib.hid (by have := HT1.out.le; simp; omega)
          have HTA := Lib.hid (HT1.out.keep ((Below.refl _ _).alloc (Nat.le_refl _) (.cells #[.string ⟨#[76, 111, 99, 107, 95, 111, 102, 95, 105, 116]⟩, .bool rw] 57)))
          have HOW := Lib.hid (HTA.out.row 1 (by omega))
          have r0 := HT1.out.blk.cell 1
          have ra := HTA.out.blk.cell 1
          simp only [List.getElem?_toArray, List.getElem?_cons_zero, List.getElem?_cons_succ] at r0 ra
          have HSX : Hid (∀ w', Below b wr w' → w'.cell? ⟨xb, 1, none⟩ = some (.slice (some ⟨b1, o1, none⟩) t.locks.length c1) ∧ w'.cell? ⟨b1, o1 + k * 2 + 1, none⟩ = some (.bool rw)) := Lib.hid (fun w' h => ⟨(h.cell (p := ⟨xb, 1, none⟩) (by have := HBB.out; have := HBA0.out; show xb < b; omega)).trans q1, (h.cell (p := ⟨b1, o1 + k * 2 + 1, none⟩) HB1B).trans y1⟩)
          have s1 := HSX.out _ (Below.refl b wr).drew
          have s2 := HSX.out _ ((Below.refl b wr).alloc (by have := HBR.out.size; have := HBB.out; have := HBA0.out; omega) (.cells #[.string ⟨#[76, 111, 99, 107, 95, 111, 102, 95, 105, 116]⟩, .bool rw] 57)).drew
          have s3 := HSX.out _ ((Below.refl b wr).drew.alloc (by have := HBR.out.size; have := HBB.out; have := HBA0.out; show b ≤ wr.heap.size; omega) (.cells #[.string ⟨#[76, 111, 99, 107, 95, 111, 102, 95, 105, 116]⟩, .bool rw] 57))
          have HNW := Lib.hid (cells_at wr 57 [.string ⟨#[76, 111, 99, 107, 95, 111, 102, 95, 105, 116]⟩, .bool rw] rfl)
          go_upto_region 11 with fail
          refine wp_region_held_drew (S := fun w' => w'.cell? ⟨xb, 1, none⟩ = some (.slice (some ⟨b1, o1, none⟩) t.locks.length c1) ∧ w'.cell? ⟨b1, o1 + k * 2 + 1, none⟩ = some (.bool rw)) (by kernel_rfl) (by (try dsimp only); first | with_reducible exact s1 | with_reducible exact s2 | with_reducible exact s3 | with_reducible exact s8 | with_reducible exact s7) (fun hHeld => ?_)
          refine wpAnyH_take (i := 0) (v := ?v1) (by simp only [List.getElem?_toArray, List.getElem?_cons_zero]; rfl) (by kernel_rfl) (by kernel_rfl) (by kernel_rfl) (by exact fun _ _ _ h => h) (Or.inl ⟨by rfl, ?y1⟩) hHeld ?r1
          case y1 => (intro w hSw; (try dsimp only at hSw); go_simp <;> with_reducible rfl)
          (try simp only [Act.put, List.setIfInBounds_toArray, List.set_cons_zero, List.set_cons_succ])
          refine wpAnyH_take (i := 1) (v := ?v2) (by simp only [List.getElem?_toArray, List.getElem?_cons_succ, List.getElem?_cons_zero]; rfl) (by kernel_rfl) (by kernel_rfl) (by kernel_rfl) (by exact fun _ _ _ h => h) (Or.inl ⟨by rfl, ?y2⟩) hHeld ?r2
          case y2 => (intro w hSw; (try dsimp only at hSw); go_simp <;> with_reducible rfl)
          (try simp only [Act.put, List.setIfInBounds_toArray, List.set_cons_zero, List.set_cons_succ])
          refine wpAnyH_take (i := 3) (v := ?v3) (by simp only [List.getElem?_toArray, List.getElem?_cons_succ, List.getElem?_cons_zero]; rfl) (by kernel_rfl) (by kernel_rfl) (by kernel_rfl) (by exact fun _ _ _ h => h) (Or.inl ⟨by rfl, ?y3⟩) hHeld ?r3
          case y3 => (intro w hSw; (try dsimp only at hSw); go_simp <;> with_reducible rfl)
          (try simp only [Act.put, List.setIfInBounds_toArray, List.set_cons_zero, List.set_cons_succ])
          refine wpAnyH_take (i := 4) (v := ?v4) (by simp only [List.getElem?_toArray, List.getElem?_cons_succ, List.getElem?_cons_zero]; rfl) (by kernel_rfl) (by kernel_rfl) (by kernel_rfl) (by exact fun _ _ _ h => h) (Or.inl ⟨by rfl, ?y4⟩) hHeld ?r4
          case y4 => (intro w hSw; (try dsimp only at hSw); go_simp <;> with_reducible rfl)
          (try simp only [Act.put, List.setIfInBounds_toArray, List.set_cons_zero, List.set_cons_succ])
          refine wpAnyH_take (i := 5) (v := ?v5) (by simp only [List.getElem?_toArray, List.getElem?_cons_succ, List.getElem?_cons_zero]; rfl) (by kernel_rfl) (by kernel_rfl) (by kernel_rfl) (by exact fun _ _ _ h => h) (Or.inl ⟨by rfl, ?y5⟩) hHeld ?r5
          case y5 => (intro w hSw; (try dsimp only at hSw); go_simp <;> with_reducible rfl)
          (try simp only [Act.put, List.setIfInBounds_toArray, List.set_cons_zero, List.set_cons_succ])
          refine wpAnyH_take (i := 6) (v := ?v6) (by simp only [List.getElem?_toArray, List.getElem?_cons_succ, List.getElem?_cons_zero]; rfl) (by kernel_rfl) (by kernel_rfl) (by kernel_rfl) (by exact fun _ _ _ h => h) (Or.inl ⟨by rfl, ?y6⟩) hHeld ?r6
          case y6 => (intro w hSw; (try dsimp only at hSw); go_simp <;> with_reducible rfl)
          (try simp only [Act.put, List.setIfInBounds_toArray, List.set_cons_zero, List.set_cons_succ])
          refine wpAnyH_take (i := 7) (v := ?v7) (by simp only [List.getElem?_toArray, List.getElem?_cons_succ, List.getElem?_cons_zero]; rfl) (by kernel_rfl) (by kernel_rfl) (by kernel_rfl) (by exact fun _ _ _ h => h) (Or.inl ⟨by rfl, ?y7⟩) hHeld ?r7
          case y7 => (intro w hSw; (try dsimp only at hSw); go_simp <;> with_reducible rfl)
          (try simp only [Act.put, List.setIfInBounds_toArray, List.set_cons_zero, List.set_cons_succ])
          refine wpAnyH_take (i := 8) (v := ?v8) (by simp only [List.getElem?_toArray, List.getElem?_cons_succ, List.getElem?_cons_zero]; rfl) (by kernel_rfl) (by kernel_rfl) (by kernel_rfl) (by exact fun _ _ _ h => h) (Or.inl ⟨by rfl, ?y8⟩) hHeld ?r8
          case y8 => (intro w hSw; (try dsimp only at hSw); go_simp <;> with_reducible rfl)
          (try simp only [Act.put, List.setIfInBounds_toArray, List.set_cons_zero, List.set_cons_succ])
          refine wpAnyH_take (i := 9) (v := ?v9) (by simp only [List.getElem?_toArray, List.getElem?_cons_succ, List.getElem?_cons_zero]; rfl) (by kernel_rfl) (by kernel_rfl) (by kernel_rfl) (by exact fun _ _ _ h => h) (Or.inl ⟨by rfl, ?y9⟩) hHeld ?r9
          case y9 => (intro w hSw; (try dsimp only at hSw); go_simp <;> with_reducible rfl)
          (try simp only [Act.put, List.setIfInBounds_toArray, List.set_cons_zero, List.set_cons_succ])
          refine wpAnyH_take (i := 10) (v := ?v10) (by simp only [List.getElem?_toArray, List.getElem?_cons_succ, List.getElem?_cons_zero]; rfl) (by kernel_rfl) (by kernel_rfl) (by kernel_rfl) (by exact fun _ _ _ h => h) (Or.inl ⟨by rfl, ?y10⟩) hHeld ?r10
          case y10 => (intro w hSw; (try dsimp only at hSw); go_simp <;> with_reducible rfl)
          (try simp only [Act.put, List.setIfInBounds_toArray, List.set_cons_zero, List.set_cons_succ])
          refine wpAnyH_ready (rs := [2, 11]) (by kernel_rfl) (by simp) ?_
          refine AllReadyH.cons (by simp only [List.getElem?_toArray, List.getElem?_cons_succ, List.getElem?_cons_zero]; rfl) (fun K hK => ?_) (AllReadyH.cons (by simp only [List.getElem?_toArray, List.getElem?_cons_succ, List.getElem?_cons_zero]; rfl) (fun K hK => ?_) AllReadyH.nil)
          · clear hHeld
            go_simp
            refine hK.out _ _ (by (try dsimp only); first | with_reducible exact s1 | with_reducible exact s2 | with_reducible exact s3 | with_reducible exact s8 | with_reducible exact s7) (fun hHeld => ?_)
            clear hK K
            (try simp only [Act.put, List.setIfInBounds_toArray, List.set_cons_zero, List.set_cons_succ])
            refine wpAnyH_ready (rs := [11]) (by kernel_rfl) (by simp) ?_
            refine AllReadyH.cons (by simp only [List.getElem?_toArray, List.getElem?_cons_succ, List.getElem?_cons_zero]; rfl) (fun K hK => ?_) AllReadyH.nil
            clear hHeld
            go_simp
            refine hK.out _ _ (by (try dsimp only); first | with_reducible exact s1 | with_reducible exact s2 | with_reducible exact s3 | with_reducible exact s8 | with_reducible exact s7) (fun hHeld => ?_)
            clear hK K
            (try simp only [Act.put, List.setIfInBounds_toArray, List.set_cons_zero, List.set_cons_succ])
            refine wpAnyH_ready (rs := [12]) (by kernel_rfl) (by simp) ?_
            refine AllReadyH.cons (by simp only [List.getElem?_toArray, List.getElem?_cons_succ, List.getElem?_cons_zero]; rfl) (fun K hK => ?_) AllReadyH.nil
            clear hHeld
            refine step_app_own rfl (.tmp 45) (.tmp 54) 23 rfl base 57 iC1 _ 2 24 Tryd.underlying23 hi1 hz1a hz1b hz1c rfl (by decide) (v 1) (rowN tk 1) (rowX tk ds' 1) (by first | rfl | simp [Act.eval]) HOW.out.drew ⟨wr.heap.size, 0, none⟩ 1 1 [.string ⟨#[76, 111, 99, 107, 95, 111, 102, 95, 105, 116]⟩, .bool rw] (by first | rfl | simp [Act.eval]) rfl HNW.out HON.out HM1.out HM2.out HM3.out ?_
            intro v7 w7 hown hg hat
            have hgrow : (wr.alloc (.cells #[.string ⟨#[76, 111, 99, 107, 95, 111, 102, 95, 105, 116]⟩, .bool rw] 57)).grownBy w7 (v 1).ownBlock := ⟨hg.os, hg.tape, hg.output, hg.size, hg.block⟩
            obtain ⟨A7, c7, e7, -, -, -⟩ := owns_rd hown
            subst e7
            have HT8 := Lib.hid (HTA.out.push (i := 1) (it := (.lock ⟨[76, 111, 99, 107, 95, 111, 102, 95, 105, 116], rw⟩)) (d := (.slice none 0 0, .slice none 0 0)) rfl hown hgrow (by simpa using hat) (by intro e he; cases he) trivial)
            have hb7 := HTA.out.blk.grown hgrow (by intro e; have := HTA.out.own (i := 1) (by omega) b e.symm; have := HTA.out.lt; omega)
            have k7 := hb7.cell 1
            have z7 := hb7.frozen 1
            simp only [List.getElem?_toArray, List.getElem?_cons_zero, List.getElem?_cons_succ] at k7
            have HB7 : Hid (Below b W0 w7) := Lib.hid ((HBA.out.alloc (by have := HBA.out.size; have := HBB.out; have := HBA0.out; omega) (.cells #[.string ⟨#[76, 111, 99, 107, 95, 111, 102, 95, 105, 116]⟩, .bool rw] 57)).grown hgrow (by have := HBA.out.size; have := HBB.out; have := HBA0.out; simp; omega) (fun g e => by have := HTA.out.own (i := 1) (by omega) g e; have := HTA.out.lt; omega))
            have hbw7 : Below b wr w7 := ((Below.refl b wr).alloc (by have := HBR.out.size; have := HBB.out; have := HBA0.out; omega) (.cells #[.string ⟨#[76, 111, 99, 107, 95, 111, 102, 95, 105, 116]⟩, .bool rw] 57)).grown hgrow (by have := HBR.out.size; have := HBB.out; have := HBA0.out; simp; omega) (fun g e => by have := HTA.out.own (i := 1) (by omega) g e; have := HTA.out.lt; omega)
            have s7 := HSX.out w7 hbw7
            have s8 := HSX.out _ (hbw7.setCell (Nat.le_refl b) (.slice A7 (rowN tk 1 + 1) c7) (p := ⟨b, 1, none⟩))
            clear hbw7 hg
            refine hK.out _ _ (by (try dsimp only); first | with_reducible exact s1 | with_reducible exact s2 | with_reducible exact s3 | with_reducible exact s8 | with_reducible exact s7) (fun hHeld => ?_)
            clear hK K
            (try simp only [Act.put, List.setIfInBounds_toArray, List.set_cons_zero, List.set_cons_succ])
            refine wpAnyH_take (i := 13) (v := ?v11) (by simp only [List.getElem?_toArray, List.getElem?_cons_succ, List.getElem?_cons_zero]; rfl) (by kernel_rfl) (by kernel_rfl) (by kernel_rfl) (by exact fun _ _ _ h => h) (Or.inl ⟨by rfl, ?y11⟩) hHeld ?r11
            case y11 => (intro w hSw; (try dsimp only at hSw); go_simp <;> with_reducible rfl)
            (try simp only [Act.put, List.setIfInBounds_toArray, List.set_cons_zero, List.set_cons_succ])
            refine wpAnyH_take (i := 14) (v := ?v12) (by simp only [List.getElem?_toArray, List.getElem?_cons_succ, List.getElem?_cons_zero]; rfl) (by kernel_rfl) (by kernel_rfl) (by kernel_rfl) (by exact fun _ _ _ h => h) (Or.inl ⟨by rfl, ?y12⟩) hHeld ?r12
            case y12 => (intro w hSw; (try dsimp only at hSw); go_simp <;> with_reducible rfl)
            (try simp only [Act.put, List.setIfInBounds_toArray, List.set_cons_zero, List.set_cons_succ])
            refine wpAnyH_ready (rs := [15]) (by kernel_rfl) (by simp) ?_
            refine AllReadyH.cons (by simp only [List.getElem?_toArray, List.getElem?_cons_succ, List.getElem?_cons_zero]; rfl) (fun K hK => ?_) AllReadyH.nil
            clear hHeld
            go_simp
            refine hK.out _ _ (by (try dsimp only); first | with_reducible exact s1 | with_reducible exact s2 | with_reducible exact s3 | with_reducible exact s8 | with_reducible exact s7) (fun hHeld => ?_)
            clear hK K
            (try simp only [Act.put, List.setIfInBounds_toArray, List.set_cons_zero, List.set_cons_succ])
            clear hHeld
            refine wpAnyH_done (by kernel_rfl) ?_ _
            have HB8 := Lib.hid (HB7.out.setCell (Nat.le_refl b) (.slice A7 (rowN tk 1 + 1) c7) (p := ⟨b, 1, none⟩))
            clear s1 s2 s3 s7 s8 HSX HNW y1 HB7 k7 z7 hb7 hown hgrow hat r0 ra HOW HON HM1 HM2 HM3
            generalize w7.setCell ⟨b, 1, none⟩ (.slice A7 (rowN tk 1 + 1) c7) = w8 at *
            go_wp2_with fail
            go_roundw
            case rel => exact ⟨k + 1, by omega, by go_num, Lib.hid ⟨_, _, by rw [HPT.out]; exact HT8.out, fun j h1 h2 => by rw [upd_other _ _ (by omega)]; exact HVN.out j h1 h2⟩, HB8⟩
            case measure => simp [intOf]; omega
          · clear hHeld
            go_simp
            refine hK.out _ _ (by (try dsimp only); first | with_reducible exact s1 | with_reducible exact s2 | with_reducible exact s3 | with_reducible exact s8 | with_reducible exact s7) (fun hHeld => ?_)
            clear hK K
            (try simp only [Act.put, List.setIfInBounds_toArray, List.set_cons_zero, List.set_cons_succ])
            refine wpAnyH_ready (rs := [2]) (by kernel_rfl) (by simp) ?_
            refine AllReadyH.cons (by simp only [List.getElem?_toArray, List.getElem?_cons_succ, List.getElem?_cons_zero]; rfl) (fun K hK => ?_) AllReadyH.nil
            clear hHeld
            go_simp
            refine hK.out _ _ (by (try dsimp only); first | with_reducible exact s1 | with_reducible exact s2 | with_reducible exact s3 | with_reducible exact s8 | with_reducible exact s7) (fun hHeld => ?_)
            clear hK K
            (try simp only [Act.put, List.setIfInBounds_toArray, List.set_cons_zero, List.set_cons_succ])
            refine wpAnyH_ready (rs := [12]) (by kernel_rfl) (by simp) ?_
            refine AllReadyH.cons (by simp only [List.getElem?_toArray, List.getElem?_cons_succ, List.getElem?_cons_zero]; rfl) (fun K hK => ?_) AllReadyH.nil
            clear hHeld
            refine step_app_own rfl (.tmp 45) (.tmp 54) 23 rfl base 57 iC1 _ 2 24 Tryd.underlying23 hi1 hz1a hz1b hz1c rfl (by decide) (v 1) (rowN tk 1) (rowX tk ds' 1) (by first | rfl | simp [Act.eval]) HOW.out.drew ⟨wr.heap.size, 0, none⟩ 1 1 [.string ⟨#[76, 111, 99, 107, 95, 111, 102, 95, 105, 116]⟩, .bool rw] (by first | rfl | simp [Act.eval]) rfl HNW.out HON.out HM1.out HM2.out HM3.out ?_
            intro v7 w7 hown hg hat
            have hgrow : (wr.alloc (.cells #[.string ⟨#[76, 111, 99, 107, 95, 111, 102, 95, 105, 116]⟩, .bool rw] 57)).grownBy w7 (v 1).ownBlock := ⟨hg.os, hg.tape, hg.output, hg.size, hg.block⟩
            obtain ⟨A7, c7, e7, -, -, -⟩ := owns_rd hown
            subst e7
            have HT8 := Lib.hid (HTA.out.push (i := 1) (it := (.lock ⟨[76, 111, 99, 107, 95, 111, 102, 95, 105, 116], rw⟩)) (d := (.slice none 0 0, .slice none 0 0)) rfl hown hgrow (by simpa using hat) (by intro e he; cases he) trivial)
            have hb7 := HTA.out.blk.grown hgrow (by intro e; have := HTA.out.own (i := 1) (by omega) b e.symm; have := HTA.out.lt; omega)
            have k7 := hb7.cell 1
            have z7 := hb7.frozen 1
            simp only [List.getElem?_toArray, List.getElem?_cons_zero, List.getElem?_cons_succ] at k7
            have HB7 : Hid (Below b W0 w7) := Lib.hid ((HBA.out.alloc (by have := HBA.out.size; have := HBB.out; have := HBA0.out; omega) (.cells #[.string ⟨#[76, 111, 99, 107, 95, 111, 102, 95, 105, 116]⟩, .bool rw] 57)).grown hgrow (by have := HBA.out.size; have := HBB.out; have := HBA0.out; simp; omega) (fun g e => by have := HTA.out.own (i := 1) (by omega) g e; have := HTA.out.lt; omega))
            have hbw7 : Below b wr w7 := ((Below.refl b wr).alloc (by have := HBR.out.size; have := HBB.out; have := HBA0.out; omega) (.cells #[.string ⟨#[76, 111, 99, 107, 95, 111, 102, 95, 105, 116]⟩, .bool rw] 57)).grown hgrow (by have := HBR.out.size; have := HBB.out; have := HBA0.out; simp; omega) (fun g e => by have := HTA.out.own (i := 1) (by omega) g e; have := HTA.out.lt; omega)
            have s7 := HSX.out w7 hbw7
            have s8 := HSX.out _ (hbw7.setCell (Nat.le_refl b) (.slice A7 (rowN tk 1 + 1) c7) (p := ⟨b, 1, none⟩))
            clear hbw7 hg
            refine hK.out _ _ (by (try dsimp only); first | with_reducible exact s1 | with_reducible exact s2 | with_reducible exact s3 | with_reducible exact s8 | with_reducible exact s7) (fun hHeld => ?_)
            clear hK K
            (try simp only [Act.put, List.setIfInBounds_toArray, List.set_cons_zero, List.set_cons_succ])
            refine wpAnyH_take (i := 13) (v := ?v13) (by simp only [List.getElem?_toArray, List.getElem?_cons_succ, List.getElem?_cons_zero]; rfl) (by kernel_rfl) (by kernel_rfl) (by kernel_rfl) (by exact fun _ _ _ h => h) (Or.inl ⟨by rfl, ?y13⟩) hHeld ?r13
            case y13 => (intro w hSw; (try dsimp only at hSw); go_simp <;> with_reducible rfl)
            (try simp only [Act.put, List.setIfInBounds_toArray, List.set_cons_zero, List.set_cons_succ])
            refine wpAnyH_take (i := 14) (v := ?v14) (by simp only [List.getElem?_toArray, List.getElem?_cons_succ, List.getElem?_cons_zero]; rfl) (by kernel_rfl) (by kernel_rfl) (by kernel_rfl) (by exact fun _ _ _ h => h) (Or.inl ⟨by rfl, ?y14⟩) hHeld ?r14
            case y14 => (intro w hSw; (try dsimp only at hSw); go_simp <;> with_reducible rfl)
            (try simp only [Act.put, List.setIfInBounds_toArray, List.set_cons_zero, List.set_cons_succ])
            refine wpAnyH_ready (rs := [15]) (by kernel_rfl) (by simp) ?_
            refine AllReadyH.cons (by simp only [List.getElem?_toArray, List.getElem?_cons_succ, List.getElem?_cons_zero]; rfl) (fun K hK => ?_) AllReadyH.nil
            clear hHeld
            go_simp
            refine hK.out _ _ (by (try dsimp only); first | with_reducible exact s1 | with_reducible exact s2 | with_reducible exact s3 | with_reducible exact s8 | with_reducible exact s7) (fun hHeld => ?_)
            clear hK K
            (try simp only [Act.put, List.setIfInBounds_toArray, List.set_cons_zero, List.set_cons_succ])
            clear hHeld
            refine wpAnyH_done (by kernel_rfl) ?_ _
            have HB8 := Lib.hid (HB7.out.setCell (Nat.le_refl b) (.slice A7 (rowN tk 1 + 1) c7) (p := ⟨b, 1, none⟩))
            clear s1 s2 s3 s7 s8 HSX HNW y1 HB7 k7 z7 hb7 hown hgrow hat r0 ra HOW HON HM1 HM2 HM3
            generalize w7.setCell ⟨b, 1, none⟩ (.slice A7 (rowN tk 1 + 1) c7) = w8 at *
            go_wp2_with fail
            go_roundw
            case rel => exact ⟨k + 1, by omega, by go_num, Lib.hid ⟨_, _, by rw [HPT.out]; exact HT8.out, fun j h1 h2 => by rw [upd_other _ _ (by omega)]; exact HVN.out j h1 h2⟩, HB8⟩
            case measure => simp [intOf]; omega
        · obtain rfl : k = t.locks.length := by omega
          have lk : ¬ ((t.locks.length : Int) < (t.locks.length : Int)) := by omega
          clear hlt hkl
          have HEN : Hid (∃ v ds, PrS w00 wr base b v (⟨t.cells.map celP, t.locks.map lckP, [], [], [], [], []⟩ : Trc) ds ∧ ∀ j, 1 < j → j < 7 → v j = .slice none 0 0) := Lib.hid (by have h := HEX.out; rw [List.take_length] at h; exact h)
          go_wp2_with fail
          clear q1
          go_loopw [7] (fun iv wr => ∃ k : Nat, k ≤ t.conds.length ∧ iv = .int .i64 (k : Int) ∧ Hid (∃ v ds, PrS w00 wr base b v (⟨t.cells.map celP, t.locks.map lckP, (t.conds.take k).map cndP, [], [], [], []⟩ : Trc) ds ∧ ∀ j, 2 < j → j < 7 → v j = .slice none 0 0) ∧ Hid (Below b W0 wr)) (fun iv _ => t.conds.length - (intOf iv).toNat)
          case atStart => exact ⟨0, by omega, rfl, Lib.hid (by obtain ⟨v, ds, h1, h2⟩ := HEN.out; exact ⟨v, ds, by simpa using h1, fun j a c => h2 j (by omega) c⟩), HBR⟩
          case round =>
            obtain ⟨k, hkl, rfl, HEX, HBR⟩ := hrel
            have q2 := (HXK.out wr HBR.out).cell 2
            simp only [List.getElem?_toArray, List.getElem?_cons_zero, List.getElem?_cons_succ] at q2
            by_cases hlt : k < t.conds.length
            · obtain ⟨v, ds', hT, hvn⟩ := HEX.out
              clear HEX
              obtain ⟨x, hx⟩ : ∃ x, t.conds[k]? = some x := ⟨_, List.getElem?_eq_getElem hlt⟩
              have HPT : Hid ((⟨t.cells.map celP, t.locks.map lckP, (t.conds.take (k + 1)).map cndP, [], [], [], []⟩ : Trc) = ((⟨t.cells.map celP, t.locks.map lckP, (t.conds.take k).map cndP, [], [], [], []⟩ : Trc)).add (.cond (cndP x))) := Lib.hid (by rw [take_succ_of hx]; simp [Trc.add])
              have HRN : Hid (rowN (⟨t.cells.map celP, t.locks.map lckP, (t.conds.take k).map cndP, [], [], [], []⟩ : Trc) 2 ≤ 1000000) := Lib.hid (by have h1 := HS.out; unfold Small at h1; simp [rowN]; omega)
              have lk : (k : Int) < (t.conds.length : Int) := by omega
              have lm : (k : Int) < 1000000 := by have h1 := HS.out; unfold Small at h1; omega
              generalize (⟨t.cells.map celP, t.locks.map lckP, (t.conds.take k).map cndP, [], [], [], []⟩ : Trc) = tk at *
              have HT1 := Lib.hid hT
              have HVN := Lib.hid hvn
              clear hT hvn
              obtain ⟨b1, o1, e1, hb1, g0⟩ := HR2.out.flat (g := Cnd.cells) (m := 2) (fun _ => rfl) (by omega) hx
              subst e1
              have HIX : Hid (I64 x.mutex) := Lib.hid (HOK.out.2.1 x (List.mem_of_getElem? hx))
              clear hx
              obtain ⟨nm, mx⟩ := x
              have HB1B : b1 < b := by have := HBB.out; have := HBA0.out; omega
              have y1 : wr.cell? ⟨b1, o1 + k * 2 + 1, none⟩ = some (.int .i64 mx) := ((HWK.out _ HBR.out).cell (p := ⟨b1, o1 + k * 2 + 1, none⟩) hb1).trans (g0 1 _ rfl)
              clear hb1
              clear g0
              have HBA := HBR
              have HON : Hid (∀ u ∈ ([.string ⟨#[107]⟩, .int .i64 mx] : List Value), u.oneCell' = true) := Lib.hid (by intro u hu; simp at hu; rcases hu with rfl | rfl <;> rfl)
              have HM1 : Hid (rowN tk 2 + 1 ≤ maxLen) := Lib.hid (by have := HRN.out; unfold maxLen; omega)
              have HM2 : Hid ((rowN tk 2 + 1) * 24 ≤ 140737488355328) := Lib.hid (by have := HRN.out; omega)
              have HM3 : Hid (base ≤ (wr.alloc (.cells #[.string ⟨#[107]⟩, .int .i64 mx] 59)).heap.size) := Lib.hid (by have := HT1.out.le; simp; omega)
              have HTA := Lib.hid (HT1.out.keep ((Below.refl _ _).alloc (Nat.le_refl _) (.cells #[.string ⟨#[107]⟩, .int .i64 mx] 59)))
              have HOW := Lib.hid (HTA.out.row 2 (by omega))
              have r0 := HT1.out.blk.cell 2
              have ra := HTA.out.blk.cell 2
              simp only [List.getElem?_toArray, List.getElem?_cons_zero, List.getElem?_cons_succ] at r0 ra
              have HSX : Hid (∀ w', Below b wr w' → w'.cell? ⟨xb, 2, none⟩ = some (.slice (some ⟨b1, o1, none⟩) t.conds.length c2) ∧ w'.cell? ⟨b1, o1 + k * 2 + 1, none⟩ = some (.int .i64 mx)) := Lib.hid (fun w' h => ⟨(h.cell (p := ⟨xb, 2, none⟩) (by have := HBB.out; have := HBA0.out; show xb < b; omega)).trans q2, (h.cell (p := ⟨b1, o1 + k * 2 + 1, none⟩) HB1B).trans y1⟩)
              have s1 := HSX.out _ (Below.refl b wr).drew
              have s2 := HSX.out _ ((Below.refl b wr).alloc (by have := HBR.out.size; have := HBB.out; have := HBA0.out; omega) (.cells #[.string ⟨#[107]⟩, .int .i64 mx] 59)).drew
              have s3 := HSX.out _ ((Below.refl b wr).drew.alloc (by have := HBR.out.size; have := HBB.out; have := HBA0.out; show b ≤ wr.heap.size; omega) (.cells #[.string ⟨#[107]⟩, .int .i64 mx] 59))
              have HNW := Lib.hid (cells_at wr 59 [.string ⟨#[107]⟩, .int .i64 mx] rfl)
              go_upto_region 15 with fail
              refine wp_region_held_drew (S := fun w' => w'.cell? ⟨xb, 2, none⟩ = some (.slice (some ⟨b1, o1, none⟩) t.conds.length c2) ∧ w'.cell? ⟨b1, o1 + k * 2 + 1, none⟩ = some (.int .i64 mx)) (by kernel_rfl) (by (try dsimp only); first | with_reducible exact s1 | with_reducible exact s2 | with_reducible exact s3 | with_reducible exact s8 | with_reducible exact s7) (fun hHeld => ?_)
              refine wpAnyH_take (i := 0) (v := ?v15) (by simp only [List.getElem?_toArray, List.getElem?_cons_zero]; rfl) (by kernel_rfl) (by kernel_rfl) (by kernel_rfl) (by exact fun _ _ _ h => h) (Or.inl ⟨by rfl, ?y15⟩) hHeld ?r15
              case y15 => (intro w hSw; (try dsimp only at hSw); go_simp <;> with_reducible rfl)
              (try simp only [Act.put, List.setIfInBounds_toArray, List.set_cons_zero, List.set_cons_succ])
              refine wpAnyH_take (i := 1) (v := ?v16) (by simp only [List.getElem?_toArray, List.getElem?_cons_succ, List.getElem?_cons_zero]; rfl) (by kernel_rfl) (by kernel_rfl) (by kernel_rfl) (by exact fun _ _ _ h => h) (Or.inl ⟨by rfl, ?y16⟩) hHeld ?r16
              case y16 => (intro w hSw; (try dsimp only at hSw); go_simp <;> with_reducible rfl)
              (try simp only [Act.put, List.setIfInBounds_toArray, List.set_cons_zero, List.set_cons_succ])
              refine wpAnyH_take (i := 3) (v := ?v17) (by simp only [List.getElem?_toArray, List.getElem?_cons_succ, List.getElem?_cons_zero]; rfl) (by kernel_rfl) (by kernel_rfl) (by kernel_rfl) (by exact fun _ _ _ h => h) (Or.inl ⟨by rfl, ?y17⟩) hHeld ?r17
              case y17 => (intro w hSw; (try dsimp only at hSw); go_simp <;> with_reducible rfl)
              (try simp only [Act.put, List.setIfInBounds_toArray, List.set_cons_zero, List.set_cons_succ])
              refine wpAnyH_take (i := 4) (v := ?v18) (by simp only [List.getElem?_toArray, List.getElem?_cons_succ, List.getElem?_cons_zero]; rfl) (by kernel_rfl) (by kernel_rfl) (by kernel_rfl) (by exact fun _ _ _ h => h) (Or.inl ⟨by rfl, ?y18⟩) hHeld ?r18
              case y18 => (intro w hSw; (try dsimp only at hSw); go_simp <;> with_reducible rfl)
              (try simp only [Act.put, List.setIfInBounds_toArray, List.set_cons_zero, List.set_cons_succ])
              refine wpAnyH_take (i := 5) (v := ?v19) (by simp only [List.getElem?_toArray, List.getElem?_cons_succ, List.getElem?_cons_zero]; rfl) (by kernel_rfl) (by kernel_rfl) (by kernel_rfl) (by exact fun _ _ _ h => h) (Or.inl ⟨by rfl, ?y19⟩) hHeld ?r19
              case y19 => (intro w hSw; (try dsimp only at hSw); go_simp <;> with_reducible rfl)
              (try simp only [Act.put, List.setIfInBounds_toArray, List.set_cons_zero, List.set_cons_succ])
              refine wpAnyH_take (i := 6) (v := ?v20) (by simp only [List.getElem?_toArray, List.getElem?_cons_succ, List.getElem?_cons_zero]; rfl) (by kernel_rfl) (by kernel_rfl) (by kernel_rfl) (by exact fun _ _ _ h => h) (Or.inl ⟨by rfl, ?y20⟩) hHeld ?r20
              case y20 => (intro w hSw; (try dsimp only at hSw); go_simp <;> with_reducible rfl)
              (try simp only [Act.put, List.setIfInBounds_toArray, List.set_cons_zero, List.set_cons_succ])
              refine wpAnyH_take (i := 7) (v := ?v21) (by simp only [List.getElem?_toArray, List.getElem?_cons_succ, List.getElem?_cons_zero]; rfl) (by kernel_rfl) (by kernel_rfl) (by kernel_rfl) (by exact fun _ _ _ h => h) (Or.inl ⟨by rfl, ?y21⟩) hHeld ?r21
              case y21 => (intro w hSw; (try dsimp only at hSw); go_simp <;> with_reducible rfl)
              (try simp only [Act.put, List.setIfInBounds_toArray, List.set_cons_zero, List.set_cons_succ])
              refine wpAnyH_take (i := 8) (v := ?v22) (by simp only [List.getElem?_toArray, List.getElem?_cons_succ, List.getElem?_cons_zero]; rfl) (by kernel_rfl) (by kernel_rfl) (by kernel_rfl) (by exact fun _ _ _ h => h) (Or.inl ⟨by rfl, ?y22⟩) hHeld ?r22
              case y22 => (intro w hSw; (try dsimp only at hSw); go_simp <;> with_reducible rfl)
              (try simp only [Act.put, List.setIfInBounds_toArray, List.set_cons_zero, List.set_cons_succ])
              refine wpAnyH_take (i := 9) (v := ?v23) (by simp only [List.getElem?_toArray, List.getElem?_cons_succ, List.getElem?_cons_zero]; rfl) (by kernel_rfl) (by kernel_rfl) (by kernel_rfl) (by exact fun _ _ _ h => h) (Or.inl ⟨by rfl, ?y23⟩) hHeld ?r23
              case y23 => (intro w hSw; (try dsimp only at hSw); go_simp <;> with_reducible rfl)
              (try simp only [Act.put, List.setIfInBounds_toArray, List.set_cons_zero, List.set_cons_succ])
              refine wpAnyH_take (i := 10) (v := ?v24) (by simp only [List.getElem?_toArray, List.getElem?_cons_succ, List.getElem?_cons_zero]; rfl) (by kernel_rfl) (by kernel_rfl) (by kernel_rfl) (by exact fun _ _ _ h => h) (Or.inl ⟨by rfl, ?y24⟩) hHeld ?r24
              case y24 => (intro w hSw; (try dsimp only at hSw); go_simp <;> with_reducible rfl)
              (try simp only [Act.put, List.setIfInBounds_toArray, List.set_cons_zero, List.set_cons_succ])
              refine wpAnyH_ready (rs := [2, 11]) (by kernel_rfl) (by simp) ?_
              refine AllReadyH.cons (by simp only [List.getElem?_toArray, List.getElem?_cons_succ, List.getElem?_cons_zero]; rfl) (fun K hK => ?_) (AllReadyH.cons (by simp only [List.getElem?_toArray, List.getElem?_cons_succ, List.getElem?_cons_zero]; rfl) (fun K hK => ?_) AllReadyH.nil)
              · clear hHeld
                go_simp
                refine hK.out _ _ (by (try dsimp only); first | with_reducible exact s1 | with_reducible exact s2 | with_reducible exact s3 | with_reducible exact s8 | with_reducible exact s7) (fun hHeld => ?_)
                clear hK K
                (try simp only [Act.put, List.setIfInBounds_toArray, List.set_cons_zero, List.set_cons_succ])
                refine wpAnyH_ready (rs := [11]) (by kernel_rfl) (by simp) ?_
                refine AllReadyH.cons (by simp only [List.getElem?_toArray, List.getElem?_cons_succ, List.getElem?_cons_zero]; rfl) (fun K hK => ?_) AllReadyH.nil
                clear hHeld
                go_simp
                refine hK.out _ _ (by (try dsimp only); first | with_reducible exact s1 | with_reducible exact s2 | with_reducible exact s3 | with_reducible exact s8 | with_reducible exact s7) (fun hHeld => ?_)
                clear hK K
                (try simp only [Act.put, List.setIfInBounds_toArray, List.set_cons_zero, List.set_cons_succ])
                refine wpAnyH_ready (rs := [12]) (by kernel_rfl) (by simp) ?_
                refine AllReadyH.cons (by simp only [List.getElem?_toArray, List.getElem?_cons_succ, List.getElem?_cons_zero]; rfl) (fun K hK => ?_) AllReadyH.nil
                clear hHeld
                refine step_app_own rfl (.tmp 68) (.tmp 77) 24 rfl base 59 iC2 _ 2 24 Tryd.underlying24 hi2 hz2a hz2b hz2c rfl (by decide) (v 2) (rowN tk 2) (rowX tk ds' 2) (by first | rfl | simp [Act.eval]) HOW.out.drew ⟨wr.heap.size, 0, none⟩ 1 1 [.string ⟨#[107]⟩, .int .i64 mx] (by first | rfl | simp [Act.eval]) rfl HNW.out HON.out HM1.out HM2.out HM3.out ?_
                intro v7 w7 hown hg hat
                have hgrow : (wr.alloc (.cells #[.string ⟨#[107]⟩, .int .i64 mx] 59)).grownBy w7 (v 2).ownBlock := ⟨hg.os, hg.tape, hg.output, hg.size, hg.block⟩
                obtain ⟨A7, c7, e7, -, -, -⟩ := owns_rd hown
                subst e7
                have HT8 := Lib.hid (HTA.out.push (i := 2) (it := (.cond ⟨[107], mx⟩)) (d := (.slice none 0 0, .slice none 0 0)) rfl hown hgrow (by simpa using hat) (by intro e he; cases he) HIX.out)
                have hb7 := HTA.out.blk.grown hgrow (by intro e; have := HTA.out.own (i := 2) (by omega) b e.symm; have := HTA.out.lt; omega)
                have k7 := hb7.cell 2
                have z7 := hb7.frozen 2
                simp only [List.getElem?_toArray, List.getElem?_cons_zero, List.getElem?_cons_succ] at k7
                have HB7 : Hid (Below b W0 w7) := Lib.hid ((HBA.out.alloc (by have := HBA.out.size; have := HBB.out; have := HBA0.out; omega) (.cells #[.string ⟨#[107]⟩, .int .i64 mx] 59)).grown hgrow (by have := HBA.out.size; have := HBB.out; have := HBA0.out; simp; omega) (fun g e => by have := HTA.out.own (i := 2) (by omega) g e; have := HTA.out.lt; omega))
                have hbw7 : Below b wr w7 := ((Below.refl b wr).alloc (by have := HBR.out.size; have := HBB.out; have := HBA0.out; omega) (.cells #[.string ⟨#[107]⟩, .int .i64 mx] 59)).grown hgrow (by have := HBR.out.size; have := HBB.out; have := HBA0.out; simp; omega) (fun g e => by have := HTA.out.own (i := 2) (by omega) g e; have := HTA.out.lt; omega)
                have s7 := HSX.out w7 hbw7
                have s8 := HSX.out _ (hbw7.setCell (Nat.le_refl b) (.slice A7 (rowN tk 2 + 1) c7) (p := ⟨b, 2, none⟩))
                clear hbw7 hg
                refine hK.out _ _ (by (try dsimp only); first | with_reducible exact s1 | with_reducible exact s2 | with_reducible exact s3 | with_reducible exact s8 | with_reducible exact s7) (fun hHeld => ?_)
                clear hK K
                (try simp only [Act.put, List.setIfInBounds_toArray, List.set_cons_zero, List.set_cons_succ])
                refine wpAnyH_take (i := 13) (v := ?v25) (by simp only [List.getElem?_toArray, List.getElem?_cons_succ, List.getElem?_cons_zero]; rfl) (by kernel_rfl) (by kernel_rfl) (by kernel_rfl) (by exact fun _ _ _ h => h) (Or.inl ⟨by rfl, ?y25⟩) hHeld ?r25
                case y25 => (intro w hSw; (try dsimp only at hSw); go_simp <;> with_reducible rfl)
                (try simp only [Act.put, List.setIfInBounds_toArray, List.set_cons_zero, List.set_cons_succ])
                refine wpAnyH_take (i := 14) (v := ?v26) (by simp only [List.getElem?_toArray, List.getElem?_cons_succ, List.getElem?_cons_zero]; rfl) (by kernel_rfl) (by kernel_rfl) (by kernel_rfl) (by exact fun _ _ _ h => h) (Or.inl ⟨by rfl, ?y26⟩) hHeld ?r26
                case y26 => (intro w hSw; (try dsimp only at hSw); go_simp <;> with_reducible rfl)
                (try simp only [Act.put, List.setIfInBounds_toArray, List.set_cons_zero, List.set_cons_succ])
                refine wpAnyH_ready (rs := [15]) (by kernel_rfl) (by simp) ?_
                refine AllReadyH.cons (by simp only [List.getElem?_toArray, List.getElem?_cons_succ, List.getElem?_cons_zero]; rfl) (fun K hK => ?_) AllReadyH.nil
                clear hHeld
                go_simp
                refine hK.out _ _ (by (try dsimp only); first | with_reducible exact s1 | with_reducible exact s2 | with_reducible exact s3 | with_reducible exact s8 | with_reducible exact s7) (fun hHeld => ?_)
                clear hK K
                (try simp only [Act.put, List.setIfInBounds_toArray, List.set_cons_zero, List.set_cons_succ])
                clear hHeld
                refine wpAnyH_done (by kernel_rfl) ?_ _
                have HB8 := Lib.hid (HB7.out.setCell (Nat.le_refl b) (.slice A7 (rowN tk 2 + 1) c7) (p := ⟨b, 2, none⟩))
                clear s1 s2 s3 s7 s8 HSX HNW y1 HB7 k7 z7 hb7 hown hgrow hat r0 ra HOW HON HM1 HM2 HM3
                generalize w7.setCell ⟨b, 2, none⟩ (.slice A7 (rowN tk 2 + 1) c7) = w8 at *
                go_wp2_with fail
                go_roundw
                case rel => exact ⟨k + 1, by omega, by go_num, Lib.hid ⟨_, _, by rw [HPT.out]; exact HT8.out, fun j h1 h2 => by rw [upd_other _ _ (by omega)]; exact HVN.out j h1 h2⟩, HB8⟩
                case measure => simp [intOf]; omega
              · clear hHeld
                go_simp
                refine hK.out _ _ (by (try dsimp only); first | with_reducible exact s1 | with_reducible exact s2 | with_reducible exact s3 | with_reducible exact s8 | with_reducible exact s7) (fun hHeld => ?_)
                clear hK K
                (try simp only [Act.put, List.setIfInBounds_toArray, List.set_cons_zero, List.set_cons_succ])
                refine wpAnyH_ready (rs := [2]) (by kernel_rfl) (by simp) ?_
                refine AllReadyH.cons (by simp only [List.getElem?_toArray, List.getElem?_cons_succ, List.getElem?_cons_zero]; rfl) (fun K hK => ?_) AllReadyH.nil
                clear hHeld
                go_simp
                refine hK.out _ _ (by (try dsimp only); first | with_reducible exact s1 | with_reducible exact s2 | with_reducible exact s3 | with_reducible exact s8 | with_reducible exact s7) (fun hHeld => ?_)
                clear hK K
                (try simp only [Act.put, List.setIfInBounds_toArray, List.set_cons_zero, List.set_cons_succ])
                refine wpAnyH_ready (rs := [12]) (by kernel_rfl) (by simp) ?_
                refine AllReadyH.cons (by simp only [List.getElem?_toArray, List.getElem?_cons_succ, List.getElem?_cons_zero]; rfl) (fun K hK => ?_) AllReadyH.nil
                clear hHeld
                refine step_app_own rfl (.tmp 68) (.tmp 77) 24 rfl base 59 iC2 _ 2 24 Tryd.underlying24 hi2 hz2a hz2b hz2c rfl (by decide) (v 2) (rowN tk 2) (rowX tk ds' 2) (by first | rfl | simp [Act.eval]) HOW.out.drew ⟨wr.heap.size, 0, none⟩ 1 1 [.string ⟨#[107]⟩, .int .i64 mx] (by first | rfl | simp [Act.eval]) rfl HNW.out HON.out HM1.out HM2.out HM3.out ?_
                intro v7 w7 hown hg hat
                have hgrow : (wr.alloc (.cells #[.string ⟨#[107]⟩, .int .i64 mx] 59)).grownBy w7 (v 2).ownBlock := ⟨hg.os, hg.tape, hg.output, hg.size, hg.block⟩
                obtain ⟨A7, c7, e7, -, -, -⟩ := owns_rd hown
                subst e7
                have HT8 := Lib.hid (HTA.out.push (i := 2) (it := (.cond ⟨[107], mx⟩)) (d := (.slice none 0 0, .slice none 0 0)) rfl hown hgrow (by simpa using hat) (by intro e he; cases he) HIX.out)
                have hb7 := HTA.out.blk.grown hgrow (by intro e; have := HTA.out.own (i := 2) (by omega) b e.symm; have := HTA.out.lt; omega)
                have k7 := hb7.cell 2
                have z7 := hb7.frozen 2
                simp only [List.getElem?_toArray, List.getElem?_cons_zero, List.getElem?_cons_succ] at k7
                have HB7 : Hid (Below b W0 w7) := Lib.hid ((HBA.out.alloc (by have := HBA.out.size; have := HBB.out; have := HBA0.out; omega) (.cells #[.string ⟨#[107]⟩, .int .i64 mx] 59)).grown hgrow (by have := HBA.out.size; have := HBB.out; have := HBA0.out; simp; omega) (fun g e => by have := HTA.out.own (i := 2) (by omega) g e; have := HTA.out.lt; omega))
                have hbw7 : Below b wr w7 := ((Below.refl b wr).alloc (by have := HBR.out.size; have := HBB.out; have := HBA0.out; omega) (.cells #[.string ⟨#[107]⟩, .int .i64 mx] 59)).grown hgrow (by have := HBR.out.size; have := HBB.out; have := HBA0.out; simp; omega) (fun g e => by have := HTA.out.own (i := 2) (by omega) g e; have := HTA.out.lt; omega)
                have s7 := HSX.out w7 hbw7
                have s8 := HSX.out _ (hbw7.setCell (Nat.le_refl b) (.slice A7 (rowN tk 2 + 1) c7) (p := ⟨b, 2, none⟩))
                clear hbw7 hg
                refine hK.out _ _ (by (try dsimp only); first | with_reducible exact s1 | with_reducible exact s2 | with_reducible exact s3 | with_reducible exact s8 | with_reducible exact s7) (fun hHeld => ?_)
                clear hK K
                (try simp only [Act.put, List.setIfInBounds_toArray, List.set_cons_zero, List.set_cons_succ])
                refine wpAnyH_take (i := 13) (v := ?v27) (by simp only [List.getElem?_toArray, List.getElem?_cons_succ, List.getElem?_cons_zero]; rfl) (by kernel_rfl) (by kernel_rfl) (by kernel_rfl) (by exact fun _ _ _ h => h) (Or.inl ⟨by rfl, ?y27⟩) hHeld ?r27
                case y27 => (intro w hSw; (try dsimp only at hSw); go_simp <;> with_reducible rfl)
                (try simp only [Act.put, List.setIfInBounds_toArray, List.set_cons_zero, List.set_cons_succ])
                refine wpAnyH_take (i := 14) (v := ?v28) (by simp only [List.getElem?_toArray, List.getElem?_cons_succ, List.getElem?_cons_zero]; rfl) (by kernel_rfl) (by kernel_rfl) (by kernel_rfl) (by exact fun _ _ _ h => h) (Or.inl ⟨by rfl, ?y28⟩) hHeld ?r28
                case y28 => (intro w hSw; (try dsimp only at hSw); go_simp <;> with_reducible rfl)
                (try simp only [Act.put, List.setIfInBounds_toArray, List.set_cons_zero, List.set_cons_succ])
                refine wpAnyH_ready (rs := [15]) (by kernel_rfl) (by simp) ?_
                refine AllReadyH.cons (by simp only [List.getElem?_toArray, List.getElem?_cons_succ, List.getElem?_cons_zero]; rfl) (fun K hK => ?_) AllReadyH.nil
                clear hHeld
                go_simp
                refine hK.out _ _ (by (try dsimp only); first | with_reducible exact s1 | with_reducible exact s2 | with_reducible exact s3 | with_reducible exact s8 | with_reducible exact s7) (fun hHeld => ?_)
                clear hK K
                (try simp only [Act.put, List.setIfInBounds_toArray, List.set_cons_zero, List.set_cons_succ])
                clear hHeld
                refine wpAnyH_done (by kernel_rfl) ?_ _
                have HB8 := Lib.hid (HB7.out.setCell (Nat.le_refl b) (.slice A7 (rowN tk 2 + 1) c7) (p := ⟨b, 2, none⟩))
                clear s1 s2 s3 s7 s8 HSX HNW y1 HB7 k7 z7 hb7 hown hgrow hat r0 ra HOW HON HM1 HM2 HM3
                generalize w7.setCell ⟨b, 2, none⟩ (.slice A7 (rowN tk 2 + 1) c7) = w8 at *
                go_wp2_with fail
                go_roundw
                case rel => exact ⟨k + 1, by omega, by go_num, Lib.hid ⟨_, _, by rw [HPT.out]; exact HT8.out, fun j h1 h2 => by rw [upd_other _ _ (by omega)]; exact HVN.out j h1 h2⟩, HB8⟩
                case measure => simp [intOf]; omega
            · obtain rfl : k = t.conds.length := by omega
              have lk : ¬ ((t.conds.length : Int) < (t.conds.length : Int)) := by omega
              clear hlt hkl
              have HEN : Hid (∃ v ds, PrS w00 wr base b v (⟨t.cells.map celP, t.locks.map lckP, t.conds.map cndP, [], [], [], []⟩ : Trc) ds ∧ ∀ j, 2 < j → j < 7 → v j = .slice none 0 0) := Lib.hid (by have h := HEX.out; rw [List.take_length] at h; exact h)
              go_wp2_with fail
              clear q2
              go_loopw [8] (fun iv wr => ∃ k : Nat, k ≤ t.futs.length ∧ iv = .int .i64 (k : Int) ∧ Hid (∃ v ds, PrS w00 wr base b v (⟨t.cells.map celP, t.locks.map lckP, t.conds.map cndP, (t.futs.take k).map (fun _ => [102]), [], [], []⟩ : Trc) ds ∧ ∀ j, 3 < j → j < 7 → v j = .slice none 0 0) ∧ Hid (Below b W0 wr)) (fun iv _ => t.futs.length - (intOf iv).toNat)
              case atStart => exact ⟨0, by omega, rfl, Lib.hid (by obtain ⟨v, ds, h1, h2⟩ := HEN.out; exact ⟨v, ds, by simpa using h1, fun j a c => h2 j (by omega) c⟩), HBR⟩
              case round =>
                obtain ⟨k, hkl, rfl, HEX, HBR⟩ := hrel
                have q3 := (HXK.out wr HBR.out).cell 3
                simp only [List.getElem?_toArray, List.getElem?_cons_zero, List.getElem?_cons_succ] at q3
                by_cases hlt : k < t.futs.length
                · obtain ⟨v, ds', hT, hvn⟩ := HEX.out
                  clear HEX
                  obtain ⟨x, hx⟩ : ∃ x, t.futs[k]? = some x := ⟨_, List.getElem?_eq_getElem hlt⟩
                  have HPT : Hid ((⟨t.cells.map celP, t.locks.map lckP, t.conds.map cndP, (t.futs.take (k + 1)).map (fun _ => [102]), [], [], []⟩ : Trc) = ((⟨t.cells.map celP, t.locks.map lckP, t.conds.map cndP, (t.futs.take k).map (fun _ => [102]), [], [], []⟩ : Trc)).add (.fut [102])) := Lib.hid (by rw [take_succ_of hx]; simp [Trc.add])
                  have HRN : Hid (rowN (⟨t.cells.map celP, t.locks.map lckP, t.conds.map cndP, (t.futs.take k).map (fun _ => [102]), [], [], []⟩ : Trc) 3 ≤ 1000000) := Lib.hid (by have h1 := HS.out; unfold Small at h1; simp [rowN]; omega)
                  have lk : (k : Int) < (t.futs.length : Int) := by omega
                  have lm : (k : Int) < 1000000 := by have h1 := HS.out; unfold Small at h1; omega
                  generalize (⟨t.cells.map celP, t.locks.map lckP, t.conds.map cndP, (t.futs.take k).map (fun _ => [102]), [], [], []⟩ : Trc) = tk at *
                  have HT1 := Lib.hid hT
                  have HVN := Lib.hid hvn
                  clear hT hvn
                  clear hx
                  have HBA := HBR
                  have HON : Hid (∀ u ∈ ([.string ⟨#[102]⟩] : List Value), u.oneCell' = true) := Lib.hid (by intro u hu; simp at hu; subst hu; rfl)
                  have HM1 : Hid (rowN tk 3 + 1 ≤ maxLen) := Lib.hid (by have := HRN.out; unfold maxLen; omega)
                  have HM2 : Hid ((rowN tk 3 + 1) * 16 ≤ 140737488355328) := Lib.hid (by have := HRN.out; omega)
                  have HM3 : Hid (base ≤ (wr.alloc (.cells #[.string ⟨#[102]⟩] 9)).heap.size) := Lib.hid (by have := HT1.out.le; simp; omega)
                  have HTA := Lib.hid (HT1.out.keep ((Below.refl _ _).alloc (Nat.le_refl _) (.cells #[.string ⟨#[102]⟩] 9)))
                  have HOW := Lib.hid (HTA.out.row 3 (by omega))
                  have r0 := HT1.out.blk.cell 3
                  have ra := HTA.out.blk.cell 3
                  simp only [List.getElem?_toArray, List.getElem?_cons_zero, List.getElem?_cons_succ] at r0 ra
                  go_wp2_with (at_builtin; refine wpList_append_own_at _ rfl _ _ 25 rfl base 9 iC3 (.string ⟨#[]⟩) 1 16 Tryd.underlying25 hi3 hz3a hz3b hz3c rfl (by decide) _ _ _ rfl (HOW.out) ⟨wr.heap.size, 0, none⟩ 1 1 [.string ⟨#[102]⟩] rfl rfl (cells_at wr 9 [.string ⟨#[102]⟩] rfl) HON.out HM1.out HM2.out HM3.out ?_)
                  intro v7 w7 hown hgrow _ hat
                  obtain ⟨A7, c7, e7, -, -, -⟩ := owns_rd hown
                  subst e7
                  have HT8 := Lib.hid (HTA.out.push (i := 3) (it := (.fut [102])) (d := (.slice none 0 0, .slice none 0 0)) rfl hown hgrow (by simpa using hat) (by intro e he; cases he) trivial)
                  have hb7 := HTA.out.blk.grown hgrow (by intro e; have := HTA.out.own (i := 3) (by omega) b e.symm; have := HTA.out.lt; omega)
                  have k7 := hb7.cell 3
                  have z7 := hb7.frozen 3
                  simp only [List.getElem?_toArray, List.getElem?_cons_zero, List.getElem?_cons_succ] at k7
                  have HB7 : Hid (Below b W0 w7) := Lib.hid ((HBA.out.alloc (by have := HBA.out.size; have := HBB.out; have := HBA0.out; omega) (.cells #[.string ⟨#[102]⟩] 9)).grown hgrow (by have := HBA.out.size; have := HBB.out; have := HBA0.out; simp; omega) (fun g e => by have := HTA.out.own (i := 3) (by omega) g e; have := HTA.out.lt; omega))
                  have HB8 := Lib.hid (HB7.out.setCell (Nat.le_refl b) (.slice A7 (rowN tk 3 + 1) c7) (p := ⟨b, 3, none⟩))
                  go_wp2_with fail
                  clear HB7 k7 z7 hb7 hown hgrow hat r0 ra HOW HON HM1 HM2 HM3
                  generalize w7.setCell ⟨b, 3, none⟩ (.slice A7 (rowN tk 3 + 1) c7) = w8 at *
                  go_roundw
                  case rel => exact ⟨k + 1, by omega, by go_num, Lib.hid ⟨_, _, by rw [HPT.out]; exact HT8.out, fun j h1 h2 => by rw [upd_other _ _ (by omega)]; exact HVN.out j h1 h2⟩, HB8⟩
                  case measure => simp [intOf]; omega
                · obtain rfl : k = t.futs.length := by omega
                  have lk : ¬ ((t.futs.length : Int) < (t.futs.length : Int)) := by omega
                  clear hlt hkl
                  have HEN : Hid (∃ v ds, PrS w00 wr base b v (⟨t.cells.map celP, t.locks.map lckP, t.conds.map cndP, t.futs.map (fun _ => [102]), [], [], []⟩ : Trc) ds ∧ ∀ j, 3 < j → j < 7 → v j = .slice none 0 0) := Lib.hid (by have h := HEX.out; rw [List.take_length] at h; exact h)
                  go_wp2_with fail
                  clear q3
                  go_loopw [9] (fun iv wr => ∃ k : Nat, k ≤ t.thrs.length ∧ iv = .int .i64 (k : Int) ∧ Hid (∃ v ds, PrS w00 wr base b v (⟨t.cells.map celP, t.locks.map lckP, t.conds.map cndP, t.futs.map (fun _ => [102]), (t.thrs.take k).map (fun _ => [109, 97, 105, 110]), [], []⟩ : Trc) ds ∧ ∀ j, 4 < j → j < 7 → v j = .slice none 0 0) ∧ Hid (Below b W0 wr)) (fun iv _ => t.thrs.length - (intOf iv).toNat)
                  case atStart => exact ⟨0, by omega, rfl, Lib.hid (by obtain ⟨v, ds, h1, h2⟩ := HEN.out; exact ⟨v, ds, by simpa using h1, fun j a c => h2 j (by omega) c⟩), HBR⟩
                  case round =>
                    obtain ⟨k, hkl, rfl, HEX, HBR⟩ := hrel
                    have q4 := (HXK.out wr HBR.out).cell 4
                    simp only [List.getElem?_toArray, List.getElem?_cons_zero, List.getElem?_cons_succ] at q4
                    by_cases hlt : k < t.thrs.length
                    · obtain ⟨v, ds', hT, hvn⟩ := HEX.out
                      clear HEX
                      obtain ⟨x, hx⟩ : ∃ x, t.thrs[k]? = some x := ⟨_, List.getElem?_eq_getElem hlt⟩
                      have HPT : Hid ((⟨t.cells.map celP, t.locks.map lckP, t.conds.map cndP, t.futs.map (fun _ => [102]), (t.thrs.take (k + 1)).map (fun _ => [109, 97, 105, 110]), [], []⟩ : Trc) = ((⟨t.cells.map celP, t.locks.map lckP, t.conds.map cndP, t.futs.map (fun _ => [102]), (t.thrs.take k).map (fun _ => [109, 97, 105, 110]), [], []⟩ : Trc)).add (.thr [109, 97, 105, 110])) := Lib.hid (by rw [take_succ_of hx]; simp [Trc.add])
                      have HRN : Hid (rowN (⟨t.cells.map celP, t.locks.map lckP, t.conds.map cndP, t.futs.map (fun _ => [102]), (t.thrs.take k).map (fun _ => [109, 97, 105, 110]), [], []⟩ : Trc) 4 ≤ 1000000) := Lib.hid (by have h1 := HS.out; unfold Small at h1; simp [rowN]; omega)
                      have lk : (k : Int) < (t.thrs.length : Int) := by omega
                      have lm : (k : Int) < 1000000 := by have h1 := HS.out; unfold Small at h1; omega
                      generalize (⟨t.cells.map celP, t.locks.map lckP, t.conds.map cndP, t.futs.map (fun _ => [102]), (t.thrs.take k).map (fun _ => [109, 97, 105, 110]), [], []⟩ : Trc) = tk at *
                      have HT1 := Lib.hid hT
                      have HVN := Lib.hid hvn
                      clear hT hvn
                      clear hx
                      have HBA := HBR
                      have HON : Hid (∀ u ∈ ([.string ⟨#[109, 97, 105, 110]⟩] : List Value), u.oneCell' = true) := Lib.hid (by intro u hu; simp at hu; subst hu; rfl)
                      have HM1 : Hid (rowN tk 4 + 1 ≤ maxLen) := Lib.hid (by have := HRN.out; unfold maxLen; omega)
                      have HM2 : Hid ((rowN tk 4 + 1) * 16 ≤ 140737488355328) := Lib.hid (by have := HRN.out; omega)
                      have HM3 : Hid (base ≤ (wr.alloc (.cells #[.string ⟨#[109, 97, 105, 110]⟩] 9)).heap.size) := Lib.hid (by have := HT1.out.le; simp; omega)
                      have HTA := Lib.hid (HT1.out.keep ((Below.refl _ _).alloc (Nat.le_refl _) (.cells #[.string ⟨#[109, 97, 105, 110]⟩] 9)))
                      have HOW := Lib.hid (HTA.out.row 4 (by omega))
                      have r0 := HT1.out.blk.cell 4
                      have ra := HTA.out.blk.cell 4
                      simp only [List.getElem?_toArray, List.getElem?_cons_zero, List.getElem?_cons_succ] at r0 ra
                      go_wp2_with (at_builtin; refine wpList_append_own_at _ rfl _ _ 25 rfl base 9 iC3 (.string ⟨#[]⟩) 1 16 Tryd.underlying25 hi3 hz3a hz3b hz3c rfl (by decide) _ _ _ rfl (HOW.out) ⟨wr.heap.size, 0, none⟩ 1 1 [.string ⟨#[109, 97, 105, 110]⟩] rfl rfl (cells_at wr 9 [.string ⟨#[109, 97, 105, 110]⟩] rfl) HON.out HM1.out HM2.out HM3.out ?_)
                      intro v7 w7 hown hgrow _ hat
                      obtain ⟨A7, c7, e7, -, -, -⟩ := owns_rd hown
                      subst e7
                      have HT8 := Lib.hid (HTA.out.push (i := 4) (it := (.thr [109, 97, 105, 110])) (d := (.slice none 0 0, .slice none 0 0)) rfl hown hgrow (by simpa using hat) (by intro e he; cases he) trivial)
                      have hb7 := HTA.out.blk.grown hgrow (by intro e; have := HTA.out.own (i := 4) (by omega) b e.symm; have := HTA.out.lt; omega)
                      have k7 := hb7.cell 4
                      have z7 := hb7.frozen 4
                      simp only [List.getElem?_toArray, List.getElem?_cons_zero, List.getElem?_cons_succ] at k7
                      have HB7 : Hid (Below b W0 w7) := Lib.hid ((HBA.out.alloc (by have := HBA.out.size; have := HBB.out; have := HBA0.out; omega) (.cells #[.string ⟨#[109, 97, 105, 110]⟩] 9)).grown hgrow (by have := HBA.out.size; have := HBB.out; have := HBA0.out; simp; omega) (fun g e => by have := HTA.out.own (i := 4) (by omega) g e; have := HTA.out.lt; omega))
                      have HB8 := Lib.hid (HB7.out.setCell (Nat.le_refl b) (.slice A7 (rowN tk 4 + 1) c7) (p := ⟨b, 4, none⟩))
                      go_wp2_with fail
                      clear HB7 k7 z7 hb7 hown hgrow hat r0 ra HOW HON HM1 HM2 HM3
                      generalize w7.setCell ⟨b, 4, none⟩ (.slice A7 (rowN tk 4 + 1) c7) = w8 at *
                      go_roundw
                      case rel => exact ⟨k + 1, by omega, by go_num, Lib.hid ⟨_, _, by rw [HPT.out]; exact HT8.out, fun j h1 h2 => by rw [upd_other _ _ (by omega)]; exact HVN.out j h1 h2⟩, HB8⟩
                      case measure => simp [intOf]; omega
                    · obtain rfl : k = t.thrs.length := by omega
                      have lk : ¬ ((t.thrs.length : Int) < (t.thrs.length : Int)) := by omega
                      clear hlt hkl
                      have HEN : Hid (∃ v ds, PrS w00 wr base b v (⟨t.cells.map celP, t.locks.map lckP, t.conds.map cndP, t.futs.map (fun _ => [102]), t.thrs.map (fun _ => [109, 97, 105, 110]), [], []⟩ : Trc) ds ∧ ∀ j, 4 < j → j < 7 → v j = .slice none 0 0) := Lib.hid (by have h := HEX.out; rw [List.take_length] at h; exact h)
                      go_upto_region 24 with fail
                      clear q4
                      have q5 := (HXK.out wr HBR.out).cell 5
                      simp only [List.getElem?_toArray, List.getElem?_cons_zero, List.getElem?_cons_succ] at q5
                      obtain ⟨v, ds', hT, hvn⟩ := HEN.out
                      have HT1 := Lib.hid hT
                      have HVN := Lib.hid hvn
                      have hv5 : v 5 = .slice none 0 0 := hvn 5 (by omega) (by omega)
                      clear hT hvn HEN HEX
                      have r0 := HT1.out.blk.cell 5
                      have z0 := HT1.out.blk.frozen 5
                      simp only [List.getElem?_toArray, List.getElem?_cons_zero, List.getElem?_cons_succ] at r0
                      have HOW := Lib.hid (HT1.out.row 5 (by omega))
                      rw [hv5] at r0 HOW
                      have HS6 : Hid (∀ (W9 : World) (v9 : Value), W9.ownsRow base 71 3 v9 t.sites.length (t.sites.flatMap Sit.cells) → wr.grownBy W9 (v 5).ownBlock → (v9.ownBlock = (v 5).ownBlock ∨ v9.ownBlock = some wr.heap.size) → ∃ v' ds'', PrS w00 (W9.setCell ⟨b, 5, none⟩ v9) base b v' (⟨t.cells.map celP, t.locks.map lckP, t.conds.map cndP, t.futs.map (fun _ => [102]), t.thrs.map (fun _ => [109, 97, 105, 110]), t.sites, (t.events.take 0).map evnP⟩ : Trc) ds'' ∧ ∀ j, 6 ≤ j → j < 7 → v' j = .slice none 0 0) := Lib.hid (fun W9 v9 ho hg ha => by
                        refine ⟨_, ds', HT1.out.put (i := 5) (by omega) (fun j hj hne => ?_) ho hg ha ?_ (fun k e d h1 h2 => ?_) ?_, fun j h1 h2 => by rw [upd_other _ _ (by omega)]; exact HVN.out j (by omega) h2⟩
                        · have h7 : j = 0 ∨ j = 1 ∨ j = 2 ∨ j = 3 ∨ j = 4 ∨ j = 6 := by omega
                          rcases h7 with rfl | rfl | rfl | rfl | rfl | rfl <;> exact ⟨rfl, rfl⟩
                        · exact HT1.out.dl
                        · exact HT1.out.ev k e d h1 h2
                        · exact ⟨HT1.out.ok.1, HT1.out.ok.2.1, HOK.out.2.2.1, HT1.out.ok.2.2.2⟩)
                      cases hA5 : A5 with
                      | none =>
                        have hs5 : t.sites = [] := by
                          rcases hs : t.sites with _ | ⟨s, r⟩
                          · rfl
                          · obtain ⟨_, _, hA, _⟩ := HR5.out (by rw [hs]; simp [Sit.cells])
                            rw [hA5] at hA; cases hA
                        rw [hA5, hs5] at q5
                        have HEX6 := Lib.hid (HS6.out wr (.slice none 0 0) (by rw [hs5]; exact World.ownsRow_nil _ _ _ _) ⟨rfl, rfl, rfl, Nat.le_refl _, fun _ _ _ => rfl⟩ (.inl (by rw [hv5])))
                        have HB6 := Lib.hid (HBR.out.setCell (Nat.le_refl b) (.slice none 0 0) (p := ⟨b, 5, none⟩))
                        clear hs5 hA5
                        go_upto_region 25 with fail
                        generalize wr.setCell ⟨b, 5, none⟩ (.slice none 0 0) = w8 at *
                        clear r0 z0 HOW HS6 q5
                        go_wp2_with fail
                        go_loopw [10] (fun iv wr => ∃ k : Nat, k ≤ t.events.length ∧ iv = .int .i64 (k : Int) ∧ Hid (∃ v ds, PrS w00 wr base b v (⟨t.cells.map celP, t.locks.map lckP, t.conds.map cndP, t.futs.map (fun _ => [102]), t.thrs.map (fun _ => [109, 97, 105, 110]), t.sites, (t.events.take k).map evnP⟩ : Trc) ds ∧ ∀ j, 6 < j → j < 7 → v j = .slice none 0 0) ∧ Hid (Below b W0 wr)) (fun iv _ => t.events.length - (intOf iv).toNat)
                        case atStart => exact ⟨0, by omega, rfl, Lib.hid (by obtain ⟨v, ds, h1, h2⟩ := HEX6.out; exact ⟨v, ds, h1, fun j a c => h2 j (by omega) c⟩), HB6⟩
                        case round =>
                          obtain ⟨k, hkl, rfl, HEX, HBR⟩ := hrel
                          have q6 := (HXK.out wr HBR.out).cell 6
                          simp only [List.getElem?_toArray, List.getElem?_cons_zero, List.getElem?_cons_succ] at q6
                          by_cases hlt : k < t.events.length
                          · obtain ⟨v, ds', hT, hvn⟩ := HEX.out
                            clear HEX
                            obtain ⟨x, hx⟩ : ∃ x, t.events[k]? = some x := ⟨_, List.getElem?_eq_getElem hlt⟩
                            have HPT : Hid ((⟨t.cells.map celP, t.locks.map lckP, t.conds.map cndP, t.futs.map (fun _ => [102]), t.thrs.map (fun _ => [109, 97, 105, 110]), t.sites, (t.events.take (k + 1)).map evnP⟩ : Trc) = ((⟨t.cells.map celP, t.locks.map lckP, t.conds.map cndP, t.futs.map (fun _ => [102]), t.thrs.map (fun _ => [109, 97, 105, 110]), t.sites, (t.events.take k).map evnP⟩ : Trc)).add (.event (evnP x))) := Lib.hid (by rw [take_succ_of hx]; simp [Trc.add])
                            have HRN : Hid (rowN (⟨t.cells.map celP, t.locks.map lckP, t.conds.map cndP, t.futs.map (fun _ => [102]), t.thrs.map (fun _ => [109, 97, 105, 110]), t.sites, (t.events.take k).map evnP⟩ : Trc) 6 ≤ 1000000) := Lib.hid (by have h1 := HS.out; unfold Small at h1; simp [rowN]; omega)
                            have lk : (k : Int) < (t.events.length : Int) := by omega
                            have lm : (k : Int) < 1000000 := by have h1 := HS.out; unfold Small at h1; omega
                            generalize (⟨t.cells.map celP, t.locks.map lckP, t.conds.map cndP, t.futs.map (fun _ => [102]), t.thrs.map (fun _ => [109, 97, 105, 110]), t.sites, (t.events.take k).map evnP⟩ : Trc) = tk at *
                            have HT1 := Lib.hid hT
                            have HVN := Lib.hid hvn
                            clear hT hvn
                            obtain ⟨⟨d1, d2⟩, hd⟩ : ∃ d, ds[k]? = some d := ⟨_, List.getElem?_eq_getElem (by have := HDL.out; omega)⟩
                            have HJ := Lib.hid (HEV.out k x (d1, d2) hx hd)
                            have HIX := Lib.hid (HOK.out.2.2.2 x (List.mem_of_getElem? hx))
                            have z1 : (t.events.zip ds)[k]? = some (x, d1, d2) := by rw [List.getElem?_zip_eq_some]; exact ⟨hx, hd⟩
                            obtain ⟨b1, o1, e1, hb1, g1⟩ := (HR6.out.keep (HWK.out _ HBR.out)).flat (g := evC) (m := 7) (fun _ => rfl) (by omega) z1
                            subst e1
                            clear hx hd z1
                            obtain ⟨B1, e1, t1, -⟩ := id HJ.out.1
                            obtain ⟨B2, e2, t2, -⟩ := id HJ.out.2
                            simp only at t1 t2
                            subst t1 t2
                            obtain ⟨th, kd, ob, va, si, dp, fr⟩ := x
                            have y0 : wr.cell? ⟨b1, o1 + k * 7, none⟩ = some (.int .i64 th) := g1 0 _ rfl
                            have y1 : wr.cell? ⟨b1, o1 + k * 7 + 1, none⟩ = some (.int .i64 kd) := g1 1 _ rfl
                            have y2 : wr.cell? ⟨b1, o1 + k * 7 + 2, none⟩ = some (.int .i64 ob) := g1 2 _ rfl
                            have y3 : wr.cell? ⟨b1, o1 + k * 7 + 3, none⟩ = some (.int .i64 va) := g1 3 _ rfl
                            have y4 : wr.cell? ⟨b1, o1 + k * 7 + 4, none⟩ = some (.int .i64 si) := g1 4 _ rfl
                            have y5 : wr.cell? ⟨b1, o1 + k * 7 + 5, none⟩ = some (.slice B1 dp.length e1) := g1 5 _ rfl
                            have y6 : wr.cell? ⟨b1, o1 + k * 7 + 6, none⟩ = some (.slice B2 fr.length e2) := g1 6 _ rfl
                            clear g1 hb1
                            have HXA := Lib.hid (Blk.new wr 53 #[.int .i64 th, .int .i64 kd, .int .i64 ob, .int .i64 va, .int .i64 si, .slice B1 dp.length e1, .slice B2 fr.length e2])
                            have hba : Below wr.heap.size wr (wr.alloc (.cells #[.int .i64 th, .int .i64 kd, .int .i64 ob, .int .i64 va, .int .i64 si, .slice B1 dp.length e1, .slice B2 fr.length e2] 53)) := (Below.refl _ _).alloc (Nat.le_refl _) _
                            have HBA1 := Lib.hid hba
                            clear hba
                            go_upto_region 29 with fail
                            generalize wr.alloc (.cells #[.int .i64 th, .int .i64 kd, .int .i64 ob, .int .i64 va, .int .i64 si, .slice B1 dp.length e1, .slice B2 fr.length e2] 53) = wa at *
                            have p1 := HXA.out.cell 1
                            have z1 := HXA.out.frozen 1
                            simp only [List.getElem?_toArray, List.getElem?_cons_zero, List.getElem?_cons_succ] at p1
                            have HXB : Hid (Blk (wa.setCell ⟨wr.heap.size, 1, none⟩ (.int .i64 (kindP kd))) wr.heap.size 53 #[.int .i64 th, .int .i64 (kindP kd), .int .i64 ob, .int .i64 va, .int .i64 si, .slice B1 dp.length e1, .slice B2 fr.length e2]) := Lib.hid (HXA.out.set_ 1 (.int .i64 (kindP kd)))
                            have HBA2 := Lib.hid (HBA1.out.setCell (Nat.le_refl _) (.int .i64 (kindP kd)) (p := ⟨wr.heap.size, 1, none⟩))
                            clear y0 y1 y2 y3 y4 y5 y6
                            go_upto_region 30 with fail
                            rw [kind_conv]
                            generalize wa.setCell ⟨wr.heap.size, 1, none⟩ (.int .i64 (kindP kd)) = wb at *
                            clear p1 z1 HXA HBA1
                            have HT2 := Lib.hid (HT1.out.keep HBA2.out)
                            have HBA : Hid (Below b W0 wb) := Lib.hid (HBR.out.trans (HBA2.out.mono (by have := HBR.out.size; have := HBB.out; have := HBA0.out; omega)))
                            generalize wr.heap.size = ga at *
                            have p0 := HXB.out.cell 0
                            have p1 := HXB.out.cell 1
                            have p2 := HXB.out.cell 2
                            have p3 := HXB.out.cell 3
                            have p4 := HXB.out.cell 4
                            have p5 := HXB.out.cell 5
                            have p6 := HXB.out.cell 6
                            simp only [List.getElem?_toArray, List.getElem?_cons_zero, List.getElem?_cons_succ] at p0 p1 p2 p3 p4 p5 p6
                            clear q6
                            have HON : Hid (∀ u ∈ ([.int .i64 th, .int .i64 (kindP kd), .int .i64 ob, .int .i64 va, .int .i64 si, .slice B1 dp.length e1, .slice B2 fr.length e2] : List Value), u.oneCell' = true) := Lib.hid (by intro u hu; simp at hu; rcases hu with rfl | rfl | rfl | rfl | rfl | rfl | rfl <;> rfl)
                            have HM1 : Hid (rowN tk 6 + 1 ≤ maxLen) := Lib.hid (by have := HRN.out; unfold maxLen; omega)
                            have HM2 : Hid ((rowN tk 6 + 1) * 88 ≤ 140737488355328) := Lib.hid (by have := HRN.out; omega)
                            have HM3 : Hid (base ≤ (wb.alloc (.cells #[.int .i64 th, .int .i64 (kindP kd), .int .i64 ob, .int .i64 va, .int .i64 si, .slice B1 dp.length e1, .slice B2 fr.length e2] 53)).heap.size) := Lib.hid (by have := HT2.out.le; simp; omega)
                            have HTA := Lib.hid (HT2.out.keep ((Below.refl _ _).alloc (Nat.le_refl _) (.cells #[.int .i64 th, .int .i64 (kindP kd), .int .i64 ob, .int .i64 va, .int .i64 si, .slice B1 dp.length e1, .slice B2 fr.length e2] 53)))
                            have HOW := Lib.hid (HTA.out.row 6 (by omega))
                            have r0 := HT2.out.blk.cell 6
                            have ra := HTA.out.blk.cell 6
                            simp only [List.getElem?_toArray, List.getElem?_cons_zero, List.getElem?_cons_succ] at r0 ra
                            go_wp2_with (at_builtin; refine wpList_append_own_at _ rfl _ _ 29 rfl base 53 iC6 (.agg #[.int .i64 0, .int .i64 0, .int .i64 0, .int .i64 0, .int .i64 0, .slice none 0 0, .slice none 0 0]) 7 88 Tryd.underlying29 hi6 hz6a hz6b hz6c rfl (by decide) _ _ _ rfl (HOW.out) ⟨wb.heap.size, 0, none⟩ 1 1 [.int .i64 th, .int .i64 (kindP kd), .int .i64 ob, .int .i64 va, .int .i64 si, .slice B1 dp.length e1, .slice B2 fr.length e2] rfl rfl (cells_at wb 53 [.int .i64 th, .int .i64 (kindP kd), .int .i64 ob, .int .i64 va, .int .i64 si, .slice B1 dp.length e1, .slice B2 fr.length e2] rfl) HON.out HM1.out HM2.out HM3.out ?_)
                            intro v7 w7 hown hgrow _ hat
                            obtain ⟨A7, c7, e7, -, -, -⟩ := owns_rd hown
                            subst e7
                            have HT8 := Lib.hid (HTA.out.push (i := 6) (it := (.event (evnP ⟨th, kd, ob, va, si, dp, fr⟩))) (d := (.slice B1 dp.length e1, .slice B2 fr.length e2)) rfl hown hgrow (by simpa using hat) (by intro e he; injection he with he; subst he; exact HJ.out) ⟨HIX.out.1, (by have := kindP_in kd; show I64 (kindP kd); unfold I64; omega), HIX.out.2.2⟩)
                            have hb7 := HTA.out.blk.grown hgrow (by intro e; have := HTA.out.own (i := 6) (by omega) b e.symm; have := HTA.out.lt; omega)
                            have k7 := hb7.cell 6
                            have z7 := hb7.frozen 6
                            simp only [List.getElem?_toArray, List.getElem?_cons_zero, List.getElem?_cons_succ] at k7
                            have HB7 : Hid (Below b W0 w7) := Lib.hid ((HBA.out.alloc (by have := HBA.out.size; have := HBB.out; have := HBA0.out; omega) (.cells #[.int .i64 th, .int .i64 (kindP kd), .int .i64 ob, .int .i64 va, .int .i64 si, .slice B1 dp.length e1, .slice B2 fr.length e2] 53)).grown hgrow (by have := HBA.out.size; have := HBB.out; have := HBA0.out; simp; omega) (fun g e => by have := HTA.out.own (i := 6) (by omega) g e; have := HTA.out.lt; omega))
                            have HB8 := Lib.hid (HB7.out.setCell (Nat.le_refl b) (.slice A7 (rowN tk 6 + 1) c7) (p := ⟨b, 6, none⟩))
                            go_wp2_with fail
                            clear HB7 k7 z7 hb7 hown hgrow hat r0 ra HOW HON HM1 HM2 HM3
                            generalize w7.setCell ⟨b, 6, none⟩ (.slice A7 (rowN tk 6 + 1) c7) = w8 at *
                            go_roundw
                            case rel => exact ⟨k + 1, by omega, by go_num, Lib.hid ⟨_, _, by rw [HPT.out]; exact HT8.out, fun j h1 h2 => by rw [upd_other _ _ (by omega)]; exact HVN.out j h1 h2⟩, HB8⟩
                            case measure => simp [intOf]; omega
                          · obtain rfl : k = t.events.length := by omega
                            have lk : ¬ ((t.events.length : Int) < (t.events.length : Int)) := by omega
                            clear hlt hkl
                            have HEN : Hid (∃ v ds, PrS w00 wr base b v (⟨t.cells.map celP, t.locks.map lckP, t.conds.map cndP, t.futs.map (fun _ => [102]), t.thrs.map (fun _ => [109, 97, 105, 110]), t.sites, t.events.map evnP⟩ : Trc) ds ∧ ∀ j, 6 < j → j < 7 → v j = .slice none 0 0) := Lib.hid (by have h := HEX.out; rw [List.take_length] at h; exact h)
                            go_upto_region 31 with fail
                            clear q6
                            obtain ⟨v, ds', hT, -⟩ := HEN.out
                            have hT : PrS w00 wr base b v (trcP t) ds' := hT
                            clear HEN HEX
                            obtain ⟨C0, e0, f0, -⟩ := owns_rd (hT.row 0 (by omega))
                            generalize hm0 : rowN (trcP t) 0 = m0 at f0
                            clear hm0
                            obtain ⟨C1, e1, f1, -⟩ := owns_rd (hT.row 1 (by omega))
                            generalize hm1 : rowN (trcP t) 1 = m1 at f1
                            clear hm1
                            obtain ⟨C2, e2, f2, -⟩ := owns_rd (hT.row 2 (by omega))
                            generalize hm2 : rowN (trcP t) 2 = m2 at f2
                            clear hm2
                            obtain ⟨C3, e3, f3, -⟩ := owns_rd (hT.row 3 (by omega))
                            generalize hm3 : rowN (trcP t) 3 = m3 at f3
                            clear hm3
                            obtain ⟨C4, e4, f4, -⟩ := owns_rd (hT.row 4 (by omega))
                            generalize hm4 : rowN (trcP t) 4 = m4 at f4
                            clear hm4
                            obtain ⟨C5, e5, f5, -⟩ := owns_rd (hT.row 5 (by omega))
                            generalize hm5 : rowN (trcP t) 5 = m5 at f5
                            clear hm5
                            obtain ⟨C6, e6, f6, -⟩ := owns_rd (hT.row 6 (by omega))
                            generalize hm6 : rowN (trcP t) 6 = m6 at f6
                            clear hm6
                            have HIS : Hid (∀ (wa w'' : World) (g : Nat), w00.heap.size ≤ g → g < w.heap.size → wr.grownBy wa (some (xb + 1)) → wa.grownBy w'' (some g) → IsTrc w'' (.agg #[.slice C0 m0 e0, .slice C1 m1 e1, .slice C2 m2 e2, .slice C3 m3 e3, .slice C4 m4 e4, .slice C5 m5 e5, .slice C6 m6 e6]) (trcP t)) := Lib.hid (fun wa w'' g hg1 hg2 h1 h2 => by
                              have hagg : (Value.agg #[v 0, v 1, v 2, v 3, v 4, v 5, v 6]) = .agg #[.slice C0 m0 e0, .slice C1 m1 e1, .slice C2 m2 e2, .slice C3 m3 e3, .slice C4 m4 e4, .slice C5 m5 e5, .slice C6 m6 e6] := by rw [f0, f1, f2, f3, f4, f5, f6]
                              rw [← hagg]
                              have hk : ∀ i, i < 7 → w''.ownsRow base (rowE i) (rowM i) (v i) (rowN (trcP t) i) (rowX (trcP t) ds' i) := fun i hi => ((hT.row i hi).kept h1 (own_ne (hT.row i hi) (by have := HBB.out; have := HBB2.out; omega))).kept h2 (own_ne ((hT.row i hi).kept h1 (own_ne (hT.row i hi) (by have := HBB.out; have := HBB2.out; omega))) (by have := HBB.out; have := HBB2.out; omega))
                              refine ⟨v, ds', rfl, fun i hi => owns_rd (hk i hi), hT.dl, fun k e d a c => ?_, hT.ok⟩
                              obtain ⟨j1, j2⟩ := hT.ev k e d a c
                              have hs0 := H00.out.size
                              have hbw : Below w.heap.size w wa := (HWK.out _ HBR.out).trans (grownBy_below h1 (HWK.out _ HBR.out).size (fun g e => by injection e with e; have := HBB.out; omega))
                              have hbz : Below w00.heap.size w00 w'' := (H00.out.trans (hbw.mono hs0)).trans (grownBy_below h2 (by have := hbw.size; omega) (fun g' e => by injection e with e; omega))
                              exact ⟨j1.keep hbz, j2.keep hbz⟩)
                            have t0 := hT.blk.cell 0
                            have t1 := hT.blk.cell 1
                            have t2 := hT.blk.cell 2
                            have t3 := hT.blk.cell 3
                            have t4 := hT.blk.cell 4
                            have t5 := hT.blk.cell 5
                            have t6 := hT.blk.cell 6
                            simp only [List.getElem?_toArray, List.getElem?_cons_zero, List.getElem?_cons_succ] at t0 t1 t2 t3 t4 t5 t6
                            rw [f0] at t0
                            rw [f1] at t1
                            rw [f2] at t2
                            rw [f3] at t3
                            rw [f4] at t4
                            rw [f5] at t5
                            rw [f6] at t6
                            clear f0 f1 f2 f3 f4 f5 f6 hT
                            have HRW := Lib.hid (HRK.out wr HBR.out)
                            have HBX := Lib.hid (show w.heap.size ≤ xb + 1 by have := HBB.out; omega)
                            generalize xb + 1 = rb at *
                            have U := setRow_heap wr rb _ #[.slice C0 m0 e0, .slice C1 m1 e1, .slice C2 m2 e2, .slice C3 m3 e3, .slice C4 m4 e4, .slice C5 m5 e5, .slice C6 m6 e6] 31 _ HRW.out
                            have hs : wr.grownBy (wr.setRow rb #[.slice C0 m0 e0, .slice C1 m1 e1, .slice C2 m2 e2, .slice C3 m3 e3, .slice C4 m4 e4, .slice C5 m5 e5, .slice C6 m6 e6]) (some rb) := ⟨rfl, rfl, rfl, by simp, fun k _ hk => setRow_other wr rb k _ (fun e => hk (by rw [e]))⟩
                            have HSX : (∀ (w'' : World) (g : Nat), w00.heap.size ≤ g → g < w.heap.size → (wr.setRow rb #[.slice C0 m0 e0, .slice C1 m1 e1, .slice C2 m2 e2, .slice C3 m3 e3, .slice C4 m4 e4, .slice C5 m5 e5, .slice C6 m6 e6]).grownBy w'' (some g) → IsTrc w'' (.agg #[.slice C0 m0 e0, .slice C1 m1 e1, .slice C2 m2 e2, .slice C3 m3 e3, .slice C4 m4 e4, .slice C5 m5 e5, .slice C6 m6 e6]) (trcP t)) ∧ Below w.heap.size w (wr.setRow rb #[.slice C0 m0 e0, .slice C1 m1 e1, .slice C2 m2 e2, .slice C3 m3 e3, .slice C4 m4 e4, .slice C5 m5 e5, .slice C6 m6 e6]) := ⟨fun w'' g h1 h2 h3 => HIS.out _ w'' g h1 h2 hs h3, (HWK.out _ HBR.out).trans (grownBy_below hs (HWK.out _ HBR.out).size (fun g e => by injection e with e; have := HBX.out; omega))⟩
                            have HU : Hid (Blk (wr.setRow rb #[.slice C0 m0 e0, .slice C1 m1 e1, .slice C2 m2 e2, .slice C3 m3 e3, .slice C4 m4 e4, .slice C5 m5 e5, .slice C6 m6 e6]) rb 31 #[.slice C0 m0 e0, .slice C1 m1 e1, .slice C2 m2 e2, .slice C3 m3 e3, .slice C4 m4 e4, .slice C5 m5 e5, .slice C6 m6 e6]) := Lib.hid U
                            have HSS := Lib.hid HSX
                            clear U HSX hs HIS
                            go_step
                            go_step
                            go_step
                            go_step
                            refine wpList_store_row rfl 31 (.tmp 2) (.tmp 145) rfl rb #[.slice C0 m0 e0, .slice C1 m1 e1, .slice C2 m2 e2, .slice C3 m3 e3, .slice C4 m4 e4, .slice C5 m5 e5, .slice C6 m6 e6] rfl rfl 31 #[.slice none 0 0, .slice none 0 0, .slice none 0 0, .slice none 0 0, .slice none 0 0, .slice none 0 0, .slice none 0 0] HRW.out (by kernel_rfl) rfl (by simp [Value.oneCell']) ?_
                            clear t0 t1 t2 t3 t4 t5 t6
                            generalize wr.setRow rb #[.slice C0 m0 e0, .slice C1 m1 e1, .slice C2 m2 e2, .slice C3 m3 e3, .slice C4 m4 e4, .slice C5 m5 e5, .slice C6 m6 e6] = W9 at *
                            go_wp2_with fail
                            have u0 := HU.out.cell 0
                            have u1 := HU.out.cell 1
                            have u2 := HU.out.cell 2
                            have u3 := HU.out.cell 3
                            have u4 := HU.out.cell 4
                            have u5 := HU.out.cell 5
                            have u6 := HU.out.cell 6
                            simp only [List.getElem?_toArray, List.getElem?_cons_zero, List.getElem?_cons_succ] at u0 u1 u2 u3 u4 u5 u6
                            exact bodyPost_ret (v := .agg #[.slice C0 m0 e0, .slice C1 m1 e1, .slice C2 m2 e2, .slice C3 m3 e3, .slice C4 m4 e4, .slice C5 m5 e5, .slice C6 m6 e6]) (by simp [results, Tryd.results11, go_sem, u0, u1, u2, u3, u4, u5, u6]) rfl ⟨HSS.out.2, C0, C1, C2, C3, C4, C5, C6, m0, m1, m2, m3, m4, m5, m6, e0, e1, e2, e3, e4, e5, e6, rfl, HSS.out.1⟩
                      | some ad =>
                        rw [hA5] at q5
                        have HRS := HR5.out
                        rw [hA5] at HRS
                        have HNW : Hid (∀ j u, (t.sites.flatMap Sit.cells)[j]? = some u → wr.cell? (ad.add j) = some u) := Lib.hid (fun j u hu => by
                          obtain ⟨b1, o1, e1, h1, h2⟩ := HRS (by have := (List.getElem?_eq_some_iff.1 hu).1; omega)
                          injection e1 with e1
                          subst e1
                          rw [show (⟨b1, o1, none⟩ : Addr).add j = ⟨b1, o1 + j, none⟩ by simp [Addr.add]]
                          exact ((HWK.out _ HBR.out).cell (p := ⟨b1, o1 + j, none⟩) h1).trans (h2 j u hu))
                        have HON : Hid (∀ u ∈ t.sites.flatMap Sit.cells, u.oneCell' = true) := Lib.hid (fun u hu => by
                          rw [List.mem_flatMap] at hu
                          obtain ⟨s, _, hu⟩ := hu
                          simp [Sit.cells] at hu
                          rcases hu with rfl | rfl | rfl <;> rfl)
                        have HLN : Hid ((t.sites.flatMap Sit.cells).length = t.sites.length * 3) := Lib.hid (sit_len t.sites)
                        have HSN : Hid (t.sites.length ≤ 300) := Lib.hid (by have h1 := HS.out; unfold Small at h1; omega)
                        clear HRS hA5
                        go_wp2_with (at_builtin; refine wpList_append_own_at _ rfl _ _ 26 rfl base 71 iC5 (.agg #[.int .i64 0, .int .i64 0, .int .i64 0]) 3 24 Tryd.underlying26 hi5 hz5a hz5b hz5c rfl (by decide) _ _ _ rfl HOW.out ad t.sites.length c5 (t.sites.flatMap Sit.cells) rfl HLN.out HNW.out HON.out ?a3 ?a4 ?a5 ?_)
                        case a3 => have := HSN.out; unfold maxLen; simp [rowN]; omega
                        case a4 => have := HSN.out; simp [rowN]; omega
                        case a5 => exact HT1.out.le
                        intro v7 w7 hown hgrow _ hat
                        have hown7 : w7.ownsRow base 71 3 v7 t.sites.length (t.sites.flatMap Sit.cells) := by simpa [rowN, rowX] using hown
                        obtain ⟨A7, c7, e7, -, -, -⟩ := owns_rd hown7
                        subst e7
                        have HEX6 := Lib.hid (HS6.out w7 _ hown7 (by rw [hv5]; exact hgrow) (by rw [hv5]; exact hat))
                        have hb7 := HT1.out.blk.grown hgrow (by intro e; cases e)
                        have k7 := hb7.cell 5
                        have z7 := hb7.frozen 5
                        simp only [List.getElem?_toArray, List.getElem?_cons_zero, List.getElem?_cons_succ] at k7
                        have HB6 := Lib.hid ((HBR.out.grown hgrow (by have := HBR.out.size; have := HBB.out; have := HBA0.out; omega) (fun g e => by cases e)).setCell (Nat.le_refl b) (.slice A7 t.sites.length c7) (p := ⟨b, 5, none⟩))
                        clear hown hown7 hat hgrow
                        go_upto_region 25 with fail
                        generalize w7.setCell ⟨b, 5, none⟩ (.slice A7 t.sites.length c7) = w8 at *
                        clear r0 z0 HOW HS6 q5 k7 z7 hb7
                        go_wp2_with fail
                        go_loopw [10] (fun iv wr => ∃ k : Nat, k ≤ t.events.length ∧ iv = .int .i64 (k : Int) ∧ Hid (∃ v ds, PrS w00 wr base b v (⟨t.cells.map celP, t.locks.map lckP, t.conds.map cndP, t.futs.map (fun _ => [102]), t.thrs.map (fun _ => [109, 97, 105, 110]), t.sites, (t.events.take k).map evnP⟩ : Trc) ds ∧ ∀ j, 6 < j → j < 7 → v j = .slice none 0 0) ∧ Hid (Below b W0 wr)) (fun iv _ => t.events.length - (intOf iv).toNat)
                        case atStart => exact ⟨0, by omega, rfl, Lib.hid (by obtain ⟨v, ds, h1, h2⟩ := HEX6.out; exact ⟨v, ds, h1, fun j a c => h2 j (by omega) c⟩), HB6⟩
                        case round =>
                          obtain ⟨k, hkl, rfl, HEX, HBR⟩ := hrel
                          have q6 := (HXK.out wr HBR.out).cell 6
                          simp only [List.getElem?_toArray, List.getElem?_cons_zero, List.getElem?_cons_succ] at q6
                          by_cases hlt : k < t.events.length
                          · obtain ⟨v, ds', hT, hvn⟩ := HEX.out
                            clear HEX
                            obtain ⟨x, hx⟩ : ∃ x, t.events[k]? = some x := ⟨_, List.getElem?_eq_getElem hlt⟩
                            have HPT : Hid ((⟨t.cells.map celP, t.locks.map lckP, t.conds.map cndP, t.futs.map (fun _ => [102]), t.thrs.map (fun _ => [109, 97, 105, 110]), t.sites, (t.events.take (k + 1)).map evnP⟩ : Trc) = ((⟨t.cells.map celP, t.locks.map lckP, t.conds.map cndP, t.futs.map (fun _ => [102]), t.thrs.map (fun _ => [109, 97, 105, 110]), t.sites, (t.events.take k).map evnP⟩ : Trc)).add (.event (evnP x))) := Lib.hid (by rw [take_succ_of hx]; simp [Trc.add])
                            have HRN : Hid (rowN (⟨t.cells.map celP, t.locks.map lckP, t.conds.map cndP, t.futs.map (fun _ => [102]), t.thrs.map (fun _ => [109, 97, 105, 110]), t.sites, (t.events.take k).map evnP⟩ : Trc) 6 ≤ 1000000) := Lib.hid (by have h1 := HS.out; unfold Small at h1; simp [rowN]; omega)
                            have lk : (k : Int) < (t.events.length : Int) := by omega
                            have lm : (k : Int) < 1000000 := by have h1 := HS.out; unfold Small at h1; omega
                            generalize (⟨t.cells.map celP, t.locks.map lckP, t.conds.map cndP, t.futs.map (fun _ => [102]), t.thrs.map (fun _ => [109, 97, 105, 110]), t.sites, (t.events.take k).map evnP⟩ : Trc) = tk at *
                            have HT1 := Lib.hid hT
                            have HVN := Lib.hid hvn
                            clear hT hvn
                            obtain ⟨⟨d1, d2⟩, hd⟩ : ∃ d, ds[k]? = some d := ⟨_, List.getElem?_eq_getElem (by have := HDL.out; omega)⟩
                            have HJ := Lib.hid (HEV.out k x (d1, d2) hx hd)
                            have HIX := Lib.hid (HOK.out.2.2.2 x (List.mem_of_getElem? hx))
                            have z1 : (t.events.zip ds)[k]? = some (x, d1, d2) := by rw [List.getElem?_zip_eq_some]; exact ⟨hx, hd⟩
                            obtain ⟨b1, o1, e1, hb1, g1⟩ := (HR6.out.keep (HWK.out _ HBR.out)).flat (g := evC) (m := 7) (fun _ => rfl) (by omega) z1
                            subst e1
                            clear hx hd z1
                            obtain ⟨B1, e1, t1, -⟩ := id HJ.out.1
                            obtain ⟨B2, e2, t2, -⟩ := id HJ.out.2
                            simp only at t1 t2
                            subst t1 t2
                            obtain ⟨th, kd, ob, va, si, dp, fr⟩ := x
                            have y0 : wr.cell? ⟨b1, o1 + k * 7, none⟩ = some (.int .i64 th) := g1 0 _ rfl
                            have y1 : wr.cell? ⟨b1, o1 + k * 7 + 1, none⟩ = some (.int .i64 kd) := g1 1 _ rfl
                            have y2 : wr.cell? ⟨b1, o1 + k * 7 + 2, none⟩ = some (.int .i64 ob) := g1 2 _ rfl
                            have y3 : wr.cell? ⟨b1, o1 + k * 7 + 3, none⟩ = some (.int .i64 va) := g1 3 _ rfl
                            have y4 : wr.cell? ⟨b1, o1 + k * 7 + 4, none⟩ = some (.int .i64 si) := g1 4 _ rfl
                            have y5 : wr.cell? ⟨b1, o1 + k * 7 + 5, none⟩ = some (.slice B1 dp.length e1) := g1 5 _ rfl
                            have y6 : wr.cell? ⟨b1, o1 + k * 7 + 6, none⟩ = some (.slice B2 fr.length e2) := g1 6 _ rfl
                            clear g1 hb1
                            have HXA := Lib.hid (Blk.new wr 53 #[.int .i64 th, .int .i64 kd, .int .i64 ob, .int .i64 va, .int .i64 si, .slice B1 dp.length e1, .slice B2 fr.length e2])
                            have hba : Below wr.heap.size wr (wr.alloc (.cells #[.int .i64 th, .int .i64 kd, .int .i64 ob, .int .i64 va, .int .i64 si, .slice B1 dp.length e1, .slice B2 fr.length e2] 53)) := (Below.refl _ _).alloc (Nat.le_refl _) _
                            have HBA1 := Lib.hid hba
                            clear hba
                            go_upto_region 29 with fail
                            generalize wr.alloc (.cells #[.int .i64 th, .int .i64 kd, .int .i64 ob, .int .i64 va, .int .i64 si, .slice B1 dp.length e1, .slice B2 fr.length e2] 53) = wa at *
                            have p1 := HXA.out.cell 1
                            have z1 := HXA.out.frozen 1
                            simp only [List.getElem?_toArray, List.getElem?_cons_zero, List.getElem?_cons_succ] at p1
                            have HXB : Hid (Blk (wa.setCell ⟨wr.heap.size, 1, none⟩ (.int .i64 (kindP kd))) wr.heap.size 53 #[.int .i64 th, .int .i64 (kindP kd), .int .i64 ob, .int .i64 va, .int .i64 si, .slice B1 dp.length e1, .slice B2 fr.length e2]) := Lib.hid (HXA.out.set_ 1 (.int .i64 (kindP kd)))
                            have HBA2 := Lib.hid (HBA1.out.setCell (Nat.le_refl _) (.int .i64 (kindP kd)) (p := ⟨wr.heap.size, 1, none⟩))
                            clear y0 y1 y2 y3 y4 y5 y6
                            go_upto_region 30 with fail
                            rw [kind_conv]
                            generalize wa.setCell ⟨wr.heap.size, 1, none⟩ (.int .i64 (kindP kd)) = wb at *
                            clear p1 z1 HXA HBA1
                            have HT2 := Lib.hid (HT1.out.keep HBA2.out)
                            have HBA : Hid (Below b W0 wb) := Lib.hid (HBR.out.trans (HBA2.out.mono (by have := HBR.out.size; have := HBB.out; have := HBA0.out; omega)))
                            generalize wr.heap.size = ga at *
                            have p0 := HXB.out.cell 0
                            have p1 := HXB.out.cell 1
                            have p2 := HXB.out.cell 2
                            have p3 := HXB.out.cell 3
                            have p4 := HXB.out.cell 4
                            have p5 := HXB.out.cell 5
                            have p6 := HXB.out.cell 6
                            simp only [List.getElem?_toArray, List.getElem?_cons_zero, List.getElem?_cons_succ] at p0 p1 p2 p3 p4 p5 p6
                            clear q6
                            have HON : Hid (∀ u ∈ ([.int .i64 th, .int .i64 (kindP kd), .int .i64 ob, .int .i64 va, .int .i64 si, .slice B1 dp.length e1, .slice B2 fr.length e2] : List Value), u.oneCell' = true) := Lib.hid (by intro u hu; simp at hu; rcases hu with rfl | rfl | rfl | rfl | rfl | rfl | rfl <;> rfl)
                            have HM1 : Hid (rowN tk 6 + 1 ≤ maxLen) := Lib.hid (by have := HRN.out; unfold maxLen; omega)
                            have HM2 : Hid ((rowN tk 6 + 1) * 88 ≤ 140737488355328) := Lib.hid (by have := HRN.out; omega)
                            have HM3 : Hid (base ≤ (wb.alloc (.cells #[.int .i64 th, .int .i64 (kindP kd), .int .i64 ob, .int .i64 va, .int .i64 si, .slice B1 dp.length e1, .slice B2 fr.length e2] 53)).heap.size) := Lib.hid (by have := HT2.out.le; simp; omega)
                            have HTA := Lib.hid (HT2.out.keep ((Below.refl _ _).alloc (Nat.le_refl _) (.cells #[.int .i64 th, .int .i64 (kindP kd), .int .i64 ob, .int .i64 va, .int .i64 si, .slice B1 dp.length e1, .slice B2 fr.length e2] 53)))
                            have HOW := Lib.hid (HTA.out.row 6 (by omega))
                            have r0 := HT2.out.blk.cell 6
                            have ra := HTA.out.blk.cell 6
                            simp only [List.getElem?_toArray, List.getElem?_cons_zero, List.getElem?_cons_succ] at r0 ra
                            go_wp2_with (at_builtin; refine wpList_append_own_at _ rfl _ _ 29 rfl base 53 iC6 (.agg #[.int .i64 0, .int .i64 0, .int .i64 0, .int .i64 0, .int .i64 0, .slice none 0 0, .slice none 0 0]) 7 88 Tryd.underlying29 hi6 hz6a hz6b hz6c rfl (by decide) _ _ _ rfl (HOW.out) ⟨wb.heap.size, 0, none⟩ 1 1 [.int .i64 th, .int .i64 (kindP kd), .int .i64 ob, .int .i64 va, .int .i64 si, .slice B1 dp.length e1, .slice B2 fr.length e2] rfl rfl (cells_at wb 53 [.int .i64 th, .int .i64 (kindP kd), .int .i64 ob, .int .i64 va, .int .i64 si, .slice B1 dp.length e1, .slice B2 fr.length e2] rfl) HON.out HM1.out HM2.out HM3.out ?_)
                            intro v7 w7 hown hgrow _ hat
                            obtain ⟨A7, c7, e7, -, -, -⟩ := owns_rd hown
                            subst e7
                            have HT8 := Lib.hid (HTA.out.push (i := 6) (it := (.event (evnP ⟨th, kd, ob, va, si, dp, fr⟩))) (d := (.slice B1 dp.length e1, .slice B2 fr.length e2)) rfl hown hgrow (by simpa using hat) (by intro e he; injection he with he; subst he; exact HJ.out) ⟨HIX.out.1, (by have := kindP_in kd; show I64 (kindP kd); unfold I64; omega), HIX.out.2.2⟩)
                            have hb7 := HTA.out.blk.grown hgrow (by intro e; have := HTA.out.own (i := 6) (by omega) b e.symm; have := HTA.out.lt; omega)
                            have k7 := hb7.cell 6
                            have z7 := hb7.frozen 6
                            simp only [List.getElem?_toArray, List.getElem?_cons_zero, List.getElem?_cons_succ] at k7
                            have HB7 : Hid (Below b W0 w7) := Lib.hid ((HBA.out.alloc (by have := HBA.out.size; have := HBB.out; have := HBA0.out; omega) (.cells #[.int .i64 th, .int .i64 (kindP kd), .int .i64 ob, .int .i64 va, .int .i64 si, .slice B1 dp.length e1, .slice B2 fr.length e2] 53)).grown hgrow (by have := HBA.out.size; have := HBB.out; have := HBA0.out; simp; omega) (fun g e => by have := HTA.out.own (i := 6) (by omega) g e; have := HTA.out.lt; omega))
                            have HB8 := Lib.hid (HB7.out.setCell (Nat.le_refl b) (.slice A7 (rowN tk 6 + 1) c7) (p := ⟨b, 6, none⟩))
                            go_wp2_with fail
                            clear HB7 k7 z7 hb7 hown hgrow hat r0 ra HOW HON HM1 HM2 HM3
                            generalize w7.setCell ⟨b, 6, none⟩ (.slice A7 (rowN tk 6 + 1) c7) = w8 at *
                            go_roundw
                            case rel => exact ⟨k + 1, by omega, by go_num, Lib.hid ⟨_, _, by rw [HPT.out]; exact HT8.out, fun j h1 h2 => by rw [upd_other _ _ (by omega)]; exact HVN.out j h1 h2⟩, HB8⟩
                            case measure => simp [intOf]; omega
                          · obtain rfl : k = t.events.length := by omega
                            have lk : ¬ ((t.events.length : Int) < (t.events.length : Int)) := by omega
                            clear hlt hkl
                            have HEN : Hid (∃ v ds, PrS w00 wr base b v (⟨t.cells.map celP, t.locks.map lckP, t.conds.map cndP, t.futs.map (fun _ => [102]), t.thrs.map (fun _ => [109, 97, 105, 110]), t.sites, t.events.map evnP⟩ : Trc) ds ∧ ∀ j, 6 < j → j < 7 → v j = .slice none 0 0) := Lib.hid (by have h := HEX.out; rw [List.take_length] at h; exact h)
                            go_upto_region 31 with fail
                            clear q6
                            obtain ⟨v, ds', hT, -⟩ := HEN.out
                            have hT : PrS w00 wr base b v (trcP t) ds' := hT
                            clear HEN HEX
                            obtain ⟨C0, e0, f0, -⟩ := owns_rd (hT.row 0 (by omega))
                            generalize hm0 : rowN (trcP t) 0 = m0 at f0
                            clear hm0
                            obtain ⟨C1, e1, f1, -⟩ := owns_rd (hT.row 1 (by omega))
                            generalize hm1 : rowN (trcP t) 1 = m1 at f1
                            clear hm1
                            obtain ⟨C2, e2, f2, -⟩ := owns_rd (hT.row 2 (by omega))
                            generalize hm2 : rowN (trcP t) 2 = m2 at f2
                            clear hm2
                            obtain ⟨C3, e3, f3, -⟩ := owns_rd (hT.row 3 (by omega))
                            generalize hm3 : rowN (trcP t) 3 = m3 at f3
                            clear hm3
                            obtain ⟨C4, e4, f4, -⟩ := owns_rd (hT.row 4 (by omega))
                            generalize hm4 : rowN (trcP t) 4 = m4 at f4
                            clear hm4
                            obtain ⟨C5, e5, f5, -⟩ := owns_rd (hT.row 5 (by omega))
                            generalize hm5 : rowN (trcP t) 5 = m5 at f5
                            clear hm5
                            obtain ⟨C6, e6, f6, -⟩ := owns_rd (hT.row 6 (by omega))
                            generalize hm6 : rowN (trcP t) 6 = m6 at f6
                            clear hm6
                            have HIS : Hid (∀ (wa w'' : World) (g : Nat), w00.heap.size ≤ g → g < w.heap.size → wr.grownBy wa (some (xb + 1)) → wa.grownBy w'' (some g) → IsTrc w'' (.agg #[.slice C0 m0 e0, .slice C1 m1 e1, .slice C2 m2 e2, .slice C3 m3 e3, .slice C4 m4 e4, .slice C5 m5 e5, .slice C6 m6 e6]) (trcP t)) := Lib.hid (fun wa w'' g hg1 hg2 h1 h2 => by
                              have hagg : (Value.agg #[v 0, v 1, v 2, v 3, v 4, v 5, v 6]) = .agg #[.slice C0 m0 e0, .slice C1 m1 e1, .slice C2 m2 e2, .slice C3 m3 e3, .slice C4 m4 e4, .slice C5 m5 e5, .slice C6 m6 e6] := by rw [f0, f1, f2, f3, f4, f5, f6]
                              rw [← hagg]
                              have hk : ∀ i, i < 7 → w''.ownsRow base (rowE i) (rowM i) (v i) (rowN (trcP t) i) (rowX (trcP t) ds' i) := fun i hi => ((hT.row i hi).kept h1 (own_ne (hT.row i hi) (by have := HBB.out; have := HBB2.out; omega))).kept h2 (own_ne ((hT.row i hi).kept h1 (own_ne (hT.row i hi) (by have := HBB.out; have := HBB2.out; omega))) (by have := HBB.out; have := HBB2.out; omega))
                              refine ⟨v, ds', rfl, fun i hi => owns_rd (hk i hi), hT.dl, fun k e d a c => ?_, hT.ok⟩
                              obtain ⟨j1, j2⟩ := hT.ev k e d a c
                              have hs0 := H00.out.size
                              have hbw : Below w.heap.size w wa := (HWK.out _ HBR.out).trans (grownBy_below h1 (HWK.out _ HBR.out).size (fun g e => by injection e with e; have := HBB.out; omega))
                              have hbz : Below w00.heap.size w00 w'' := (H00.out.trans (hbw.mono hs0)).trans (grownBy_below h2 (by have := hbw.size; omega) (fun g' e => by injection e with e; omega))
                              exact ⟨j1.keep hbz, j2.keep hbz⟩)
                            have t0 := hT.blk.cell 0
                            have t1 := hT.blk.cell 1
                            have t2 := hT.blk.cell 2
                            have t3 := hT.blk.cell 3
                            have t4 := hT.blk.cell 4
                            have t5 := hT.blk.cell 5
                            have t6 := hT.blk.cell 6
                            simp only [List.getElem?_toArray, List.getElem?_cons_zero, List.getElem?_cons_succ] at t0 t1 t2 t3 t4 t5 t6
                            rw [f0] at t0
                            rw [f1] at t1
                            rw [f2] at t2
                            rw [f3] at t3
                            rw [f4] at t4
                            rw [f5] at t5
                            rw [f6] at t6
                            clear f0 f1 f2 f3 f4 f5 f6 hT
                            have HRW := Lib.hid (HRK.out wr HBR.out)
                            have HBX := Lib.hid (show w.heap.size ≤ xb + 1 by have := HBB.out; omega)
                            generalize xb + 1 = rb at *
                            have U := setRow_heap wr rb _ #[.slice C0 m0 e0, .slice C1 m1 e1, .slice C2 m2 e2, .slice C3 m3 e3, .slice C4 m4 e4, .slice C5 m5 e5, .slice C6 m6 e6] 31 _ HRW.out
                            have hs : wr.grownBy (wr.setRow rb #[.slice C0 m0 e0, .slice C1 m1 e1, .slice C2 m2 e2, .slice C3 m3 e3, .slice C4 m4 e4, .slice C5 m5 e5, .slice C6 m6 e6]) (some rb) := ⟨rfl, rfl, rfl, by simp, fun k _ hk => setRow_other wr rb k _ (fun e => hk (by rw [e]))⟩
                            have HSX : (∀ (w'' : World) (g : Nat), w00.heap.size ≤ g → g < w.heap.size → (wr.setRow rb #[.slice C0 m0 e0, .slice C1 m1 e1, .slice C2 m2 e2, .slice C3 m3 e3, .slice C4 m4 e4, .slice C5 m5 e5, .slice C6 m6 e6]).grownBy w'' (some g) → IsTrc w'' (.agg #[.slice C0 m0 e0, .slice C1 m1 e1, .slice C2 m2 e2, .slice C3 m3 e3, .slice C4 m4 e4, .slice C5 m5 e5, .slice C6 m6 e6]) (trcP t)) ∧ Below w.heap.size w (wr.setRow rb #[.slice C0 m0 e0, .slice C1 m1 e1, .slice C2 m2 e2, .slice C3 m3 e3, .slice C4 m4 e4, .slice C5 m5 e5, .slice C6 m6 e6]) := ⟨fun w'' g h1 h2 h3 => HIS.out _ w'' g h1 h2 hs h3, (HWK.out _ HBR.out).trans (grownBy_below hs (HWK.out _ HBR.out).size (fun g e => by injection e with e; have := HBX.out; omega))⟩
                            have HU : Hid (Blk (wr.setRow rb #[.slice C0 m0 e0, .slice C1 m1 e1, .slice C2 m2 e2, .slice C3 m3 e3, .slice C4 m4 e4, .slice C5 m5 e5, .slice C6 m6 e6]) rb 31 #[.slice C0 m0 e0, .slice C1 m1 e1, .slice C2 m2 e2, .slice C3 m3 e3, .slice C4 m4 e4, .slice C5 m5 e5, .slice C6 m6 e6]) := Lib.hid U
                            have HSS := Lib.hid HSX
                            clear U HSX hs HIS
                            go_step
                            go_step
                            go_step
                            go_step
                            refine wpList_store_row rfl 31 (.tmp 2) (.tmp 145) rfl rb #[.slice C0 m0 e0, .slice C1 m1 e1, .slice C2 m2 e2, .slice C3 m3 e3, .slice C4 m4 e4, .slice C5 m5 e5, .slice C6 m6 e6] rfl rfl 31 #[.slice none 0 0, .slice none 0 0, .slice none 0 0, .slice none 0 0, .slice none 0 0, .slice none 0 0, .slice none 0 0] HRW.out (by kernel_rfl) rfl (by simp [Value.oneCell']) ?_
                            clear t0 t1 t2 t3 t4 t5 t6
                            generalize wr.setRow rb #[.slice C0 m0 e0, .slice C1 m1 e1, .slice C2 m2 e2, .slice C3 m3 e3, .slice C4 m4 e4, .slice C5 m5 e5, .slice C6 m6 e6] = W9 at *
                            go_wp2_with fail
                            have u0 := HU.out.cell 0
                            have u1 := HU.out.cell 1
                            have u2 := HU.out.cell 2
                            have u3 := HU.out.cell 3
                            have u4 := HU.out.cell 4
                            have u5 := HU.out.cell 5
                            have u6 := HU.out.cell 6
                            simp only [List.getElem?_toArray, List.getElem?_cons_zero, List.getElem?_cons_succ] at u0 u1 u2 u3 u4 u5 u6
                            exact bodyPost_ret (v := .agg #[.slice C0 m0 e0, .slice C1 m1 e1, .slice C2 m2 e2, .slice C3 m3 e3, .slice C4 m4 e4, .slice C5 m5 e5, .slice C6 m6 e6]) (by simp [results, Tryd.results11, go_sem, u0, u1, u2, u3, u4, u5, u6]) rfl ⟨HSS.out.2, C0, C1, C2, C3, C4, C5, C6, m0, m1, m2, m3, m4, m5, m6, e0, e1, e2, e3, e4, e5, e6, rfl, HSS.out.1⟩
end Go.Proofs.YtmnjmegejaejlaaDoor
