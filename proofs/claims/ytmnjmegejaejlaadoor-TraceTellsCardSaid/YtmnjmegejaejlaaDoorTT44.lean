/-
  WALK: trace.Format.
-/
import Derived.Test.YtmnjmegejaejlaaDoorTT43
import Derived.Test.YtmnjmegejaejlaaDoorTT30
namespace Go.Proofs.YtmnjmegejaejlaaDoor
open Go.RowKit

theorem Kept.blkT {w w' : World} {B b g : Nat} {t : TypeId} {cs : Array Value} (h : Kept B b w w') (hb : Blk w g t cs) (hg : g ≠ b) (ht : t ≠ 5) : Blk w' g t cs :=
  h.others g _ hb (fun e => hg (by injection e)) (fun c fz e => by injection e with _ e2; exact absurd e2 ht)
theorem textT_eq (t : Trc) : textT t = (((((((([] : List UInt8) ++ t.cells.flatMap (fun x => lineT (.cell x))) ++ t.locks.flatMap (fun x => lineT (.lock x))) ++ t.conds.flatMap (fun x => lineT (.cond x))) ++ t.futs.flatMap (fun x => lineT (.fut x))) ++ t.thrs.flatMap (fun x => lineT (.thr x))) ++ t.sites.flatMap (fun x => lineT (.site x))) ++ t.events.flatMap (fun x => lineT (.event x))) := by
  unfold textT Trc.items
  simp [List.flatMap_append, List.flatMap_map]
theorem txts_new (w : World) (cs : List (List UInt8)) (vs : Array Value) (hv : vs = (strV cs).toArray) (hm : cs.length ≤ maxLen) : Txts (w.alloc (.cells vs 9)) (.slice (some ⟨w.heap.size, 0, none⟩) cs.length cs.length) cs := by
  have h := row_of (base := 0) (w := w) cs (Nat.zero_le _) hm vs hv
  obtain ⟨A, c, e, h1, h2, h3⟩ := owns_rd h
  injection e with e1 _ e3
  subst e1 e3
  exact ⟨_, _, rfl, h1, h2, h3⟩
set_option maxRecDepth 100000 in
set_option maxHeartbeats 32000000 in
theorem tformat_any (t : Trc) (vv : Value) (w : World) (ht : IsTrc w vv t) (hp : PT w) (hk : ∀ e ∈ t.events, (1 ≤ e.kind ∧ e.kind ≤ 23) ∧ e.deps.length + e.frm.length ≤ 1000000000) (hlen : (textT t).length ≤ 100000000000000) :
    Calls Tryd.prog 12 #[vv] w fun e w' => e = .returned (.string ⟨(textT t).toArray⟩) ∧ Below w.heap.size w w' := by
  obtain ⟨v, ds, rfl, hv, hdl, hev, hok⟩ := ht
  obtain ⟨A0, c0, f0, ga0, ka0, ra0⟩ := hv 0 (by omega)
  obtain ⟨A1, c1, f1, ga1, ka1, ra1⟩ := hv 1 (by omega)
  obtain ⟨A2, c2, f2, ga2, ka2, ra2⟩ := hv 2 (by omega)
  obtain ⟨A3, c3, f3, ga3, ka3, ra3⟩ := hv 3 (by omega)
  obtain ⟨A4, c4, f4, ga4, ka4, ra4⟩ := hv 4 (by omega)
  obtain ⟨A5, c5, f5, ga5, ka5, ra5⟩ := hv 5 (by omega)
  obtain ⟨A6, c6, f6, ga6, ka6, ra6⟩ := hv 6 (by omega)
  rw [f0, f1, f2, f3, f4, f5, f6]
  have HR0 : Hid (Rd w A0 (t.cells.flatMap Cel.cells)) := Lib.hid ra0
  have HM0 : Hid (t.cells.length ≤ 9223372036854775807) := Lib.hid (by have h1 : t.cells.length ≤ c0 := ga0; unfold maxLen at ka0; omega)
  have HR1 : Hid (Rd w A1 (t.locks.flatMap Lck.cells)) := Lib.hid ra1
  have HM1 : Hid (t.locks.length ≤ 9223372036854775807) := Lib.hid (by have h1 : t.locks.length ≤ c1 := ga1; unfold maxLen at ka1; omega)
  have HR2 : Hid (Rd w A2 (t.conds.flatMap Cnd.cells)) := Lib.hid ra2
  have HM2 : Hid (t.conds.length ≤ 9223372036854775807) := Lib.hid (by have h1 : t.conds.length ≤ c2 := ga2; unfold maxLen at ka2; omega)
  have HR3 : Hid (Rd w A3 (t.futs.flatMap strC)) := Lib.hid ra3
  have HM3 : Hid (t.futs.length ≤ 9223372036854775807) := Lib.hid (by have h1 : t.futs.length ≤ c3 := ga3; unfold maxLen at ka3; omega)
  have HR4 : Hid (Rd w A4 (t.thrs.flatMap strC)) := Lib.hid ra4
  have HM4 : Hid (t.thrs.length ≤ 9223372036854775807) := Lib.hid (by have h1 : t.thrs.length ≤ c4 := ga4; unfold maxLen at ka4; omega)
  have HR5 : Hid (Rd w A5 (t.sites.flatMap Sit.cells)) := Lib.hid ra5
  have HM5 : Hid (t.sites.length ≤ 9223372036854775807) := Lib.hid (by have h1 : t.sites.length ≤ c5 := ga5; unfold maxLen at ka5; omega)
  have HR6 : Hid (Rd w A6 ((t.events.zip ds).flatMap evC)) := Lib.hid ra6
  have HM6 : Hid (t.events.length ≤ 9223372036854775807) := Lib.hid (by have h1 : t.events.length ≤ c6 := ga6; unfold maxLen at ka6; omega)
  show Calls Tryd.prog 12 #[.agg #[.slice A0 t.cells.length c0, .slice A1 t.locks.length c1, .slice A2 t.conds.length c2, .slice A3 t.futs.length c3, .slice A4 t.thrs.length c4, .slice A5 t.sites.length c5, .slice A6 t.events.length c6]] w _
  have hb1 : Below w.heap.size w (w.alloc (.cells #[.slice A0 t.cells.length c0, .slice A1 t.locks.length c1, .slice A2 t.conds.length c2, .slice A3 t.futs.length c3, .slice A4 t.thrs.length c4, .slice A5 t.sites.length c5, .slice A6 t.events.length c6] 31)) := (Below.refl _ _).alloc (Nat.le_refl _) _
  have hb2 := hb1.alloc hb1.size (.cells #[.pointer none, .slice none 0 0] 66)
  have hx1 := (Blk.new w 31 #[.slice A0 t.cells.length c0, .slice A1 t.locks.length c1, .slice A2 t.conds.length c2, .slice A3 t.futs.length c3, .slice A4 t.thrs.length c4, .slice A5 t.sites.length c5, .slice A6 t.events.length c6]).alloc (.cells #[.pointer none, .slice none 0 0] 66)
  have hx2 := Blk.new (w.alloc (.cells #[.slice A0 t.cells.length c0, .slice A1 t.locks.length c1, .slice A2 t.conds.length c2, .slice A3 t.futs.length c3, .slice A4 t.thrs.length c4, .slice A5 t.sites.length c5, .slice A6 t.events.length c6] 31)) 66 #[.pointer none, .slice none 0 0]
  rw [show ∀ (a : World) (o : Obj), (a.alloc o).heap.size = a.heap.size + 1 from fun a o => by simp] at hx2
  have HB2 := Lib.hid hb2
  have HX := Lib.hid hx1
  have HW0 : Hid (WrAt (w.heap.size + 1) (w.heap.size + 1) [] ((w.alloc (.cells #[.slice A0 t.cells.length c0, .slice A1 t.locks.length c1, .slice A2 t.conds.length c2, .slice A3 t.futs.length c3, .slice A4 t.thrs.length c4, .slice A5 t.sites.length c5, .slice A6 t.events.length c6] 31)).alloc (.cells #[.pointer none, .slice none 0 0] 66))) := Lib.hid (.inl ⟨rfl, Nat.le_refl _, hx2⟩)
  have HLT := Lib.hid hx2.lt
  have HPT := Lib.hid (hp.below hb2)
  have HGT : Hid (GT (w.heap.size + 1)) := Lib.hid (gt_mono hp.gb (by omega))
  have HK := Lib.hid hk
  have HEV := Lib.hid hev
  have HDL := Lib.hid hdl
  have HOK := Lib.hid hok
  have HLEN : Hid ((t.cells.flatMap (fun x => lineT (.cell x))).length + (t.locks.flatMap (fun x => lineT (.lock x))).length + (t.conds.flatMap (fun x => lineT (.cond x))).length + (t.futs.flatMap (fun x => lineT (.fut x))).length + (t.thrs.flatMap (fun x => lineT (.thr x))).length + (t.sites.flatMap (fun x => lineT (.site x))).length + (t.events.flatMap (fun x => lineT (.event x))).length ≤ 100000000000000) := Lib.hid (by rw [textT_eq] at hlen; simp only [List.length_append, List.length_nil] at hlen; omega)
  have HTE := Lib.hid (textT_eq t)
  clear hv hdl hev hok hb1 hb2 hx1 hx2 hp hk hlen f0 ga0 ka0 ra0 f1 ga1 ka1 ra1 f2 ga2 ka2 ra2 f3 ga3 ka3 ra3 f4 ga4 ka4 ra4 f5 ga5 ka5 ra5 f6 ga6 ka6 ra6
  go_enter Tryd.func12, Tryd.ntmps12
  go_upto_region 2 with fail
  generalize (w.alloc (.cells #[.slice A0 t.cells.length c0, .slice A1 t.locks.length c1, .slice A2 t.conds.length c2, .slice A3 t.futs.length c3, .slice A4 t.thrs.length c4, .slice A5 t.sites.length c5, .slice A6 t.events.length c6] 31)).alloc (.cells #[.pointer none, .slice none 0 0] 66) = W at *
  have HBK : Hid (∀ w', Kept (w.heap.size + 1) (w.heap.size + 1) W w' → Below w.heap.size w w') := Lib.hid (fun w' h => HB2.out.trans (h.below.mono (by omega)))
  have HXK : Hid (∀ w', Kept (w.heap.size + 1) (w.heap.size + 1) W w' → Blk w' w.heap.size 31 #[.slice A0 t.cells.length c0, .slice A1 t.locks.length c1, .slice A2 t.conds.length c2, .slice A3 t.futs.length c3, .slice A4 t.thrs.length c4, .slice A5 t.sites.length c5, .slice A6 t.events.length c6]) := Lib.hid (fun w' h => HX.out.below h.below (by omega))
  have HPK : Hid (∀ w', Kept (w.heap.size + 1) (w.heap.size + 1) W w' → PT w') := Lib.hid (fun w' h => HPT.out.keep h.below HGT.out)
  generalize hwb : w.heap.size + 1 = b at *
  have HWB : Hid (w.heap.size < b ∧ b < W.heap.size) := Lib.hid ⟨by omega, HLT.out⟩
  have HKR : Hid (Kept b b W W) := Lib.hid (Kept.refl b b W)
  clear HX HPT HLT HB2
  have k0 := (HXK.out W HKR.out).cell 0
  simp only [List.getElem?_toArray, List.getElem?_cons_zero] at k0
  go_wp2_with fail
  clear k0
  go_loopw [24] (fun iv wr => ∃ k : Nat, k ≤ t.cells.length ∧ iv = .int .i64 (k : Int) ∧ Hid (WrAt b b (([] : List UInt8) ++ (t.cells.take k).flatMap (fun x => lineT (.cell x))) wr) ∧ Hid (Kept b b W wr)) (fun iv _ => t.cells.length - (intOf iv).toNat)
  case atStart => exact ⟨0, by omega, rfl, (by simpa using HW0), HKR⟩
  case round =>
    obtain ⟨k, hkl, rfl, HWR, HKW⟩ := hrel
    by_cases hlt : k < t.cells.length
    · obtain ⟨x, hx⟩ : ∃ x, t.cells[k]? = some x := ⟨_, List.getElem?_eq_getElem hlt⟩
      have HTS : Hid (([] : List UInt8) ++ (t.cells.take (k + 1)).flatMap (fun x => lineT (.cell x)) = (([] : List UInt8) ++ (t.cells.take k).flatMap (fun x => lineT (.cell x))) ++ lineT (.cell x)) := Lib.hid (by rw [flatMap_take_succ hx]; exact (List.append_assoc _ _ _).symm)
      have HFT : Hid ((([] : List UInt8) ++ (t.cells.take k).flatMap (fun x => lineT (.cell x))).length + (lineT (.cell x)).length ≤ 100000000000000) := Lib.hid (by have h1 := take_fits (g := (fun x => lineT (.cell x))) hx; have h2 := HLEN.out; simp only [List.length_append, List.length_nil] at h1 ⊢; omega)
      have lk : (k : Int) < (t.cells.length : Int) := by omega
      have lm : (k : Int) < 9223372036854775807 := by have := HM0.out; omega
      generalize hpq : ([] : List UInt8) ++ (t.cells.take k).flatMap (fun x => lineT (.cell x)) = pq at *
      clear hpq
      have HIX := Lib.hid (HOK.out.1 x (List.mem_of_getElem? hx))
      obtain ⟨b1, o1, rfl, hb1, g1⟩ := (HR0.out.keep (HBK.out _ HKW.out)).flat (g := Cel.cells) (m := 5) (fun _ => rfl) (by omega) hx
      clear hx
      obtain ⟨nm, ix, sz, vo, ini⟩ := x
      have y0 : wr.cell? ⟨b1, o1 + k * 5, none⟩ = some (.string ⟨nm.toArray⟩) := by exact g1 0 _ rfl
      have y1 : wr.cell? ⟨b1, o1 + k * 5 + 1, none⟩ = some (.int .i64 ix) := by exact g1 1 _ rfl
      have y2 : wr.cell? ⟨b1, o1 + k * 5 + 2, none⟩ = some (.int .i64 sz) := by exact g1 2 _ rfl
      have y3 : wr.cell? ⟨b1, o1 + k * 5 + 3, none⟩ = some (.bool vo) := by exact g1 3 _ rfl
      have y4 : wr.cell? ⟨b1, o1 + k * 5 + 4, none⟩ = some (.int .i64 ini) := by exact g1 4 _ rfl
      clear g1 hb1
      cases vo with
      | false =>
        have hba : Below wr.heap.size wr (wr.alloc (.cells #[.string ⟨nm.toArray⟩, .int .i64 ix, .int .i64 sz, .bool false, .int .i64 ini] 55)) := (Below.refl _ _).alloc (Nat.le_refl _) _
        have HXA := Lib.hid (Blk.new wr 55 #[.string ⟨nm.toArray⟩, .int .i64 ix, .int .i64 sz, .bool false, .int .i64 ini])
        have HWA := Lib.hid (HWR.out.keep hba)
        have HKA := Lib.hid (HKW.out.trans (Kept.of_below (B := b) (b := b) hba (by have := HWB.out; have := HKW.out.below.size; omega)))
        clear hba
        go_upto_region 8 with fail
        generalize wr.alloc (.cells #[.string ⟨nm.toArray⟩, .int .i64 ix, .int .i64 sz, .bool false, .int .i64 ini] 55) = wa at *
        have hga : wr.heap.size ≠ b := by have := HWB.out; have := HKW.out.below.size; omega
        generalize wr.heap.size = ga at *
        clear y0 y1 y2 y3 y4
        have p0 := HXA.out.cell 0
        have p1 := HXA.out.cell 1
        have p2 := HXA.out.cell 2
        have p3 := HXA.out.cell 3
        have p4 := HXA.out.cell 4
        simp only [List.getElem?_toArray, List.getElem?_cons_zero, List.getElem?_cons_succ] at p0 p1 p2 p3 p4
        have HLN : Hid (∀ w3, Below wa.heap.size wa w3 → Calls Tryd.prog 22 #[.pointer (some ⟨b, 0, none⟩), .slice (some ⟨w3.heap.size, 0, none⟩) 5 5] (w3.alloc (.cells #[.string ⟨#[99, 101, 108, 108]⟩, .string ⟨nm.toArray⟩, .string ⟨(Lib.itoa ix).toArray⟩, .string ⟨(Lib.itoa sz).toArray⟩, .string ⟨(Lib.itoa ini).toArray⟩] 9)) fun e w' => e = .returned (.tuple #[]) ∧ WrAt b b (pq ++ lineT (.cell ⟨nm, ix, sz, false, ini⟩)) w' ∧ Kept b b wa w') := Lib.hid (fun w3 h3 => by
          have h4 := h3.alloc h3.size (.cells #[.string ⟨#[99, 101, 108, 108]⟩, .string ⟨nm.toArray⟩, .string ⟨(Lib.itoa ix).toArray⟩, .string ⟨(Lib.itoa sz).toArray⟩, .string ⟨(Lib.itoa ini).toArray⟩] 9)
          have hbs : b ≤ wa.heap.size := by have := HWB.out; have := HKA.out.below.size; omega
          refine (wline_any b b pq _ 5 wCell [nm, Lib.itoa ix, Lib.itoa sz, Lib.itoa ini] _ (HWA.out.keep h4) (txts_new w3 [wCell, nm, Lib.itoa ix, Lib.itoa sz, Lib.itoa ini] _ rfl (by simp [maxLen])) (by have := HFT.out; simp only [lineT, Item.head, Item.args, List.length_append, List.length_cons, List.length_nil] at this ⊢; simp only [if_false, Bool.false_eq_true] at this; omega) (by have := h4.size; omega)).mono ?_
          rintro e w' ⟨rfl, h1, h2⟩
          exact ⟨rfl, h1, (Kept.of_below h4 hbs).trans h2⟩)
        have HC : Hid (∀ w', Blk w' ga 55 #[.string ⟨nm.toArray⟩, .int .i64 ix, .int .i64 sz, .bool false, .int .i64 ini] → w'.cell? ⟨ga, 0, none⟩ = some (.string ⟨nm.toArray⟩) ∧ w'.cell? ⟨ga, 1, none⟩ = some (.int .i64 ix) ∧ w'.cell? ⟨ga, 2, none⟩ = some (.int .i64 sz) ∧ w'.cell? ⟨ga, 3, none⟩ = some (.bool false) ∧ w'.cell? ⟨ga, 4, none⟩ = some (.int .i64 ini)) := Lib.hid (fun w' h => ⟨h.cell 0, h.cell 1, h.cell 2, h.cell 3, h.cell 4⟩)
        have hx0 := (Below.refl wa.heap.size wa).drew
        have hs0 := HC.out _ (HXA.out.keep hx0)
        have HIT : Hid (∀ (n : Int), I64 n → ∀ w', Below wa.heap.size wa w' → Calls Tryd.prog 23 #[.int .i64 n] w' fun e w2 => e = .returned (.string ⟨(Lib.itoa n).toArray⟩) ∧ Below w'.heap.size w' w2) := Lib.hid (fun n hn w' h => itoa_any n w' hn ((HPK.out _ HKA.out).below h).tab)
        have HFI : Hid (∀ (n : Int), I64 n → ∀ w', Below wa.heap.size wa w' → Calls Tryd.prog 24 #[.int .i64 n, .int .i64 10] w' fun e w2 => e = .returned (.string ⟨(Lib.itoa n).toArray⟩) ∧ Below w'.heap.size w' w2) := Lib.hid (fun n hn w' h => fint_any n w' hn ((HPK.out _ HKA.out).below h).tab)
        clear p0 p1 p2 p3 p4
        go_region_held3 (fun w' => w'.cell? ⟨ga, 0, none⟩ = some (.string ⟨nm.toArray⟩) ∧ w'.cell? ⟨ga, 1, none⟩ = some (.int .i64 ix) ∧ w'.cell? ⟨ga, 2, none⟩ = some (.int .i64 sz) ∧ w'.cell? ⟨ga, 3, none⟩ = some (.bool false) ∧ w'.cell? ⟨ga, 4, none⟩ = some (.int .i64 ini)) (with_reducible assumption) (first
          | (go_at_call 23; refine (HIT.out ix HIX.out.1 _ hx0).mono ?_; rintro e w1 ⟨rfl, hb1⟩; have hx1 := hx0.trans (hb1.mono hx0.size); have hs1 := HC.out w1 (HXA.out.keep hx1))
          | (go_at_call 23; refine (HIT.out sz HIX.out.2.1 _ hx1).mono ?_; rintro e w2 ⟨rfl, hb2⟩; have hx2 := hx1.trans (hb2.mono hx1.size); have hs2 := HC.out w2 (HXA.out.keep hx2))
          | (go_at_call 24; refine (HFI.out ini HIX.out.2.2 _ hx2).mono ?_; rintro e w3 ⟨rfl, hb3⟩; have hx3 := hx2.trans (hb3.mono hx2.size); have hs3 := HC.out w3 (HXA.out.keep hx3); have hsa := HC.out _ (HXA.out.keep (hx3.alloc hx3.size (.cells #[.string ⟨#[99, 101, 108, 108]⟩, .string ⟨nm.toArray⟩, .string ⟨(Lib.itoa ix).toArray⟩, .string ⟨(Lib.itoa sz).toArray⟩, .string ⟨(Lib.itoa ini).toArray⟩] 9))))
          | (go_at_call 22; refine (HLN.out _ hx3).mono ?_; rintro e w9 ⟨rfl, h9, hk9⟩; have hs9 := HC.out w9 (hk9.blkT HXA.out hga (by decide))))
        clear hsa hs0 hs9 HC HLN HIT hs1 hx1 hb1 hs2 hx2 hb2 hs3 hx3 hb3
        have HW9 : Hid (WrAt b b (pq ++ lineT (.cell ⟨nm, ix, sz, false, ini⟩)) w9) := Lib.hid h9
        have HK9 := Lib.hid (HKA.out.trans hk9)
        clear h9 hk9
        go_wp2_with fail
        go_roundw
        case rel => exact ⟨k + 1, by omega, by go_num, by rw [HTS.out]; exact HW9, HK9⟩
        case measure => simp [intOf]; omega
      | true =>
        have hba : Below wr.heap.size wr (wr.alloc (.cells #[.string ⟨nm.toArray⟩, .int .i64 ix, .int .i64 sz, .bool true, .int .i64 ini] 55)) := (Below.refl _ _).alloc (Nat.le_refl _) _
        have HXA := Lib.hid (Blk.new wr 55 #[.string ⟨nm.toArray⟩, .int .i64 ix, .int .i64 sz, .bool true, .int .i64 ini])
        have HWA := Lib.hid (HWR.out.keep hba)
        have HKA := Lib.hid (HKW.out.trans (Kept.of_below (B := b) (b := b) hba (by have := HWB.out; have := HKW.out.below.size; omega)))
        clear hba
        go_upto_region 8 with fail
        generalize wr.alloc (.cells #[.string ⟨nm.toArray⟩, .int .i64 ix, .int .i64 sz, .bool true, .int .i64 ini] 55) = wa at *
        have hga : wr.heap.size ≠ b := by have := HWB.out; have := HKW.out.below.size; omega
        generalize wr.heap.size = ga at *
        clear y0 y1 y2 y3 y4
        have p0 := HXA.out.cell 0
        have p1 := HXA.out.cell 1
        have p2 := HXA.out.cell 2
        have p3 := HXA.out.cell 3
        have p4 := HXA.out.cell 4
        simp only [List.getElem?_toArray, List.getElem?_cons_zero, List.getElem?_cons_succ] at p0 p1 p2 p3 p4
        have HLN : Hid (∀ w3, Below wa.heap.size wa w3 → Calls Tryd.prog 22 #[.pointer (some ⟨b, 0, none⟩), .slice (some ⟨w3.heap.size, 0, none⟩) 5 5] (w3.alloc (.cells #[.string ⟨#[118, 111, 108, 97, 116, 105, 108, 101]⟩, .string ⟨nm.toArray⟩, .string ⟨(Lib.itoa ix).toArray⟩, .string ⟨(Lib.itoa sz).toArray⟩, .string ⟨(Lib.itoa ini).toArray⟩] 9)) fun e w' => e = .returned (.tuple #[]) ∧ WrAt b b (pq ++ lineT (.cell ⟨nm, ix, sz, true, ini⟩)) w' ∧ Kept b b wa w') := Lib.hid (fun w3 h3 => by
          have h4 := h3.alloc h3.size (.cells #[.string ⟨#[118, 111, 108, 97, 116, 105, 108, 101]⟩, .string ⟨nm.toArray⟩, .string ⟨(Lib.itoa ix).toArray⟩, .string ⟨(Lib.itoa sz).toArray⟩, .string ⟨(Lib.itoa ini).toArray⟩] 9)
          have hbs : b ≤ wa.heap.size := by have := HWB.out; have := HKA.out.below.size; omega
          refine (wline_any b b pq _ 5 wVol [nm, Lib.itoa ix, Lib.itoa sz, Lib.itoa ini] _ (HWA.out.keep h4) (txts_new w3 [wVol, nm, Lib.itoa ix, Lib.itoa sz, Lib.itoa ini] _ rfl (by simp [maxLen])) (by have := HFT.out; simp only [lineT, Item.head, Item.args, List.length_append, List.length_cons, List.length_nil] at this ⊢; simp only [if_true] at this; omega) (by have := h4.size; omega)).mono ?_
          rintro e w' ⟨rfl, h1, h2⟩
          exact ⟨rfl, h1, (Kept.of_below h4 hbs).trans h2⟩)
        have HC : Hid (∀ w', Blk w' ga 55 #[.string ⟨nm.toArray⟩, .int .i64 ix, .int .i64 sz, .bool true, .int .i64 ini] → w'.cell? ⟨ga, 0, none⟩ = some (.string ⟨nm.toArray⟩) ∧ w'.cell? ⟨ga, 1, none⟩ = some (.int .i64 ix) ∧ w'.cell? ⟨ga, 2, none⟩ = some (.int .i64 sz) ∧ w'.cell? ⟨ga, 3, none⟩ = some (.bool true) ∧ w'.cell? ⟨ga, 4, none⟩ = some (.int .i64 ini)) := Lib.hid (fun w' h => ⟨h.cell 0, h.cell 1, h.cell 2, h.cell 3, h.cell 4⟩)
        have hx0 := (Below.refl wa.heap.size wa).drew
        have hs0 := HC.out _ (HXA.out.keep hx0)
        have HIT : Hid (∀ (n : Int), I64 n → ∀ w', Below wa.heap.size wa w' → Calls Tryd.prog 23 #[.int .i64 n] w' fun e w2 => e = .returned (.string ⟨(Lib.itoa n).toArray⟩) ∧ Below w'.heap.size w' w2) := Lib.hid (fun n hn w' h => itoa_any n w' hn ((HPK.out _ HKA.out).below h).tab)
        have HFI : Hid (∀ (n : Int), I64 n → ∀ w', Below wa.heap.size wa w' → Calls Tryd.prog 24 #[.int .i64 n, .int .i64 10] w' fun e w2 => e = .returned (.string ⟨(Lib.itoa n).toArray⟩) ∧ Below w'.heap.size w' w2) := Lib.hid (fun n hn w' h => fint_any n w' hn ((HPK.out _ HKA.out).below h).tab)
        clear p0 p1 p2 p3 p4
        go_region_held3 (fun w' => w'.cell? ⟨ga, 0, none⟩ = some (.string ⟨nm.toArray⟩) ∧ w'.cell? ⟨ga, 1, none⟩ = some (.int .i64 ix) ∧ w'.cell? ⟨ga, 2, none⟩ = some (.int .i64 sz) ∧ w'.cell? ⟨ga, 3, none⟩ = some (.bool true) ∧ w'.cell? ⟨ga, 4, none⟩ = some (.int .i64 ini)) (with_reducible assumption) (first
          | (go_at_call 23; refine (HIT.out ix HIX.out.1 _ hx0).mono ?_; rintro e w1 ⟨rfl, hb1⟩; have hx1 := hx0.trans (hb1.mono hx0.size); have hs1 := HC.out w1 (HXA.out.keep hx1))
          | (go_at_call 23; refine (HIT.out sz HIX.out.2.1 _ hx1).mono ?_; rintro e w2 ⟨rfl, hb2⟩; have hx2 := hx1.trans (hb2.mono hx1.size); have hs2 := HC.out w2 (HXA.out.keep hx2))
          | (go_at_call 24; refine (HFI.out ini HIX.out.2.2 _ hx2).mono ?_; rintro e w3 ⟨rfl, hb3⟩; have hx3 := hx2.trans (hb3.mono hx2.size); have hs3 := HC.out w3 (HXA.out.keep hx3); have hsa := HC.out _ (HXA.out.keep (hx3.alloc hx3.size (.cells #[.string ⟨#[118, 111, 108, 97, 116, 105, 108, 101]⟩, .string ⟨nm.toArray⟩, .string ⟨(Lib.itoa ix).toArray⟩, .string ⟨(Lib.itoa sz).toArray⟩, .string ⟨(Lib.itoa ini).toArray⟩] 9))))
          | (go_at_call 22; refine (HLN.out _ hx3).mono ?_; rintro e w9 ⟨rfl, h9, hk9⟩; have hs9 := HC.out w9 (hk9.blkT HXA.out hga (by decide))))
        clear hsa hs0 hs9 HC HLN HIT hs1 hx1 hb1 hs2 hx2 hb2 hs3 hx3 hb3
        have HW9 : Hid (WrAt b b (pq ++ lineT (.cell ⟨nm, ix, sz, true, ini⟩)) w9) := Lib.hid h9
        have HK9 := Lib.hid (HKA.out.trans hk9)
        clear h9 hk9
        go_wp2_with fail
        go_roundw
        case rel => exact ⟨k + 1, by omega, by go_num, by rw [HTS.out]; exact HW9, HK9⟩
        case measure => simp [intOf]; omega
    · obtain rfl : k = t.cells.length := by omega
      have lk : ¬ ((t.cells.length : Int) < (t.cells.length : Int)) := by omega
      rw [List.take_length] at HWR
      clear hlt hkl
      have k1 := (HXK.out wr HKW.out).cell 1
      simp only [List.getElem?_toArray, List.getElem?_cons_zero, List.getElem?_cons_succ] at k1
      go_wp2_with fail
      clear k1
      go_loopw [49] (fun iv wr => ∃ k : Nat, k ≤ t.locks.length ∧ iv = .int .i64 (k : Int) ∧ Hid (WrAt b b ((([] : List UInt8) ++ t.cells.flatMap (fun x => lineT (.cell x))) ++ (t.locks.take k).flatMap (fun x => lineT (.lock x))) wr) ∧ Hid (Kept b b W wr)) (fun iv _ => t.locks.length - (intOf iv).toNat)
      case atStart => exact ⟨0, by omega, rfl, (by simpa using HWR), HKW⟩
      case round =>
        obtain ⟨k, hkl, rfl, HWR, HKW⟩ := hrel
        by_cases hlt : k < t.locks.length
        · obtain ⟨x, hx⟩ : ∃ x, t.locks[k]? = some x := ⟨_, List.getElem?_eq_getElem hlt⟩
          have HTS : Hid ((([] : List UInt8) ++ t.cells.flatMap (fun x => lineT (.cell x))) ++ (t.locks.take (k + 1)).flatMap (fun x => lineT (.lock x)) = ((([] : List UInt8) ++ t.cells.flatMap (fun x => lineT (.cell x))) ++ (t.locks.take k).flatMap (fun x => lineT (.lock x))) ++ lineT (.lock x)) := Lib.hid (by rw [flatMap_take_succ hx]; exact (List.append_assoc _ _ _).symm)
          have HFT : Hid (((([] : List UInt8) ++ t.cells.flatMap (fun x => lineT (.cell x))) ++ (t.locks.take k).flatMap (fun x => lineT (.lock x))).length + (lineT (.lock x)).length ≤ 100000000000000) := Lib.hid (by have h1 := take_fits (g := (fun x => lineT (.lock x))) hx; have h2 := HLEN.out; simp only [List.length_append, List.length_nil] at h1 ⊢; omega)
          have lk : (k : Int) < (t.locks.length : Int) := by omega
          have lm : (k : Int) < 9223372036854775807 := by have := HM1.out; omega
          generalize hpq : (([] : List UInt8) ++ t.cells.flatMap (fun x => lineT (.cell x))) ++ (t.locks.take k).flatMap (fun x => lineT (.lock x)) = pq at *
          clear hpq
          obtain ⟨b1, o1, rfl, hb1, g1⟩ := (HR1.out.keep (HBK.out _ HKW.out)).flat (g := Lck.cells) (m := 2) (fun _ => rfl) (by omega) hx
          clear hx
          obtain ⟨nm, rw⟩ := x
          have y0 : wr.cell? ⟨b1, o1 + k * 2, none⟩ = some (.string ⟨nm.toArray⟩) := by exact g1 0 _ rfl
          have y1 : wr.cell? ⟨b1, o1 + k * 2 + 1, none⟩ = some (.bool rw) := by exact g1 1 _ rfl
          clear g1 hb1
          cases rw with
          | false =>
            have hba : Below wr.heap.size wr (wr.alloc (.cells #[.string ⟨nm.toArray⟩, .bool false] 57)) := (Below.refl _ _).alloc (Nat.le_refl _) _
            have HXA := Lib.hid (Blk.new wr 57 #[.string ⟨nm.toArray⟩, .bool false])
            have HWA := Lib.hid (HWR.out.keep hba)
            have HKA := Lib.hid (HKW.out.trans (Kept.of_below (B := b) (b := b) hba (by have := HWB.out; have := HKW.out.below.size; omega)))
            clear hba
            go_upto_region 16 with fail
            generalize wr.alloc (.cells #[.string ⟨nm.toArray⟩, .bool false] 57) = wa at *
            have hga : wr.heap.size ≠ b := by have := HWB.out; have := HKW.out.below.size; omega
            generalize wr.heap.size = ga at *
            clear y0 y1
            have p0 := HXA.out.cell 0
            have p1 := HXA.out.cell 1
            simp only [List.getElem?_toArray, List.getElem?_cons_zero, List.getElem?_cons_succ] at p0 p1
            have HLN : Hid (∀ w3, Below wa.heap.size wa w3 → Calls Tryd.prog 22 #[.pointer (some ⟨b, 0, none⟩), .slice (some ⟨w3.heap.size, 0, none⟩) 2 2] (w3.alloc (.cells #[.string ⟨#[109, 117, 116, 101, 120]⟩, .string ⟨nm.toArray⟩] 9)) fun e w' => e = .returned (.tuple #[]) ∧ WrAt b b (pq ++ lineT (.lock ⟨nm, false⟩)) w' ∧ Kept b b wa w') := Lib.hid (fun w3 h3 => by
              have h4 := h3.alloc h3.size (.cells #[.string ⟨#[109, 117, 116, 101, 120]⟩, .string ⟨nm.toArray⟩] 9)
              have hbs : b ≤ wa.heap.size := by have := HWB.out; have := HKA.out.below.size; omega
              refine (wline_any b b pq _ 2 wMutex [nm] _ (HWA.out.keep h4) (txts_new w3 [wMutex, nm] _ rfl (by simp [maxLen])) (by have := HFT.out; simp only [lineT, Item.head, Item.args, List.length_append, List.length_cons, List.length_nil] at this ⊢; simp only [if_false, Bool.false_eq_true] at this; omega) (by have := h4.size; omega)).mono ?_
              rintro e w' ⟨rfl, h1, h2⟩
              exact ⟨rfl, h1, (Kept.of_below h4 hbs).trans h2⟩)
            go_wp2_with fail
            refine (HLN.out _ (Below.refl _ _)).mono ?_
            rintro e w9 ⟨rfl, h9, hk9⟩
            have HW9 : Hid (WrAt b b (pq ++ lineT (.lock ⟨nm, false⟩)) w9) := Lib.hid h9
            have HK9 := Lib.hid (HKA.out.trans hk9)
            clear h9 hk9
            go_wp2_with fail
            go_roundw
            case rel => exact ⟨k + 1, by omega, by go_num, by rw [HTS.out]; exact HW9, HK9⟩
            case measure => simp [intOf]; omega
          | true =>
            have hba : Below wr.heap.size wr (wr.alloc (.cells #[.string ⟨nm.toArray⟩, .bool true] 57)) := (Below.refl _ _).alloc (Nat.le_refl _) _
            have HXA := Lib.hid (Blk.new wr 57 #[.string ⟨nm.toArray⟩, .bool true])
            have HWA := Lib.hid (HWR.out.keep hba)
            have HKA := Lib.hid (HKW.out.trans (Kept.of_below (B := b) (b := b) hba (by have := HWB.out; have := HKW.out.below.size; omega)))
            clear hba
            go_upto_region 16 with fail
            generalize wr.alloc (.cells #[.string ⟨nm.toArray⟩, .bool true] 57) = wa at *
            have hga : wr.heap.size ≠ b := by have := HWB.out; have := HKW.out.below.size; omega
            generalize wr.heap.size = ga at *
            clear y0 y1
            have p0 := HXA.out.cell 0
            have p1 := HXA.out.cell 1
            simp only [List.getElem?_toArray, List.getElem?_cons_zero, List.getElem?_cons_succ] at p0 p1
            have HLN : Hid (∀ w3, Below wa.heap.size wa w3 → Calls Tryd.prog 22 #[.pointer (some ⟨b, 0, none⟩), .slice (some ⟨w3.heap.size, 0, none⟩) 2 2] (w3.alloc (.cells #[.string ⟨#[114, 119, 108, 111, 99, 107]⟩, .string ⟨nm.toArray⟩] 9)) fun e w' => e = .returned (.tuple #[]) ∧ WrAt b b (pq ++ lineT (.lock ⟨nm, true⟩)) w' ∧ Kept b b wa w') := Lib.hid (fun w3 h3 => by
              have h4 := h3.alloc h3.size (.cells #[.string ⟨#[114, 119, 108, 111, 99, 107]⟩, .string ⟨nm.toArray⟩] 9)
              have hbs : b ≤ wa.heap.size := by have := HWB.out; have := HKA.out.below.size; omega
              refine (wline_any b b pq _ 2 wRw [nm] _ (HWA.out.keep h4) (txts_new w3 [wRw, nm] _ rfl (by simp [maxLen])) (by have := HFT.out; simp only [lineT, Item.head, Item.args, List.length_append, List.length_cons, List.length_nil] at this ⊢; simp only [if_true] at this; omega) (by have := h4.size; omega)).mono ?_
              rintro e w' ⟨rfl, h1, h2⟩
              exact ⟨rfl, h1, (Kept.of_below h4 hbs).trans h2⟩)
            go_wp2_with fail
            refine (HLN.out _ (Below.refl _ _)).mono ?_
            rintro e w9 ⟨rfl, h9, hk9⟩
            have HW9 : Hid (WrAt b b (pq ++ lineT (.lock ⟨nm, true⟩)) w9) := Lib.hid h9
            have HK9 := Lib.hid (HKA.out.trans hk9)
            clear h9 hk9
            go_wp2_with fail
            go_roundw
            case rel => exact ⟨k + 1, by omega, by go_num, by rw [HTS.out]; exact HW9, HK9⟩
            case measure => simp [intOf]; omega
        · obtain rfl : k = t.locks.length := by omega
          have lk : ¬ ((t.locks.length : Int) < (t.locks.length : Int)) := by omega
          rw [List.take_length] at HWR
          clear hlt hkl
          have k2 := (HXK.out wr HKW.out).cell 2
          simp only [List.getElem?_toArray, List.getElem?_cons_zero, List.getElem?_cons_succ] at k2
          go_wp2_with fail
          clear k2
          go_loopw [65] (fun iv wr => ∃ k : Nat, k ≤ t.conds.length ∧ iv = .int .i64 (k : Int) ∧ Hid (WrAt b b (((([] : List UInt8) ++ t.cells.flatMap (fun x => lineT (.cell x))) ++ t.locks.flatMap (fun x => lineT (.lock x))) ++ (t.conds.take k).flatMap (fun x => lineT (.cond x))) wr) ∧ Hid (Kept b b W wr)) (fun iv _ => t.conds.length - (intOf iv).toNat)
          case atStart => exact ⟨0, by omega, rfl, (by simpa using HWR), HKW⟩
          case round =>
            obtain ⟨k, hkl, rfl, HWR, HKW⟩ := hrel
            by_cases hlt : k < t.conds.length
            · obtain ⟨x, hx⟩ : ∃ x, t.conds[k]? = some x := ⟨_, List.getElem?_eq_getElem hlt⟩
              have HTS : Hid (((([] : List UInt8) ++ t.cells.flatMap (fun x => lineT (.cell x))) ++ t.locks.flatMap (fun x => lineT (.lock x))) ++ (t.conds.take (k + 1)).flatMap (fun x => lineT (.cond x)) = (((([] : List UInt8) ++ t.cells.flatMap (fun x => lineT (.cell x))) ++ t.locks.flatMap (fun x => lineT (.lock x))) ++ (t.conds.take k).flatMap (fun x => lineT (.cond x))) ++ lineT (.cond x)) := Lib.hid (by rw [flatMap_take_succ hx]; exact (List.append_assoc _ _ _).symm)
              have HFT : Hid ((((([] : List UInt8) ++ t.cells.flatMap (fun x => lineT (.cell x))) ++ t.locks.flatMap (fun x => lineT (.lock x))) ++ (t.conds.take k).flatMap (fun x => lineT (.cond x))).length + (lineT (.cond x)).length ≤ 100000000000000) := Lib.hid (by have h1 := take_fits (g := (fun x => lineT (.cond x))) hx; have h2 := HLEN.out; simp only [List.length_append, List.length_nil] at h1 ⊢; omega)
              have lk : (k : Int) < (t.conds.length : Int) := by omega
              have lm : (k : Int) < 9223372036854775807 := by have := HM2.out; omega
              generalize hpq : ((([] : List UInt8) ++ t.cells.flatMap (fun x => lineT (.cell x))) ++ t.locks.flatMap (fun x => lineT (.lock x))) ++ (t.conds.take k).flatMap (fun x => lineT (.cond x)) = pq at *
              clear hpq
              have HIX := Lib.hid (HOK.out.2.1 x (List.mem_of_getElem? hx))
              obtain ⟨b1, o1, rfl, hb1, g1⟩ := (HR2.out.keep (HBK.out _ HKW.out)).flat (g := Cnd.cells) (m := 2) (fun _ => rfl) (by omega) hx
              clear hx
              obtain ⟨nm, mx⟩ := x
              have y0 : wr.cell? ⟨b1, o1 + k * 2, none⟩ = some (.string ⟨nm.toArray⟩) := by exact g1 0 _ rfl
              have y1 : wr.cell? ⟨b1, o1 + k * 2 + 1, none⟩ = some (.int .i64 mx) := by exact g1 1 _ rfl
              clear g1 hb1
              have hba : Below wr.heap.size wr (wr.alloc (.cells #[.string ⟨nm.toArray⟩, .int .i64 mx] 59)) := (Below.refl _ _).alloc (Nat.le_refl _) _
              have HXA := Lib.hid (Blk.new wr 59 #[.string ⟨nm.toArray⟩, .int .i64 mx])
              have HWA := Lib.hid (HWR.out.keep hba)
              have HKA := Lib.hid (HKW.out.trans (Kept.of_below (B := b) (b := b) hba (by have := HWB.out; have := HKW.out.below.size; omega)))
              clear hba
              go_upto_region 21 with fail
              generalize wr.alloc (.cells #[.string ⟨nm.toArray⟩, .int .i64 mx] 59) = wa at *
              have hga : wr.heap.size ≠ b := by have := HWB.out; have := HKW.out.below.size; omega
              generalize wr.heap.size = ga at *
              clear y0 y1
              have p0 := HXA.out.cell 0
              have p1 := HXA.out.cell 1
              simp only [List.getElem?_toArray, List.getElem?_cons_zero, List.getElem?_cons_succ] at p0 p1
              have HLN : Hid (∀ w3, Below wa.heap.size wa w3 → Calls Tryd.prog 22 #[.pointer (some ⟨b, 0, none⟩), .slice (some ⟨w3.heap.size, 0, none⟩) 3 3] (w3.alloc (.cells #[.string ⟨#[99, 111, 110, 100]⟩, .string ⟨nm.toArray⟩, .string ⟨(Lib.itoa mx).toArray⟩] 9)) fun e w' => e = .returned (.tuple #[]) ∧ WrAt b b (pq ++ lineT (.cond ⟨nm, mx⟩)) w' ∧ Kept b b wa w') := Lib.hid (fun w3 h3 => by
                have h4 := h3.alloc h3.size (.cells #[.string ⟨#[99, 111, 110, 100]⟩, .string ⟨nm.toArray⟩, .string ⟨(Lib.itoa mx).toArray⟩] 9)
                have hbs : b ≤ wa.heap.size := by have := HWB.out; have := HKA.out.below.size; omega
                refine (wline_any b b pq _ 3 wCond [nm, Lib.itoa mx] _ (HWA.out.keep h4) (txts_new w3 [wCond, nm, Lib.itoa mx] _ rfl (by simp [maxLen])) (by have := HFT.out; simp only [lineT, Item.head, Item.args, List.length_append, List.length_cons, List.length_nil] at this ⊢; omega) (by have := h4.size; omega)).mono ?_
                rintro e w' ⟨rfl, h1, h2⟩
                exact ⟨rfl, h1, (Kept.of_below h4 hbs).trans h2⟩)
              have HC : Hid (∀ w', Blk w' ga 59 #[.string ⟨nm.toArray⟩, .int .i64 mx] → w'.cell? ⟨ga, 0, none⟩ = some (.string ⟨nm.toArray⟩) ∧ w'.cell? ⟨ga, 1, none⟩ = some (.int .i64 mx)) := Lib.hid (fun w' h => ⟨h.cell 0, h.cell 1⟩)
              have hx0 := (Below.refl wa.heap.size wa).drew
              have hs0 := HC.out _ (HXA.out.keep hx0)
              have HIT : Hid (∀ (n : Int), I64 n → ∀ w', Below wa.heap.size wa w' → Calls Tryd.prog 23 #[.int .i64 n] w' fun e w2 => e = .returned (.string ⟨(Lib.itoa n).toArray⟩) ∧ Below w'.heap.size w' w2) := Lib.hid (fun n hn w' h => itoa_any n w' hn ((HPK.out _ HKA.out).below h).tab)
              clear p0 p1
              go_region_held3 (fun w' => w'.cell? ⟨ga, 0, none⟩ = some (.string ⟨nm.toArray⟩) ∧ w'.cell? ⟨ga, 1, none⟩ = some (.int .i64 mx)) (with_reducible assumption) (first
                | (go_at_call 23; refine (HIT.out mx HIX.out _ hx0).mono ?_; rintro e w1 ⟨rfl, hb1⟩; have hx1 := hx0.trans (hb1.mono hx0.size); have hs1 := HC.out w1 (HXA.out.keep hx1); have hsa := HC.out _ (HXA.out.keep (hx1.alloc hx1.size (.cells #[.string ⟨#[99, 111, 110, 100]⟩, .string ⟨nm.toArray⟩, .string ⟨(Lib.itoa mx).toArray⟩] 9))))
                | (go_at_call 22; refine (HLN.out _ hx1).mono ?_; rintro e w9 ⟨rfl, h9, hk9⟩; have hs9 := HC.out w9 (hk9.blkT HXA.out hga (by decide))))
              clear hsa hs0 hs9 HC HLN HIT hs1 hx1 hb1
              have HW9 : Hid (WrAt b b (pq ++ lineT (.cond ⟨nm, mx⟩)) w9) := Lib.hid h9
              have HK9 := Lib.hid (HKA.out.trans hk9)
              clear h9 hk9
              go_wp2_with fail
              go_roundw
              case rel => exact ⟨k + 1, by omega, by go_num, by rw [HTS.out]; exact HW9, HK9⟩
              case measure => simp [intOf]; omega
            · obtain rfl : k = t.conds.length := by omega
              have lk : ¬ ((t.conds.length : Int) < (t.conds.length : Int)) := by omega
              rw [List.take_length] at HWR
              clear hlt hkl
              have k3 := (HXK.out wr HKW.out).cell 3
              simp only [List.getElem?_toArray, List.getElem?_cons_zero, List.getElem?_cons_succ] at k3
              go_wp2_with fail
              clear k3
              go_loopw [81] (fun iv wr => ∃ k : Nat, k ≤ t.futs.length ∧ iv = .int .i64 (k : Int) ∧ Hid (WrAt b b ((((([] : List UInt8) ++ t.cells.flatMap (fun x => lineT (.cell x))) ++ t.locks.flatMap (fun x => lineT (.lock x))) ++ t.conds.flatMap (fun x => lineT (.cond x))) ++ (t.futs.take k).flatMap (fun x => lineT (.fut x))) wr) ∧ Hid (Kept b b W wr)) (fun iv _ => t.futs.length - (intOf iv).toNat)
              case atStart => exact ⟨0, by omega, rfl, (by simpa using HWR), HKW⟩
              case round =>
                obtain ⟨k, hkl, rfl, HWR, HKW⟩ := hrel
                by_cases hlt : k < t.futs.length
                · obtain ⟨x, hx⟩ : ∃ x, t.futs[k]? = some x := ⟨_, List.getElem?_eq_getElem hlt⟩
                  have HTS : Hid ((((([] : List UInt8) ++ t.cells.flatMap (fun x => lineT (.cell x))) ++ t.locks.flatMap (fun x => lineT (.lock x))) ++ t.conds.flatMap (fun x => lineT (.cond x))) ++ (t.futs.take (k + 1)).flatMap (fun x => lineT (.fut x)) = ((((([] : List UInt8) ++ t.cells.flatMap (fun x => lineT (.cell x))) ++ t.locks.flatMap (fun x => lineT (.lock x))) ++ t.conds.flatMap (fun x => lineT (.cond x))) ++ (t.futs.take k).flatMap (fun x => lineT (.fut x))) ++ lineT (.fut x)) := Lib.hid (by rw [flatMap_take_succ hx]; exact (List.append_assoc _ _ _).symm)
                  have HFT : Hid (((((([] : List UInt8) ++ t.cells.flatMap (fun x => lineT (.cell x))) ++ t.locks.flatMap (fun x => lineT (.lock x))) ++ t.conds.flatMap (fun x => lineT (.cond x))) ++ (t.futs.take k).flatMap (fun x => lineT (.fut x))).length + (lineT (.fut x)).length ≤ 100000000000000) := Lib.hid (by have h1 := take_fits (g := (fun x => lineT (.fut x))) hx; have h2 := HLEN.out; simp only [List.length_append, List.length_nil] at h1 ⊢; omega)
                  have lk : (k : Int) < (t.futs.length : Int) := by omega
                  have lm : (k : Int) < 9223372036854775807 := by have := HM3.out; omega
                  generalize hpq : (((([] : List UInt8) ++ t.cells.flatMap (fun x => lineT (.cell x))) ++ t.locks.flatMap (fun x => lineT (.lock x))) ++ t.conds.flatMap (fun x => lineT (.cond x))) ++ (t.futs.take k).flatMap (fun x => lineT (.fut x)) = pq at *
                  clear hpq
                  obtain ⟨b1, o1, rfl, hb1, g1⟩ := (HR3.out.keep (HBK.out _ HKW.out)).flat (g := strC) (m := 1) (fun _ => rfl) (by omega) hx
                  clear hx
                  have y0 : wr.cell? ⟨b1, o1 + k, none⟩ = some (.string ⟨x.toArray⟩) := by have := g1 0 _ rfl; rw [Nat.mul_one] at this; exact this
                  clear g1 hb1
                  have HLN : Hid (∀ w3, Below wr.heap.size wr w3 → Calls Tryd.prog 22 #[.pointer (some ⟨b, 0, none⟩), .slice (some ⟨w3.heap.size, 0, none⟩) 2 2] (w3.alloc (.cells #[.string ⟨#[102, 117, 116, 117, 114, 101]⟩, .string ⟨x.toArray⟩] 9)) fun e w' => e = .returned (.tuple #[]) ∧ WrAt b b (pq ++ lineT (.fut x)) w' ∧ Kept b b wr w') := Lib.hid (fun w3 h3 => by
                    have h4 := h3.alloc h3.size (.cells #[.string ⟨#[102, 117, 116, 117, 114, 101]⟩, .string ⟨x.toArray⟩] 9)
                    have hbs : b ≤ wr.heap.size := by have := HWB.out; have := HKW.out.below.size; omega
                    refine (wline_any b b pq _ 2 wFut [x] _ (HWR.out.keep h4) (txts_new w3 [wFut, x] _ rfl (by simp [maxLen])) (by have := HFT.out; simp only [lineT, Item.head, Item.args, List.length_append, List.length_cons, List.length_nil] at this ⊢; omega) (by have := h4.size; omega)).mono ?_
                    rintro e w' ⟨rfl, h1, h2⟩
                    exact ⟨rfl, h1, (Kept.of_below h4 hbs).trans h2⟩)
                  go_wp2_with fail
                  refine (HLN.out _ (Below.refl _ _)).mono ?_
                  rintro e w9 ⟨rfl, h9, hk9⟩
                  have HW9 : Hid (WrAt b b (pq ++ lineT (.fut x)) w9) := Lib.hid h9
                  have HK9 := Lib.hid (HKW.out.trans hk9)
                  clear h9 hk9
                  go_wp2_with fail
                  go_roundw
                  case rel => exact ⟨k + 1, by omega, by go_num, by rw [HTS.out]; exact HW9, HK9⟩
                  case measure => simp [intOf]; omega
                · obtain rfl : k = t.futs.length := by omega
                  have lk : ¬ ((t.futs.length : Int) < (t.futs.length : Int)) := by omega
                  rw [List.take_length] at HWR
                  clear hlt hkl
                  have k4 := (HXK.out wr HKW.out).cell 4
                  simp only [List.getElem?_toArray, List.getElem?_cons_zero, List.getElem?_cons_succ] at k4
                  go_wp2_with fail
                  clear k4
                  go_loopw [93] (fun iv wr => ∃ k : Nat, k ≤ t.thrs.length ∧ iv = .int .i64 (k : Int) ∧ Hid (WrAt b b (((((([] : List UInt8) ++ t.cells.flatMap (fun x => lineT (.cell x))) ++ t.locks.flatMap (fun x => lineT (.lock x))) ++ t.conds.flatMap (fun x => lineT (.cond x))) ++ t.futs.flatMap (fun x => lineT (.fut x))) ++ (t.thrs.take k).flatMap (fun x => lineT (.thr x))) wr) ∧ Hid (Kept b b W wr)) (fun iv _ => t.thrs.length - (intOf iv).toNat)
                  case atStart => exact ⟨0, by omega, rfl, (by simpa using HWR), HKW⟩
                  case round =>
                    obtain ⟨k, hkl, rfl, HWR, HKW⟩ := hrel
                    by_cases hlt : k < t.thrs.length
                    · obtain ⟨x, hx⟩ : ∃ x, t.thrs[k]? = some x := ⟨_, List.getElem?_eq_getElem hlt⟩
                      have HTS : Hid (((((([] : List UInt8) ++ t.cells.flatMap (fun x => lineT (.cell x))) ++ t.locks.flatMap (fun x => lineT (.lock x))) ++ t.conds.flatMap (fun x => lineT (.cond x))) ++ t.futs.flatMap (fun x => lineT (.fut x))) ++ (t.thrs.take (k + 1)).flatMap (fun x => lineT (.thr x)) = (((((([] : List UInt8) ++ t.cells.flatMap (fun x => lineT (.cell x))) ++ t.locks.flatMap (fun x => lineT (.lock x))) ++ t.conds.flatMap (fun x => lineT (.cond x))) ++ t.futs.flatMap (fun x => lineT (.fut x))) ++ (t.thrs.take k).flatMap (fun x => lineT (.thr x))) ++ lineT (.thr x)) := Lib.hid (by rw [flatMap_take_succ hx]; exact (List.append_assoc _ _ _).symm)
                      have HFT : Hid ((((((([] : List UInt8) ++ t.cells.flatMap (fun x => lineT (.cell x))) ++ t.locks.flatMap (fun x => lineT (.lock x))) ++ t.conds.flatMap (fun x => lineT (.cond x))) ++ t.futs.flatMap (fun x => lineT (.fut x))) ++ (t.thrs.take k).flatMap (fun x => lineT (.thr x))).length + (lineT (.thr x)).length ≤ 100000000000000) := Lib.hid (by have h1 := take_fits (g := (fun x => lineT (.thr x))) hx; have h2 := HLEN.out; simp only [List.length_append, List.length_nil] at h1 ⊢; omega)
                      have lk : (k : Int) < (t.thrs.length : Int) := by omega
                      have lm : (k : Int) < 9223372036854775807 := by have := HM4.out; omega
                      generalize hpq : ((((([] : List UInt8) ++ t.cells.flatMap (fun x => lineT (.cell x))) ++ t.locks.flatMap (fun x => lineT (.lock x))) ++ t.conds.flatMap (fun x => lineT (.cond x))) ++ t.futs.flatMap (fun x => lineT (.fut x))) ++ (t.thrs.take k).flatMap (fun x => lineT (.thr x)) = pq at *
                      clear hpq
                      obtain ⟨b1, o1, rfl, hb1, g1⟩ := (HR4.out.keep (HBK.out _ HKW.out)).flat (g := strC) (m := 1) (fun _ => rfl) (by omega) hx
                      clear hx
                      have y0 : wr.cell? ⟨b1, o1 + k, none⟩ = some (.string ⟨x.toArray⟩) := by have := g1 0 _ rfl; rw [Nat.mul_one] at this; exact this
                      clear g1 hb1
                      have HLN : Hid (∀ w3, Below wr.heap.size wr w3 → Calls Tryd.prog 22 #[.pointer (some ⟨b, 0, none⟩), .slice (some ⟨w3.heap.size, 0, none⟩) 2 2] (w3.alloc (.cells #[.string ⟨#[116, 104, 114, 101, 97, 100]⟩, .string ⟨x.toArray⟩] 9)) fun e w' => e = .returned (.tuple #[]) ∧ WrAt b b (pq ++ lineT (.thr x)) w' ∧ Kept b b wr w') := Lib.hid (fun w3 h3 => by
                        have h4 := h3.alloc h3.size (.cells #[.string ⟨#[116, 104, 114, 101, 97, 100]⟩, .string ⟨x.toArray⟩] 9)
                        have hbs : b ≤ wr.heap.size := by have := HWB.out; have := HKW.out.below.size; omega
                        refine (wline_any b b pq _ 2 wThr [x] _ (HWR.out.keep h4) (txts_new w3 [wThr, x] _ rfl (by simp [maxLen])) (by have := HFT.out; simp only [lineT, Item.head, Item.args, List.length_append, List.length_cons, List.length_nil] at this ⊢; omega) (by have := h4.size; omega)).mono ?_
                        rintro e w' ⟨rfl, h1, h2⟩
                        exact ⟨rfl, h1, (Kept.of_below h4 hbs).trans h2⟩)
                      go_wp2_with fail
                      refine (HLN.out _ (Below.refl _ _)).mono ?_
                      rintro e w9 ⟨rfl, h9, hk9⟩
                      have HW9 : Hid (WrAt b b (pq ++ lineT (.thr x)) w9) := Lib.hid h9
                      have HK9 := Lib.hid (HKW.out.trans hk9)
                      clear h9 hk9
                      go_wp2_with fail
                      go_roundw
                      case rel => exact ⟨k + 1, by omega, by go_num, by rw [HTS.out]; exact HW9, HK9⟩
                      case measure => simp [intOf]; omega
                    · obtain rfl : k = t.thrs.length := by omega
                      have lk : ¬ ((t.thrs.length : Int) < (t.thrs.length : Int)) := by omega
                      rw [List.take_length] at HWR
                      clear hlt hkl
                      have k5 := (HXK.out wr HKW.out).cell 5
                      simp only [List.getElem?_toArray, List.getElem?_cons_zero, List.getElem?_cons_succ] at k5
                      go_wp2_with fail
                      clear k5
                      go_loopw [105] (fun iv wr => ∃ k : Nat, k ≤ t.sites.length ∧ iv = .int .i64 (k : Int) ∧ Hid (WrAt b b ((((((([] : List UInt8) ++ t.cells.flatMap (fun x => lineT (.cell x))) ++ t.locks.flatMap (fun x => lineT (.lock x))) ++ t.conds.flatMap (fun x => lineT (.cond x))) ++ t.futs.flatMap (fun x => lineT (.fut x))) ++ t.thrs.flatMap (fun x => lineT (.thr x))) ++ (t.sites.take k).flatMap (fun x => lineT (.site x))) wr) ∧ Hid (Kept b b W wr)) (fun iv _ => t.sites.length - (intOf iv).toNat)
                      case atStart => exact ⟨0, by omega, rfl, (by simpa using HWR), HKW⟩
                      case round =>
                        obtain ⟨k, hkl, rfl, HWR, HKW⟩ := hrel
                        by_cases hlt : k < t.sites.length
                        · obtain ⟨x, hx⟩ : ∃ x, t.sites[k]? = some x := ⟨_, List.getElem?_eq_getElem hlt⟩
                          have HTS : Hid ((((((([] : List UInt8) ++ t.cells.flatMap (fun x => lineT (.cell x))) ++ t.locks.flatMap (fun x => lineT (.lock x))) ++ t.conds.flatMap (fun x => lineT (.cond x))) ++ t.futs.flatMap (fun x => lineT (.fut x))) ++ t.thrs.flatMap (fun x => lineT (.thr x))) ++ (t.sites.take (k + 1)).flatMap (fun x => lineT (.site x)) = ((((((([] : List UInt8) ++ t.cells.flatMap (fun x => lineT (.cell x))) ++ t.locks.flatMap (fun x => lineT (.lock x))) ++ t.conds.flatMap (fun x => lineT (.cond x))) ++ t.futs.flatMap (fun x => lineT (.fut x))) ++ t.thrs.flatMap (fun x => lineT (.thr x))) ++ (t.sites.take k).flatMap (fun x => lineT (.site x))) ++ lineT (.site x)) := Lib.hid (by rw [flatMap_take_succ hx]; exact (List.append_assoc _ _ _).symm)
                          have HFT : Hid (((((((([] : List UInt8) ++ t.cells.flatMap (fun x => lineT (.cell x))) ++ t.locks.flatMap (fun x => lineT (.lock x))) ++ t.conds.flatMap (fun x => lineT (.cond x))) ++ t.futs.flatMap (fun x => lineT (.fut x))) ++ t.thrs.flatMap (fun x => lineT (.thr x))) ++ (t.sites.take k).flatMap (fun x => lineT (.site x))).length + (lineT (.site x)).length ≤ 100000000000000) := Lib.hid (by have h1 := take_fits (g := (fun x => lineT (.site x))) hx; have h2 := HLEN.out; simp only [List.length_append, List.length_nil] at h1 ⊢; omega)
                          have lk : (k : Int) < (t.sites.length : Int) := by omega
                          have lm : (k : Int) < 9223372036854775807 := by have := HM5.out; omega
                          generalize hpq : (((((([] : List UInt8) ++ t.cells.flatMap (fun x => lineT (.cell x))) ++ t.locks.flatMap (fun x => lineT (.lock x))) ++ t.conds.flatMap (fun x => lineT (.cond x))) ++ t.futs.flatMap (fun x => lineT (.fut x))) ++ t.thrs.flatMap (fun x => lineT (.thr x))) ++ (t.sites.take k).flatMap (fun x => lineT (.site x)) = pq at *
                          clear hpq
                          have HIX := Lib.hid (HOK.out.2.2.1 x (List.mem_of_getElem? hx))
                          obtain ⟨b1, o1, rfl, hb1, g1⟩ := (HR5.out.keep (HBK.out _ HKW.out)).flat (g := Sit.cells) (m := 3) (fun _ => rfl) (by omega) hx
                          clear hx
                          obtain ⟨ta, sb, lc⟩ := x
                          have y0 : wr.cell? ⟨b1, o1 + k * 3, none⟩ = some (.int .i64 ta) := by exact g1 0 _ rfl
                          have y1 : wr.cell? ⟨b1, o1 + k * 3 + 1, none⟩ = some (.int .i64 sb) := by exact g1 1 _ rfl
                          have y2 : wr.cell? ⟨b1, o1 + k * 3 + 2, none⟩ = some (.int .i64 lc) := by exact g1 2 _ rfl
                          clear g1 hb1
                          have hba : Below wr.heap.size wr (wr.alloc (.cells #[.int .i64 ta, .int .i64 sb, .int .i64 lc] 71)) := (Below.refl _ _).alloc (Nat.le_refl _) _
                          have HXA := Lib.hid (Blk.new wr 71 #[.int .i64 ta, .int .i64 sb, .int .i64 lc])
                          have HWA := Lib.hid (HWR.out.keep hba)
                          have HKA := Lib.hid (HKW.out.trans (Kept.of_below (B := b) (b := b) hba (by have := HWB.out; have := HKW.out.below.size; omega)))
                          clear hba
                          go_upto_region 36 with fail
                          generalize wr.alloc (.cells #[.int .i64 ta, .int .i64 sb, .int .i64 lc] 71) = wa at *
                          have hga : wr.heap.size ≠ b := by have := HWB.out; have := HKW.out.below.size; omega
                          generalize wr.heap.size = ga at *
                          clear y0 y1 y2
                          have p0 := HXA.out.cell 0
                          have p1 := HXA.out.cell 1
                          have p2 := HXA.out.cell 2
                          simp only [List.getElem?_toArray, List.getElem?_cons_zero, List.getElem?_cons_succ] at p0 p1 p2
                          have HLN : Hid (∀ w3, Below wa.heap.size wa w3 → Calls Tryd.prog 22 #[.pointer (some ⟨b, 0, none⟩), .slice (some ⟨w3.heap.size, 0, none⟩) 4 4] (w3.alloc (.cells #[.string ⟨#[115, 105, 116, 101]⟩, .string ⟨(Lib.itoa ta).toArray⟩, .string ⟨(Lib.itoa sb).toArray⟩, .string ⟨(Lib.itoa lc).toArray⟩] 9)) fun e w' => e = .returned (.tuple #[]) ∧ WrAt b b (pq ++ lineT (.site ⟨ta, sb, lc⟩)) w' ∧ Kept b b wa w') := Lib.hid (fun w3 h3 => by
                            have h4 := h3.alloc h3.size (.cells #[.string ⟨#[115, 105, 116, 101]⟩, .string ⟨(Lib.itoa ta).toArray⟩, .string ⟨(Lib.itoa sb).toArray⟩, .string ⟨(Lib.itoa lc).toArray⟩] 9)
                            have hbs : b ≤ wa.heap.size := by have := HWB.out; have := HKA.out.below.size; omega
                            refine (wline_any b b pq _ 4 wSite [Lib.itoa ta, Lib.itoa sb, Lib.itoa lc] _ (HWA.out.keep h4) (txts_new w3 [wSite, Lib.itoa ta, Lib.itoa sb, Lib.itoa lc] _ rfl (by simp [maxLen])) (by have := HFT.out; simp only [lineT, Item.head, Item.args, List.length_append, List.length_cons, List.length_nil] at this ⊢; omega) (by have := h4.size; omega)).mono ?_
                            rintro e w' ⟨rfl, h1, h2⟩
                            exact ⟨rfl, h1, (Kept.of_below h4 hbs).trans h2⟩)
                          have HC : Hid (∀ w', Blk w' ga 71 #[.int .i64 ta, .int .i64 sb, .int .i64 lc] → w'.cell? ⟨ga, 0, none⟩ = some (.int .i64 ta) ∧ w'.cell? ⟨ga, 1, none⟩ = some (.int .i64 sb) ∧ w'.cell? ⟨ga, 2, none⟩ = some (.int .i64 lc)) := Lib.hid (fun w' h => ⟨h.cell 0, h.cell 1, h.cell 2⟩)
                          have hx0 := (Below.refl wa.heap.size wa).drew
                          have hs0 := HC.out _ (HXA.out.keep hx0)
                          have HIT : Hid (∀ (n : Int), I64 n → ∀ w', Below wa.heap.size wa w' → Calls Tryd.prog 23 #[.int .i64 n] w' fun e w2 => e = .returned (.string ⟨(Lib.itoa n).toArray⟩) ∧ Below w'.heap.size w' w2) := Lib.hid (fun n hn w' h => itoa_any n w' hn ((HPK.out _ HKA.out).below h).tab)
                          clear p0 p1 p2
                          go_region_held3 (fun w' => w'.cell? ⟨ga, 0, none⟩ = some (.int .i64 ta) ∧ w'.cell? ⟨ga, 1, none⟩ = some (.int .i64 sb) ∧ w'.cell? ⟨ga, 2, none⟩ = some (.int .i64 lc)) (with_reducible assumption) (first
                            | (go_at_call 23; refine (HIT.out ta HIX.out.1 _ hx0).mono ?_; rintro e w1 ⟨rfl, hb1⟩; have hx1 := hx0.trans (hb1.mono hx0.size); have hs1 := HC.out w1 (HXA.out.keep hx1))
                            | (go_at_call 23; refine (HIT.out sb HIX.out.2.1 _ hx1).mono ?_; rintro e w2 ⟨rfl, hb2⟩; have hx2 := hx1.trans (hb2.mono hx1.size); have hs2 := HC.out w2 (HXA.out.keep hx2))
                            | (go_at_call 23; refine (HIT.out lc HIX.out.2.2 _ hx2).mono ?_; rintro e w3 ⟨rfl, hb3⟩; have hx3 := hx2.trans (hb3.mono hx2.size); have hs3 := HC.out w3 (HXA.out.keep hx3); have hsa := HC.out _ (HXA.out.keep (hx3.alloc hx3.size (.cells #[.string ⟨#[115, 105, 116, 101]⟩, .string ⟨(Lib.itoa ta).toArray⟩, .string ⟨(Lib.itoa sb).toArray⟩, .string ⟨(Lib.itoa lc).toArray⟩] 9))))
                            | (go_at_call 22; refine (HLN.out _ hx3).mono ?_; rintro e w9 ⟨rfl, h9, hk9⟩; have hs9 := HC.out w9 (hk9.blkT HXA.out hga (by decide))))
                          clear hsa hs0 hs9 HC HLN HIT hs1 hx1 hb1 hs2 hx2 hb2 hs3 hx3 hb3
                          have HW9 : Hid (WrAt b b (pq ++ lineT (.site ⟨ta, sb, lc⟩)) w9) := Lib.hid h9
                          have HK9 := Lib.hid (HKA.out.trans hk9)
                          clear h9 hk9
                          go_wp2_with fail
                          go_roundw
                          case rel => exact ⟨k + 1, by omega, by go_num, by rw [HTS.out]; exact HW9, HK9⟩
                          case measure => simp [intOf]; omega
                        · obtain rfl : k = t.sites.length := by omega
                          have lk : ¬ ((t.sites.length : Int) < (t.sites.length : Int)) := by omega
                          rw [List.take_length] at HWR
                          clear hlt hkl
                          have k6 := (HXK.out wr HKW.out).cell 6
                          simp only [List.getElem?_toArray, List.getElem?_cons_zero, List.getElem?_cons_succ] at k6
                          go_wp2_with fail
                          clear k6
                          go_loopw [124] (fun iv wr => ∃ k : Nat, k ≤ t.events.length ∧ iv = .int .i64 (k : Int) ∧ Hid (WrAt b b (((((((([] : List UInt8) ++ t.cells.flatMap (fun x => lineT (.cell x))) ++ t.locks.flatMap (fun x => lineT (.lock x))) ++ t.conds.flatMap (fun x => lineT (.cond x))) ++ t.futs.flatMap (fun x => lineT (.fut x))) ++ t.thrs.flatMap (fun x => lineT (.thr x))) ++ t.sites.flatMap (fun x => lineT (.site x))) ++ (t.events.take k).flatMap (fun x => lineT (.event x))) wr) ∧ Hid (Kept b b W wr)) (fun iv _ => t.events.length - (intOf iv).toNat)
                          case atStart => exact ⟨0, by omega, rfl, (by simpa using HWR), HKW⟩
                          case round =>
                            obtain ⟨k, hkl, rfl, HWR, HKW⟩ := hrel
                            by_cases hlt : k < t.events.length
                            · obtain ⟨x, hx⟩ : ∃ x, t.events[k]? = some x := ⟨_, List.getElem?_eq_getElem hlt⟩
                              have HTS : Hid (((((((([] : List UInt8) ++ t.cells.flatMap (fun x => lineT (.cell x))) ++ t.locks.flatMap (fun x => lineT (.lock x))) ++ t.conds.flatMap (fun x => lineT (.cond x))) ++ t.futs.flatMap (fun x => lineT (.fut x))) ++ t.thrs.flatMap (fun x => lineT (.thr x))) ++ t.sites.flatMap (fun x => lineT (.site x))) ++ (t.events.take (k + 1)).flatMap (fun x => lineT (.event x)) = (((((((([] : List UInt8) ++ t.cells.flatMap (fun x => lineT (.cell x))) ++ t.locks.flatMap (fun x => lineT (.lock x))) ++ t.conds.flatMap (fun x => lineT (.cond x))) ++ t.futs.flatMap (fun x => lineT (.fut x))) ++ t.thrs.flatMap (fun x => lineT (.thr x))) ++ t.sites.flatMap (fun x => lineT (.site x))) ++ (t.events.take k).flatMap (fun x => lineT (.event x))) ++ lineT (.event x)) := Lib.hid (by rw [flatMap_take_succ hx]; exact (List.append_assoc _ _ _).symm)
                              have HFT : Hid ((((((((([] : List UInt8) ++ t.cells.flatMap (fun x => lineT (.cell x))) ++ t.locks.flatMap (fun x => lineT (.lock x))) ++ t.conds.flatMap (fun x => lineT (.cond x))) ++ t.futs.flatMap (fun x => lineT (.fut x))) ++ t.thrs.flatMap (fun x => lineT (.thr x))) ++ t.sites.flatMap (fun x => lineT (.site x))) ++ (t.events.take k).flatMap (fun x => lineT (.event x))).length + (lineT (.event x)).length ≤ 100000000000000) := Lib.hid (by have h1 := take_fits (g := (fun x => lineT (.event x))) hx; have h2 := HLEN.out; simp only [List.length_append, List.length_nil] at h1 ⊢; omega)
                              have lk : (k : Int) < (t.events.length : Int) := by omega
                              have lm : (k : Int) < 9223372036854775807 := by have := HM6.out; omega
                              generalize hpq : ((((((([] : List UInt8) ++ t.cells.flatMap (fun x => lineT (.cell x))) ++ t.locks.flatMap (fun x => lineT (.lock x))) ++ t.conds.flatMap (fun x => lineT (.cond x))) ++ t.futs.flatMap (fun x => lineT (.fut x))) ++ t.thrs.flatMap (fun x => lineT (.thr x))) ++ t.sites.flatMap (fun x => lineT (.site x))) ++ (t.events.take k).flatMap (fun x => lineT (.event x)) = pq at *
                              clear hpq
                              have HIX := Lib.hid (HOK.out.2.2.2 x (List.mem_of_getElem? hx))
                              obtain ⟨⟨d1, d2⟩, hd⟩ : ∃ d, ds[k]? = some d := ⟨_, List.getElem?_eq_getElem (by have := HDL.out; omega)⟩
                              have HJ := Lib.hid (HEV.out k x (d1, d2) hx hd)
                              have HKX := Lib.hid (HK.out x (List.mem_of_getElem? hx))
                              have z1 : (t.events.zip ds)[k]? = some (x, d1, d2) := by rw [List.getElem?_zip_eq_some]; exact ⟨hx, hd⟩
                              obtain ⟨b1, o1, rfl, hb1, g1⟩ := (HR6.out.keep (HBK.out _ HKW.out)).flat (g := evC) (m := 7) (fun _ => rfl) (by omega) z1
                              clear hx hd z1
                              obtain ⟨B1, e1, t1, -⟩ := id HJ.out.1
                              obtain ⟨B2, e2, t2, -⟩ := id HJ.out.2
                              simp only at t1 t2
                              subst t1 t2
                              obtain ⟨th, kd, ob, va, si, dp, fr⟩ := x
                              obtain ⟨kk, rfl⟩ : ∃ n : Nat, kd = (n : Int) := ⟨kd.toNat, by have := HKX.out.1.1; simp only at this; omega⟩
                              have y0 : wr.cell? ⟨b1, o1 + k * 7, none⟩ = some (.int .i64 th) := g1 0 _ rfl
                              have y1 : wr.cell? ⟨b1, o1 + k * 7 + 1, none⟩ = some (.int .i64 (kk : Int)) := g1 1 _ rfl
                              have y2 : wr.cell? ⟨b1, o1 + k * 7 + 2, none⟩ = some (.int .i64 ob) := g1 2 _ rfl
                              have y3 : wr.cell? ⟨b1, o1 + k * 7 + 3, none⟩ = some (.int .i64 va) := g1 3 _ rfl
                              have y4 : wr.cell? ⟨b1, o1 + k * 7 + 4, none⟩ = some (.int .i64 si) := g1 4 _ rfl
                              have y5 : wr.cell? ⟨b1, o1 + k * 7 + 5, none⟩ = some (.slice B1 dp.length e1) := g1 5 _ rfl
                              have y6 : wr.cell? ⟨b1, o1 + k * 7 + 6, none⟩ = some (.slice B2 fr.length e2) := g1 6 _ rfl
                              clear g1 hb1
                              have hba : Below wr.heap.size wr (wr.alloc (.cells #[.int .i64 th, .int .i64 (kk : Int), .int .i64 ob, .int .i64 va, .int .i64 si, .slice B1 dp.length e1, .slice B2 fr.length e2] 53)) := (Below.refl _ _).alloc (Nat.le_refl _) _
                              have HXA := Lib.hid (Blk.new wr 53 #[.int .i64 th, .int .i64 (kk : Int), .int .i64 ob, .int .i64 va, .int .i64 si, .slice B1 dp.length e1, .slice B2 fr.length e2])
                              have HWA := Lib.hid (HWR.out.keep hba)
                              have HKA := Lib.hid (HKW.out.trans (Kept.of_below (B := b) (b := b) hba (by have := HWB.out; have := HKW.out.below.size; omega)))
                              clear hba
                              go_upto_region 41 with fail
                              generalize wr.alloc (.cells #[.int .i64 th, .int .i64 (kk : Int), .int .i64 ob, .int .i64 va, .int .i64 si, .slice B1 dp.length e1, .slice B2 fr.length e2] 53) = wa at *
                              generalize wr.heap.size = ga at *
                              clear y0 y1 y2 y3 y4 y5 y6
                              have p0 := HXA.out.cell 0
                              have p1 := HXA.out.cell 1
                              have p2 := HXA.out.cell 2
                              have p3 := HXA.out.cell 3
                              have p4 := HXA.out.cell 4
                              have p5 := HXA.out.cell 5
                              have p6 := HXA.out.cell 6
                              simp only [List.getElem?_toArray, List.getElem?_cons_zero, List.getElem?_cons_succ] at p0 p1 p2 p3 p4 p5 p6
                              have HCL := Lib.hid (wevent_any b b pq th ob va si kk dp fr B1 B2 e1 e2 wa HWA.out (HPK.out _ HKA.out) (by have := HKX.out.1.1; simp only at this; omega) (by have := HKX.out.1.2; simp only at this; omega) HIX.out.1 HIX.out.2.2.1 HIX.out.2.2.2.1 HIX.out.2.2.2.2 (HJ.out.1.keep (HBK.out _ HKA.out)) (HJ.out.2.keep (HBK.out _ HKA.out)) HKX.out.2 (by have := HFT.out; omega) (by have := HWB.out; have := HKA.out.below.size; omega))
                              go_wp2_with fail
                              refine HCL.out.mono ?_
                              rintro e w9 ⟨rfl, h9, hk9⟩
                              have HW9 := Lib.hid h9
                              have HK9 := Lib.hid (HKA.out.trans hk9)
                              clear h9 hk9 p0 p1 p2 p3 p4 p5 p6
                              go_wp2_with fail
                              go_roundw
                              case rel => exact ⟨k + 1, by omega, by go_num, by rw [HTS.out]; exact HW9, HK9⟩
                              case measure => simp [intOf]; omega
                            · obtain rfl : k = t.events.length := by omega
                              have lk : ¬ ((t.events.length : Int) < (t.events.length : Int)) := by omega
                              rw [List.take_length] at HWR
                              clear hlt hkl
                              rw [← HTE.out] at HWR
                              have HBF := Lib.hid (HBK.out wr HKW.out)
                              rcases HWR.out with ⟨e0, hB0, hbk⟩ | ⟨e0, hbd⟩
                              · go_wp2_with fail
                                refine (stringW_nil b b _ wr hbk).mono ?_
                                rintro e w9 ⟨rfl, h9⟩
                                go_wp2_with fail
                                go_ret
                                exact ⟨by rw [e0]; rfl, HBF.out.trans (h9.mono (by have := HWB.out; omega))⟩
                              · go_wp2_with fail
                                refine (stringW_some b b _ wr hbd e0).mono ?_
                                rintro e w9 ⟨rfl, h9⟩
                                go_wp2_with fail
                                go_ret
                                exact ⟨rfl, HBF.out.trans (h9.mono (by have := HWB.out; omega))⟩
end Go.Proofs.YtmnjmegejaejlaaDoor
