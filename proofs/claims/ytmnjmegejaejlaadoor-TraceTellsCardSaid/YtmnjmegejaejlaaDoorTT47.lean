/-
  WALK: interleaveref16.Format.
-/
import Derived.Test.YtmnjmegejaejlaaDoorTT46
import Derived.Test.YtmnjmegejaejlaaDoorTT44
import Derived.Test.YtmnjmegejaejlaaDoorTT37
namespace Go.Proofs.YtmnjmegejaejlaaDoor
open Go.RowKit

theorem numsP_textR (w : List UInt8) (l : List Int) (hw : w.length = 4) (h : ∀ x ∈ l, I64 x) : (tailS (numsP w l)).length ≤ 5 + 22 * l.length := by
  unfold numsP
  split
  · simp [tailS]
  · rw [tailS_cons, tailS_mapN]
    have := numsText_len l h
    simp only [List.length_append, List.length_cons]; omega
theorem kind_lenR {k : Nat} (h : k < 23) : (kindW ((k : Int) + 1)).length ≤ 12 := by
  have hm := (kind_all (k := (k : Int) + 1) (by omega)).2.2.2
  have key : ∀ s ∈ kindsL, s.length ≤ 12 := by decide
  exact key _ hm
theorem tailS_nilR : tailS [] = [] := rfl
theorem kinds_cell {k : Nat} {s : List UInt8} (h : kindsL[k]? = some s) (w : World) : (w.alloc (.cells (strV kindsL).toArray 9)).cell? ⟨w.heap.size, k, none⟩ = some (.string ⟨s.toArray⟩) := by
  have h1 := (Blk.new w 9 (strV kindsL).toArray).cell k
  rw [h1, List.getElem?_toArray]
  unfold strV
  rw [List.getElem?_map, h]
  rfl
set_option maxRecDepth 100000 in
set_option maxHeartbeats 32000000 in
theorem rformat_any (t : Trc) (vv : Value) (w : World) (ht : IsTrc w vv t) (hp : PT w) (hk : ∀ e ∈ t.events, (1 ≤ e.kind ∧ e.kind ≤ 23) ∧ e.deps.length + e.frm.length ≤ 1000000000) (hlen : (textT t).length ≤ 100000000000000) :
    Calls Tryd.prog 13 #[vv] w fun e w' => e = .returned (.string ⟨(textT t).toArray⟩) ∧ Below w.heap.size w w' := by
  obtain ⟨v, ds, rfl, hv, hdl, hev, hok⟩ := ht
  obtain ⟨A0, c0, f0, ga0, ka0, ra0⟩ := hv 0 (by omega)
  obtain ⟨A1, c1, f1, ga1, ka1, ra1⟩ := hv 1 (by omega)
  obtain ⟨A2, c2, f2, ga2, ka2, ra2⟩ := hv 2 (by omega)
  obtain ⟨A3, c3, f3, ga3, ka3, ra3⟩ := hv 3 (by omega)
  obtain ⟨A4, c4, f4, ga4, ka4, ra4⟩ := hv 4 (by omega)
  obtain ⟨A5, c5, f5, ga5, ka5, ra5⟩ := hv 5 (by omega)
  obtain ⟨A6, c6, f6, ga6, ka6, ra6⟩ := hv 6 (by omega)
  rw [f0, f1, f2, f3, f4, f5, f6]
  have HR0 : Hid (Rd w A0 (t.cells.flatMap Cel.cells)) := Lib.hid ra0
  have HM0 : Hid (t.cells.length ≤ 9223372036854775807) := Lib.hid (by have h1 : t.cells.length ≤ c0 := ga0; unfold maxLen at ka0; omega)
  have HR1 : Hid (Rd w A1 (t.locks.flatMap Lck.cells)) := Lib.hid ra1
  have HM1 : Hid (t.locks.length ≤ 9223372036854775807) := Lib.hid (by have h1 : t.locks.length ≤ c1 := ga1; unfold maxLen at ka1; omega)
  have HR2 : Hid (Rd w A2 (t.conds.flatMap Cnd.cells)) := Lib.hid ra2
  have HM2 : Hid (t.conds.length ≤ 9223372036854775807) := Lib.hid (by have h1 : t.conds.length ≤ c2 := ga2; unfold maxLen at ka2; omega)
  have HR3 : Hid (Rd w A3 (t.futs.flatMap strC)) := Lib.hid ra3
  have HM3 : Hid (t.futs.length ≤ 9223372036854775807) := Lib.hid (by have h1 : t.futs.length ≤ c3 := ga3; unfold maxLen at ka3; omega)
  have HR4 : Hid (Rd w A4 (t.thrs.flatMap strC)) := Lib.hid ra4
  have HM4 : Hid (t.thrs.length ≤ 9223372036854775807) := Lib.hid (by have h1 : t.thrs.length ≤ c4 := ga4; unfold maxLen at ka4; omega)
  have HR5 : Hid (Rd w A5 (t.sites.flatMap Sit.cells)) := Lib.hid ra5
  have HM5 : Hid (t.sites.length ≤ 9223372036854775807) := Lib.hid (by have h1 : t.sites.length ≤ c5 := ga5; unfold maxLen at ka5; omega)
  have HR6 : Hid (Rd w A6 ((t.events.zip ds).flatMap evC)) := Lib.hid ra6
  have HM6 : Hid (t.events.length ≤ 9223372036854775807) := Lib.hid (by have h1 : t.events.length ≤ c6 := ga6; unfold maxLen at ka6; omega)
  show Calls Tryd.prog 13 #[.agg #[.slice A0 t.cells.length c0, .slice A1 t.locks.length c1, .slice A2 t.conds.length c2, .slice A3 t.futs.length c3, .slice A4 t.thrs.length c4, .slice A5 t.sites.length c5, .slice A6 t.events.length c6]] w _
  have hb1 : Below w.heap.size w (w.alloc (.cells #[.slice A0 t.cells.length c0, .slice A1 t.locks.length c1, .slice A2 t.conds.length c2, .slice A3 t.futs.length c3, .slice A4 t.thrs.length c4, .slice A5 t.sites.length c5, .slice A6 t.events.length c6] 31)) := (Below.refl _ _).alloc (Nat.le_refl _) _
  have hb2 := hb1.alloc hb1.size (.cells #[.slice A0 t.cells.length c0, .slice A1 t.locks.length c1, .slice A2 t.conds.length c2, .slice A3 t.futs.length c3, .slice A4 t.thrs.length c4, .slice A5 t.sites.length c5] 28)
  have hx1 := (Blk.new w 31 #[.slice A0 t.cells.length c0, .slice A1 t.locks.length c1, .slice A2 t.conds.length c2, .slice A3 t.futs.length c3, .slice A4 t.thrs.length c4, .slice A5 t.sites.length c5, .slice A6 t.events.length c6]).alloc (.cells #[.slice A0 t.cells.length c0, .slice A1 t.locks.length c1, .slice A2 t.conds.length c2, .slice A3 t.futs.length c3, .slice A4 t.thrs.length c4, .slice A5 t.sites.length c5] 28)
  have hx2 := Blk.new (w.alloc (.cells #[.slice A0 t.cells.length c0, .slice A1 t.locks.length c1, .slice A2 t.conds.length c2, .slice A3 t.futs.length c3, .slice A4 t.thrs.length c4, .slice A5 t.sites.length c5, .slice A6 t.events.length c6] 31)) 28 #[.slice A0 t.cells.length c0, .slice A1 t.locks.length c1, .slice A2 t.conds.length c2, .slice A3 t.futs.length c3, .slice A4 t.thrs.length c4, .slice A5 t.sites.length c5]
  rw [show ∀ (a : World) (o : Obj), (a.alloc o).heap.size = a.heap.size + 1 from fun a o => by simp] at hx2
  have HB2 := Lib.hid hb2
  have HX := Lib.hid hx1
  have HXW := Lib.hid hx2
  have HPT := Lib.hid (hp.below hb2)
  have HK := Lib.hid hk
  have HEV := Lib.hid hev
  have HDL := Lib.hid hdl
  have HOK := Lib.hid hok
  have HLEN : Hid ((t.cells.flatMap (fun x => lineT (.cell x))).length + (t.locks.flatMap (fun x => lineT (.lock x))).length + (t.conds.flatMap (fun x => lineT (.cond x))).length + (t.futs.flatMap (fun x => lineT (.fut x))).length + (t.thrs.flatMap (fun x => lineT (.thr x))).length + (t.sites.flatMap (fun x => lineT (.site x))).length + (t.events.flatMap (fun x => lineT (.event x))).length ≤ 100000000000000) := Lib.hid (by rw [textT_eq] at hlen; simp only [List.length_append, List.length_nil] at hlen; omega)
  have HTE := Lib.hid (textT_eq t)
  clear hv hdl hev hok hb1 hb2 hx1 hx2 hp hk hlen f0 ga0 ka0 ra0 f1 ga1 ka1 ra1 f2 ga2 ka2 ra2 f3 ga3 ka3 ra3 f4 ga4 ka4 ra4 f5 ga5 ka5 ra5 f6 ga6 ka6 ra6
  go_enter Tryd.func13, Tryd.ntmps13
  go_upto_region 2 with fail
  generalize (w.alloc (.cells #[.slice A0 t.cells.length c0, .slice A1 t.locks.length c1, .slice A2 t.conds.length c2, .slice A3 t.futs.length c3, .slice A4 t.thrs.length c4, .slice A5 t.sites.length c5, .slice A6 t.events.length c6] 31)).alloc (.cells #[.slice A0 t.cells.length c0, .slice A1 t.locks.length c1, .slice A2 t.conds.length c2, .slice A3 t.futs.length c3, .slice A4 t.thrs.length c4, .slice A5 t.sites.length c5] 28) = W at *
  have HWX : Hid (w.heap.size < W.heap.size ∧ w.heap.size + 1 < W.heap.size) := Lib.hid ⟨HX.out.lt, HXW.out.lt⟩
  generalize hxb : w.heap.size = xb at *
  have HWS : Hid (w.heap.size = xb) := Lib.hid hxb
  clear hxb
  have HWK : Hid (∀ w', Below W.heap.size W w' → Below w.heap.size w w') := Lib.hid (fun w' h => by rw [HWS.out]; exact HB2.out.trans (h.mono (by have := HWX.out; omega)))
  clear HB2
  go_wp2_with fail
  go_loopw [4, 5] (fun sv iv wr => ∃ k : Nat, k ≤ t.cells.length ∧ iv = .int .i64 (k : Int) ∧ sv = .string ⟨(([] : List UInt8) ++ (t.cells.take k).flatMap (fun x => lineT (.cell x))).toArray⟩ ∧ Hid (Below W.heap.size W wr)) (fun _ iv _ => t.cells.length - (intOf iv).toNat)
  case atStart => exact ⟨0, by omega, rfl, by simp, Lib.hid (Below.refl _ _)⟩
  case round =>
    obtain ⟨k, hkl, rfl, rfl, HKW⟩ := hrel
    have q0 := (HXW.out.keep HKW.out).cell 0
    simp only [List.getElem?_toArray, List.getElem?_cons_zero] at q0
    by_cases hlt : k < t.cells.length
    · obtain ⟨x, hx⟩ : ∃ x, t.cells[k]? = some x := ⟨_, List.getElem?_eq_getElem hlt⟩
      have HTS : Hid (([] : List UInt8) ++ (t.cells.take (k + 1)).flatMap (fun x => lineT (.cell x)) = (([] : List UInt8) ++ (t.cells.take k).flatMap (fun x => lineT (.cell x))) ++ lineT (.cell x)) := Lib.hid (by rw [flatMap_take_succ hx]; exact (List.append_assoc _ _ _).symm)
      have HFT : Hid ((([] : List UInt8) ++ (t.cells.take k).flatMap (fun x => lineT (.cell x))).length + (lineT (.cell x)).length ≤ 100000000000000) := Lib.hid (by have h1 := take_fits (g := (fun x => lineT (.cell x))) hx; have h2 := HLEN.out; simp only [List.length_append, List.length_nil] at h1 ⊢; omega)
      have lk : (k : Int) < (t.cells.length : Int) := by omega
      have lm : (k : Int) < 9223372036854775807 := by have := HM0.out; omega
      generalize hpq : ([] : List UInt8) ++ (t.cells.take k).flatMap (fun x => lineT (.cell x)) = pq at *
      clear hpq
      have HIX := Lib.hid (HOK.out.1 x (List.mem_of_getElem? hx))
      obtain ⟨b1, o1, e1, hb1, g1⟩ := (HR0.out.keep (HWK.out _ HKW.out)).flat (g := Cel.cells) (m := 5) (fun _ => rfl) (by omega) hx
      subst e1
      clear hx
      obtain ⟨nm, ix, sz, vo, ini⟩ := x
      have hz2 : nm.length ≤ 100000000000000 := by have := HFT.out; simp only [lineT, Item.args, tailS, List.flatMap_cons, List.flatMap_nil, List.length_append, List.length_cons, List.length_nil] at this; omega
      have hz1 : pq.length ≤ 100000000000000 := by have := HFT.out; omega
      obtain ⟨l_ix, hg_ix⟩ : ∃ q : List UInt8, 32 :: Lib.itoa ix = q := ⟨_, rfl⟩
      have hl_ix : l_ix.length ≤ 22 := by rw [← hg_ix]; have := itoa_len ix HIX.out.1; simp; omega
      have HG_ix := Lib.hid hg_ix
      clear hg_ix
      obtain ⟨l_sz, hg_sz⟩ : ∃ q : List UInt8, 32 :: Lib.itoa sz = q := ⟨_, rfl⟩
      have hl_sz : l_sz.length ≤ 22 := by rw [← hg_sz]; have := itoa_len sz HIX.out.2.1; simp; omega
      have HG_sz := Lib.hid hg_sz
      clear hg_sz
      obtain ⟨l_ini, hg_ini⟩ : ∃ q : List UInt8, Lib.itoa ini = q := ⟨_, rfl⟩
      have hl_ini : l_ini.length ≤ 22 := by rw [← hg_ini]; have := itoa_len ini HIX.out.2.2; simp; omega
      have HG_ini := Lib.hid hg_ini
      clear hg_ini
      have y0 : wr.cell? ⟨b1, o1 + k * 5, none⟩ = some (.string ⟨nm.toArray⟩) := by exact g1 0 _ rfl
      have y1 : wr.cell? ⟨b1, o1 + k * 5 + 1, none⟩ = some (.int .i64 ix) := by exact g1 1 _ rfl
      have y2 : wr.cell? ⟨b1, o1 + k * 5 + 2, none⟩ = some (.int .i64 sz) := by exact g1 2 _ rfl
      have y3 : wr.cell? ⟨b1, o1 + k * 5 + 3, none⟩ = some (.bool vo) := by exact g1 3 _ rfl
      have y4 : wr.cell? ⟨b1, o1 + k * 5 + 4, none⟩ = some (.int .i64 ini) := by exact g1 4 _ rfl
      clear g1
      cases vo with
      | false =>
        have hba : Below wr.heap.size wr (wr.alloc (.cells #[.string ⟨nm.toArray⟩, .int .i64 ix, .int .i64 sz, .bool false, .int .i64 ini] 55)) := (Below.refl _ _).alloc (Nat.le_refl _) _
        have HXA := Lib.hid (Blk.new wr 55 #[.string ⟨nm.toArray⟩, .int .i64 ix, .int .i64 sz, .bool false, .int .i64 ini])
        have HKA := Lib.hid (HKW.out.trans (hba.mono HKW.out.size))
        clear hba hb1
        go_upto_region 10 with fail
        generalize wr.alloc (.cells #[.string ⟨nm.toArray⟩, .int .i64 ix, .int .i64 sz, .bool false, .int .i64 ini] 55) = wa at *
        generalize wr.heap.size = ga at *
        clear y0 y1 y2 y3 y4
        have HC : Hid (∀ w', Below wa.heap.size wa w' → w'.cell? ⟨ga, 0, none⟩ = some (.string ⟨nm.toArray⟩) ∧ w'.cell? ⟨ga, 1, none⟩ = some (.int .i64 ix) ∧ w'.cell? ⟨ga, 2, none⟩ = some (.int .i64 sz) ∧ w'.cell? ⟨ga, 3, none⟩ = some (.bool false) ∧ w'.cell? ⟨ga, 4, none⟩ = some (.int .i64 ini)) := Lib.hid (fun w' h => ⟨(HXA.out.keep h).cell 0, (HXA.out.keep h).cell 1, (HXA.out.keep h).cell 2, (HXA.out.keep h).cell 3, (HXA.out.keep h).cell 4⟩)
        have hx0 := (Below.refl wa.heap.size wa).drew
        have hs0 := HC.out _ hx0
        have HIT : Hid (∀ (n : Int), I64 n → ∀ w', Below wa.heap.size wa w' → Calls Tryd.prog 27 #[.int .i64 n] w' fun e w2 => e = .returned (.string ⟨(32 :: Lib.itoa n).toArray⟩) ∧ Below w'.heap.size w' w2) := Lib.hid (fun n hn w' h => rnum_any n w' hn ((HPT.out.below HKA.out).below h).tab)
        have HFI : Hid (∀ (n : Int), I64 n → ∀ w', Below wa.heap.size wa w' → Calls Tryd.prog 24 #[.int .i64 n, .int .i64 10] w' fun e w2 => e = .returned (.string ⟨(Lib.itoa n).toArray⟩) ∧ Below w'.heap.size w' w2) := Lib.hid (fun n hn w' h => fint_any n w' hn ((HPT.out.below HKA.out).below h).tab)
        have fb0 : (9223372036854775807 < pq.length + 5) = False := eq_false (by omega)
        have fb1 : (9223372036854775807 < pq.length + 5 + nm.length) = False := eq_false (by omega)
        have fb2 : (9223372036854775807 < pq.length + 5 + nm.length + l_ix.length) = False := eq_false (by omega)
        have fb3 : (9223372036854775807 < pq.length + 5 + nm.length + l_ix.length + l_sz.length) = False := eq_false (by omega)
        have fb4 : (9223372036854775807 < pq.length + 5 + nm.length + l_ix.length + l_sz.length + 1) = False := eq_false (by omega)
        have fb5 : (9223372036854775807 < pq.length + 5 + nm.length + l_ix.length + l_sz.length + 1 + l_ini.length) = False := eq_false (by omega)
        have fb6 : (9223372036854775807 < pq.length + 5 + nm.length + l_ix.length + l_sz.length + 1 + l_ini.length + 1) = False := eq_false (by omega)
        go_region_held3 (fun w' => w'.cell? ⟨ga, 0, none⟩ = some (.string ⟨nm.toArray⟩) ∧ w'.cell? ⟨ga, 1, none⟩ = some (.int .i64 ix) ∧ w'.cell? ⟨ga, 2, none⟩ = some (.int .i64 sz) ∧ w'.cell? ⟨ga, 3, none⟩ = some (.bool false) ∧ w'.cell? ⟨ga, 4, none⟩ = some (.int .i64 ini)) (with_reducible assumption) (first
          | (go_at_call 27; refine (HIT.out ix HIX.out.1 _ hx0).mono ?_; rw [HG_ix.out]; rintro e w1 ⟨rfl, hb1⟩; have hx1 := hx0.trans (hb1.mono hx0.size); have hs1 := HC.out w1 hx1)
          | (go_at_call 27; refine (HIT.out sz HIX.out.2.1 _ hx1).mono ?_; rw [HG_sz.out]; rintro e w2 ⟨rfl, hb2⟩; have hx2 := hx1.trans (hb2.mono hx1.size); have hs2 := HC.out w2 hx2)
          | (go_at_call 24; refine (HFI.out ini HIX.out.2.2 _ hx2).mono ?_; rw [HG_ini.out]; rintro e w3 ⟨rfl, hb3⟩; have hx3 := hx2.trans (hb3.mono hx2.size); have hs3 := HC.out w3 hx3))
        have HKZ := Lib.hid (HKA.out.trans (hx3.mono HKA.out.size))
        clear fb0 fb1 fb2 fb3 fb4 fb5 fb6 HC HIT hs0 hx0 hs1 hx1 hb1 hs2 hx2 hb2 hs3 hx3 hb3
        go_wp2_with fail
        go_roundw
        case rel => exact ⟨k + 1, by omega, by go_num, by refine congrArg Value.string ?_; rw [HTS.out]; rw [← HG_ix.out, ← HG_sz.out, ← HG_ini.out]; simp only [str_app]; simp [lineT, Item.head, Item.args, tailS, wCell], HKZ⟩
        case measure => simp [intOf]; omega
      | true =>
        have hba : Below wr.heap.size wr (wr.alloc (.cells #[.string ⟨nm.toArray⟩, .int .i64 ix, .int .i64 sz, .bool true, .int .i64 ini] 55)) := (Below.refl _ _).alloc (Nat.le_refl _) _
        have HXA := Lib.hid (Blk.new wr 55 #[.string ⟨nm.toArray⟩, .int .i64 ix, .int .i64 sz, .bool true, .int .i64 ini])
        have HKA := Lib.hid (HKW.out.trans (hba.mono HKW.out.size))
        clear hba hb1
        go_upto_region 10 with fail
        generalize wr.alloc (.cells #[.string ⟨nm.toArray⟩, .int .i64 ix, .int .i64 sz, .bool true, .int .i64 ini] 55) = wa at *
        generalize wr.heap.size = ga at *
        clear y0 y1 y2 y3 y4
        have HC : Hid (∀ w', Below wa.heap.size wa w' → w'.cell? ⟨ga, 0, none⟩ = some (.string ⟨nm.toArray⟩) ∧ w'.cell? ⟨ga, 1, none⟩ = some (.int .i64 ix) ∧ w'.cell? ⟨ga, 2, none⟩ = some (.int .i64 sz) ∧ w'.cell? ⟨ga, 3, none⟩ = some (.bool true) ∧ w'.cell? ⟨ga, 4, none⟩ = some (.int .i64 ini)) := Lib.hid (fun w' h => ⟨(HXA.out.keep h).cell 0, (HXA.out.keep h).cell 1, (HXA.out.keep h).cell 2, (HXA.out.keep h).cell 3, (HXA.out.keep h).cell 4⟩)
        have hx0 := (Below.refl wa.heap.size wa).drew
        have hs0 := HC.out _ hx0
        have HIT : Hid (∀ (n : Int), I64 n → ∀ w', Below wa.heap.size wa w' → Calls Tryd.prog 27 #[.int .i64 n] w' fun e w2 => e = .returned (.string ⟨(32 :: Lib.itoa n).toArray⟩) ∧ Below w'.heap.size w' w2) := Lib.hid (fun n hn w' h => rnum_any n w' hn ((HPT.out.below HKA.out).below h).tab)
        have HFI : Hid (∀ (n : Int), I64 n → ∀ w', Below wa.heap.size wa w' → Calls Tryd.prog 24 #[.int .i64 n, .int .i64 10] w' fun e w2 => e = .returned (.string ⟨(Lib.itoa n).toArray⟩) ∧ Below w'.heap.size w' w2) := Lib.hid (fun n hn w' h => fint_any n w' hn ((HPT.out.below HKA.out).below h).tab)
        have fb0 : (9223372036854775807 < pq.length + 9) = False := eq_false (by omega)
        have fb1 : (9223372036854775807 < pq.length + 9 + nm.length) = False := eq_false (by omega)
        have fb2 : (9223372036854775807 < pq.length + 9 + nm.length + l_ix.length) = False := eq_false (by omega)
        have fb3 : (9223372036854775807 < pq.length + 9 + nm.length + l_ix.length + l_sz.length) = False := eq_false (by omega)
        have fb4 : (9223372036854775807 < pq.length + 9 + nm.length + l_ix.length + l_sz.length + 1) = False := eq_false (by omega)
        have fb5 : (9223372036854775807 < pq.length + 9 + nm.length + l_ix.length + l_sz.length + 1 + l_ini.length) = False := eq_false (by omega)
        have fb6 : (9223372036854775807 < pq.length + 9 + nm.length + l_ix.length + l_sz.length + 1 + l_ini.length + 1) = False := eq_false (by omega)
        go_region_held3 (fun w' => w'.cell? ⟨ga, 0, none⟩ = some (.string ⟨nm.toArray⟩) ∧ w'.cell? ⟨ga, 1, none⟩ = some (.int .i64 ix) ∧ w'.cell? ⟨ga, 2, none⟩ = some (.int .i64 sz) ∧ w'.cell? ⟨ga, 3, none⟩ = some (.bool true) ∧ w'.cell? ⟨ga, 4, none⟩ = some (.int .i64 ini)) (with_reducible assumption) (first
          | (go_at_call 27; refine (HIT.out ix HIX.out.1 _ hx0).mono ?_; rw [HG_ix.out]; rintro e w1 ⟨rfl, hb1⟩; have hx1 := hx0.trans (hb1.mono hx0.size); have hs1 := HC.out w1 hx1)
          | (go_at_call 27; refine (HIT.out sz HIX.out.2.1 _ hx1).mono ?_; rw [HG_sz.out]; rintro e w2 ⟨rfl, hb2⟩; have hx2 := hx1.trans (hb2.mono hx1.size); have hs2 := HC.out w2 hx2)
          | (go_at_call 24; refine (HFI.out ini HIX.out.2.2 _ hx2).mono ?_; rw [HG_ini.out]; rintro e w3 ⟨rfl, hb3⟩; have hx3 := hx2.trans (hb3.mono hx2.size); have hs3 := HC.out w3 hx3))
        have HKZ := Lib.hid (HKA.out.trans (hx3.mono HKA.out.size))
        clear fb0 fb1 fb2 fb3 fb4 fb5 fb6 HC HIT hs0 hx0 hs1 hx1 hb1 hs2 hx2 hb2 hs3 hx3 hb3
        go_wp2_with fail
        go_roundw
        case rel => exact ⟨k + 1, by omega, by go_num, by refine congrArg Value.string ?_; rw [HTS.out]; rw [← HG_ix.out, ← HG_sz.out, ← HG_ini.out]; simp only [str_app]; simp [lineT, Item.head, Item.args, tailS, wVol], HKZ⟩
        case measure => simp [intOf]; omega
    · obtain rfl : k = t.cells.length := by omega
      have lk : ¬ ((t.cells.length : Int) < (t.cells.length : Int)) := by omega
      clear hlt hkl
      rw [List.take_length]
      go_wp2_with fail
      clear q0
      go_loopw [4, 8] (fun sv iv wr => ∃ k : Nat, k ≤ t.locks.length ∧ iv = .int .i64 (k : Int) ∧ sv = .string ⟨((([] : List UInt8) ++ t.cells.flatMap (fun x => lineT (.cell x))) ++ (t.locks.take k).flatMap (fun x => lineT (.lock x))).toArray⟩ ∧ Hid (Below W.heap.size W wr)) (fun _ iv _ => t.locks.length - (intOf iv).toNat)
      case atStart => exact ⟨0, by omega, rfl, by simp, HKW⟩
      case round =>
        obtain ⟨k, hkl, rfl, rfl, HKW⟩ := hrel
        have q1 := (HXW.out.keep HKW.out).cell 1
        simp only [List.getElem?_toArray, List.getElem?_cons_zero, List.getElem?_cons_succ] at q1
        by_cases hlt : k < t.locks.length
        · obtain ⟨x, hx⟩ : ∃ x, t.locks[k]? = some x := ⟨_, List.getElem?_eq_getElem hlt⟩
          have HTS : Hid ((([] : List UInt8) ++ t.cells.flatMap (fun x => lineT (.cell x))) ++ (t.locks.take (k + 1)).flatMap (fun x => lineT (.lock x)) = ((([] : List UInt8) ++ t.cells.flatMap (fun x => lineT (.cell x))) ++ (t.locks.take k).flatMap (fun x => lineT (.lock x))) ++ lineT (.lock x)) := Lib.hid (by rw [flatMap_take_succ hx]; exact (List.append_assoc _ _ _).symm)
          have HFT : Hid (((([] : List UInt8) ++ t.cells.flatMap (fun x => lineT (.cell x))) ++ (t.locks.take k).flatMap (fun x => lineT (.lock x))).length + (lineT (.lock x)).length ≤ 100000000000000) := Lib.hid (by have h1 := take_fits (g := (fun x => lineT (.lock x))) hx; have h2 := HLEN.out; simp only [List.length_append, List.length_nil] at h1 ⊢; omega)
          have lk : (k : Int) < (t.locks.length : Int) := by omega
          have lm : (k : Int) < 9223372036854775807 := by have := HM1.out; omega
          generalize hpq : (([] : List UInt8) ++ t.cells.flatMap (fun x => lineT (.cell x))) ++ (t.locks.take k).flatMap (fun x => lineT (.lock x)) = pq at *
          clear hpq
          obtain ⟨b1, o1, e1, hb1, g1⟩ := (HR1.out.keep (HWK.out _ HKW.out)).flat (g := Lck.cells) (m := 2) (fun _ => rfl) (by omega) hx
          subst e1
          clear hx
          obtain ⟨nm, rw⟩ := x
          have hz2 : nm.length ≤ 100000000000000 := by have := HFT.out; simp only [lineT, Item.args, tailS, List.flatMap_cons, List.flatMap_nil, List.length_append, List.length_cons, List.length_nil] at this; omega
          have hz1 : pq.length ≤ 100000000000000 := by have := HFT.out; omega
          have y0 : wr.cell? ⟨b1, o1 + k * 2, none⟩ = some (.string ⟨nm.toArray⟩) := by exact g1 0 _ rfl
          have y1 : wr.cell? ⟨b1, o1 + k * 2 + 1, none⟩ = some (.bool rw) := by exact g1 1 _ rfl
          clear g1
          cases rw with
          | false =>
            have HKZ := HKW
            go_wp2_with fail
            go_roundw
            case rel => exact ⟨k + 1, by omega, by go_num, by refine congrArg Value.string ?_; rw [HTS.out]; simp only [str_app]; simp [lineT, Item.head, Item.args, tailS, wMutex], HKZ⟩
            case measure => simp [intOf]; omega
          | true =>
            have HKZ := HKW
            go_wp2_with fail
            go_roundw
            case rel => exact ⟨k + 1, by omega, by go_num, by refine congrArg Value.string ?_; rw [HTS.out]; simp only [str_app]; simp [lineT, Item.head, Item.args, tailS, wRw], HKZ⟩
            case measure => simp [intOf]; omega
        · obtain rfl : k = t.locks.length := by omega
          have lk : ¬ ((t.locks.length : Int) < (t.locks.length : Int)) := by omega
          clear hlt hkl
          rw [List.take_length]
          go_wp2_with fail
          clear q1
          go_loopw [4, 10] (fun sv iv wr => ∃ k : Nat, k ≤ t.conds.length ∧ iv = .int .i64 (k : Int) ∧ sv = .string ⟨(((([] : List UInt8) ++ t.cells.flatMap (fun x => lineT (.cell x))) ++ t.locks.flatMap (fun x => lineT (.lock x))) ++ (t.conds.take k).flatMap (fun x => lineT (.cond x))).toArray⟩ ∧ Hid (Below W.heap.size W wr)) (fun _ iv _ => t.conds.length - (intOf iv).toNat)
          case atStart => exact ⟨0, by omega, rfl, by simp, HKW⟩
          case round =>
            obtain ⟨k, hkl, rfl, rfl, HKW⟩ := hrel
            have q2 := (HXW.out.keep HKW.out).cell 2
            simp only [List.getElem?_toArray, List.getElem?_cons_zero, List.getElem?_cons_succ] at q2
            by_cases hlt : k < t.conds.length
            · obtain ⟨x, hx⟩ : ∃ x, t.conds[k]? = some x := ⟨_, List.getElem?_eq_getElem hlt⟩
              have HTS : Hid (((([] : List UInt8) ++ t.cells.flatMap (fun x => lineT (.cell x))) ++ t.locks.flatMap (fun x => lineT (.lock x))) ++ (t.conds.take (k + 1)).flatMap (fun x => lineT (.cond x)) = (((([] : List UInt8) ++ t.cells.flatMap (fun x => lineT (.cell x))) ++ t.locks.flatMap (fun x => lineT (.lock x))) ++ (t.conds.take k).flatMap (fun x => lineT (.cond x))) ++ lineT (.cond x)) := Lib.hid (by rw [flatMap_take_succ hx]; exact (List.append_assoc _ _ _).symm)
              have HFT : Hid ((((([] : List UInt8) ++ t.cells.flatMap (fun x => lineT (.cell x))) ++ t.locks.flatMap (fun x => lineT (.lock x))) ++ (t.conds.take k).flatMap (fun x => lineT (.cond x))).length + (lineT (.cond x)).length ≤ 100000000000000) := Lib.hid (by have h1 := take_fits (g := (fun x => lineT (.cond x))) hx; have h2 := HLEN.out; simp only [List.length_append, List.length_nil] at h1 ⊢; omega)
              have lk : (k : Int) < (t.conds.length : Int) := by omega
              have lm : (k : Int) < 9223372036854775807 := by have := HM2.out; omega
              generalize hpq : ((([] : List UInt8) ++ t.cells.flatMap (fun x => lineT (.cell x))) ++ t.locks.flatMap (fun x => lineT (.lock x))) ++ (t.conds.take k).flatMap (fun x => lineT (.cond x)) = pq at *
              clear hpq
              have HIX := Lib.hid (HOK.out.2.1 x (List.mem_of_getElem? hx))
              obtain ⟨b1, o1, e1, hb1, g1⟩ := (HR2.out.keep (HWK.out _ HKW.out)).flat (g := Cnd.cells) (m := 2) (fun _ => rfl) (by omega) hx
              subst e1
              clear hx
              obtain ⟨nm, mx⟩ := x
              have hz2 : nm.length ≤ 100000000000000 := by have := HFT.out; simp only [lineT, Item.args, tailS, List.flatMap_cons, List.flatMap_nil, List.length_append, List.length_cons, List.length_nil] at this; omega
              have hz1 : pq.length ≤ 100000000000000 := by have := HFT.out; omega
              obtain ⟨l_mx, hg_mx⟩ : ∃ q : List UInt8, 32 :: Lib.itoa mx = q := ⟨_, rfl⟩
              have hl_mx : l_mx.length ≤ 22 := by rw [← hg_mx]; have := itoa_len mx HIX.out; simp; omega
              have HG_mx := Lib.hid hg_mx
              clear hg_mx
              have y0 : wr.cell? ⟨b1, o1 + k * 2, none⟩ = some (.string ⟨nm.toArray⟩) := by exact g1 0 _ rfl
              have y1 : wr.cell? ⟨b1, o1 + k * 2 + 1, none⟩ = some (.int .i64 mx) := by exact g1 1 _ rfl
              clear g1
              have HC : Hid (∀ w', Below wr.heap.size wr w' → w'.cell? ⟨xb + 1, 2, none⟩ = some (.slice (some ⟨b1, o1, none⟩) t.conds.length c2) ∧ w'.cell? ⟨b1, o1 + k * 2, none⟩ = some (.string ⟨nm.toArray⟩) ∧ w'.cell? ⟨b1, o1 + k * 2 + 1, none⟩ = some (.int .i64 mx)) := Lib.hid (fun w' h => ⟨(h.cell (p := ⟨xb + 1, 2, none⟩) (by have := HWX.out; have := HKW.out.size; show xb + 1 < wr.heap.size; omega)).trans q2, (h.cell (p := ⟨b1, o1 + k * 2, none⟩) hb1).trans y0, (h.cell (p := ⟨b1, o1 + k * 2 + 1, none⟩) hb1).trans y1⟩)
              clear hb1
              go_upto_region 21 with fail
              have hx0 := (Below.refl wr.heap.size wr).drew
              have hs0 := HC.out _ hx0
              have HIT : Hid (∀ (n : Int), I64 n → ∀ w', Below wr.heap.size wr w' → Calls Tryd.prog 27 #[.int .i64 n] w' fun e w2 => e = .returned (.string ⟨(32 :: Lib.itoa n).toArray⟩) ∧ Below w'.heap.size w' w2) := Lib.hid (fun n hn w' h => rnum_any n w' hn ((HPT.out.below HKW.out).below h).tab)
              have fb0 : (9223372036854775807 < pq.length + 5) = False := eq_false (by omega)
              have fb1 : (9223372036854775807 < pq.length + 5 + nm.length) = False := eq_false (by omega)
              have fb2 : (9223372036854775807 < pq.length + 5 + nm.length + l_mx.length) = False := eq_false (by omega)
              have fb3 : (9223372036854775807 < pq.length + 5 + nm.length + l_mx.length + 1) = False := eq_false (by omega)
              go_region_held3 (fun w' => w'.cell? ⟨xb + 1, 2, none⟩ = some (.slice (some ⟨b1, o1, none⟩) t.conds.length c2) ∧ w'.cell? ⟨b1, o1 + k * 2, none⟩ = some (.string ⟨nm.toArray⟩) ∧ w'.cell? ⟨b1, o1 + k * 2 + 1, none⟩ = some (.int .i64 mx)) (with_reducible assumption) (first
                | (go_at_call 27; refine (HIT.out mx HIX.out _ hx0).mono ?_; rw [HG_mx.out]; rintro e w1 ⟨rfl, hb1⟩; have hx1 := hx0.trans (hb1.mono hx0.size); have hs1 := HC.out w1 hx1))
              have HKZ := Lib.hid (HKW.out.trans (hx1.mono HKW.out.size))
              clear fb0 fb1 fb2 fb3 HC HIT hs0 hx0 hs1 hx1 hb1
              go_wp2_with fail
              go_roundw
              case rel => exact ⟨k + 1, by omega, by go_num, by refine congrArg Value.string ?_; rw [HTS.out]; rw [← HG_mx.out]; simp only [str_app]; simp [lineT, Item.head, Item.args, tailS, wCond], HKZ⟩
              case measure => simp [intOf]; omega
            · obtain rfl : k = t.conds.length := by omega
              have lk : ¬ ((t.conds.length : Int) < (t.conds.length : Int)) := by omega
              clear hlt hkl
              rw [List.take_length]
              go_wp2_with fail
              clear q2
              go_loopw [4, 11] (fun sv iv wr => ∃ k : Nat, k ≤ t.futs.length ∧ iv = .int .i64 (k : Int) ∧ sv = .string ⟨((((([] : List UInt8) ++ t.cells.flatMap (fun x => lineT (.cell x))) ++ t.locks.flatMap (fun x => lineT (.lock x))) ++ t.conds.flatMap (fun x => lineT (.cond x))) ++ (t.futs.take k).flatMap (fun x => lineT (.fut x))).toArray⟩ ∧ Hid (Below W.heap.size W wr)) (fun _ iv _ => t.futs.length - (intOf iv).toNat)
              case atStart => exact ⟨0, by omega, rfl, by simp, HKW⟩
              case round =>
                obtain ⟨k, hkl, rfl, rfl, HKW⟩ := hrel
                have q3 := (HXW.out.keep HKW.out).cell 3
                simp only [List.getElem?_toArray, List.getElem?_cons_zero, List.getElem?_cons_succ] at q3
                by_cases hlt : k < t.futs.length
                · obtain ⟨x, hx⟩ : ∃ x, t.futs[k]? = some x := ⟨_, List.getElem?_eq_getElem hlt⟩
                  have HTS : Hid ((((([] : List UInt8) ++ t.cells.flatMap (fun x => lineT (.cell x))) ++ t.locks.flatMap (fun x => lineT (.lock x))) ++ t.conds.flatMap (fun x => lineT (.cond x))) ++ (t.futs.take (k + 1)).flatMap (fun x => lineT (.fut x)) = ((((([] : List UInt8) ++ t.cells.flatMap (fun x => lineT (.cell x))) ++ t.locks.flatMap (fun x => lineT (.lock x))) ++ t.conds.flatMap (fun x => lineT (.cond x))) ++ (t.futs.take k).flatMap (fun x => lineT (.fut x))) ++ lineT (.fut x)) := Lib.hid (by rw [flatMap_take_succ hx]; exact (List.append_assoc _ _ _).symm)
                  have HFT : Hid (((((([] : List UInt8) ++ t.cells.flatMap (fun x => lineT (.cell x))) ++ t.locks.flatMap (fun x => lineT (.lock x))) ++ t.conds.flatMap (fun x => lineT (.cond x))) ++ (t.futs.take k).flatMap (fun x => lineT (.fut x))).length + (lineT (.fut x)).length ≤ 100000000000000) := Lib.hid (by have h1 := take_fits (g := (fun x => lineT (.fut x))) hx; have h2 := HLEN.out; simp only [List.length_append, List.length_nil] at h1 ⊢; omega)
                  have lk : (k : Int) < (t.futs.length : Int) := by omega
                  have lm : (k : Int) < 9223372036854775807 := by have := HM3.out; omega
                  generalize hpq : (((([] : List UInt8) ++ t.cells.flatMap (fun x => lineT (.cell x))) ++ t.locks.flatMap (fun x => lineT (.lock x))) ++ t.conds.flatMap (fun x => lineT (.cond x))) ++ (t.futs.take k).flatMap (fun x => lineT (.fut x)) = pq at *
                  clear hpq
                  obtain ⟨b1, o1, e1, hb1, g1⟩ := (HR3.out.keep (HWK.out _ HKW.out)).flat (g := strC) (m := 1) (fun _ => rfl) (by omega) hx
                  subst e1
                  clear hx
                  have hz2 : x.length ≤ 100000000000000 := by have := HFT.out; simp only [lineT, Item.args, tailS, List.flatMap_cons, List.flatMap_nil, List.length_append, List.length_cons, List.length_nil] at this; omega
                  have hz1 : pq.length ≤ 100000000000000 := by have := HFT.out; omega
                  have y0 : wr.cell? ⟨b1, o1 + k, none⟩ = some (.string ⟨x.toArray⟩) := by have := g1 0 _ rfl; rw [Nat.mul_one] at this; exact this
                  clear g1
                  have HKZ := HKW
                  go_wp2_with fail
                  go_roundw
                  case rel => exact ⟨k + 1, by omega, by go_num, by refine congrArg Value.string ?_; rw [HTS.out]; simp only [str_app]; simp [lineT, Item.head, Item.args, tailS, wFut], HKZ⟩
                  case measure => simp [intOf]; omega
                · obtain rfl : k = t.futs.length := by omega
                  have lk : ¬ ((t.futs.length : Int) < (t.futs.length : Int)) := by omega
                  clear hlt hkl
                  rw [List.take_length]
                  go_wp2_with fail
                  clear q3
                  go_loopw [4, 12] (fun sv iv wr => ∃ k : Nat, k ≤ t.thrs.length ∧ iv = .int .i64 (k : Int) ∧ sv = .string ⟨(((((([] : List UInt8) ++ t.cells.flatMap (fun x => lineT (.cell x))) ++ t.locks.flatMap (fun x => lineT (.lock x))) ++ t.conds.flatMap (fun x => lineT (.cond x))) ++ t.futs.flatMap (fun x => lineT (.fut x))) ++ (t.thrs.take k).flatMap (fun x => lineT (.thr x))).toArray⟩ ∧ Hid (Below W.heap.size W wr)) (fun _ iv _ => t.thrs.length - (intOf iv).toNat)
                  case atStart => exact ⟨0, by omega, rfl, by simp, HKW⟩
                  case round =>
                    obtain ⟨k, hkl, rfl, rfl, HKW⟩ := hrel
                    have q4 := (HXW.out.keep HKW.out).cell 4
                    simp only [List.getElem?_toArray, List.getElem?_cons_zero, List.getElem?_cons_succ] at q4
                    by_cases hlt : k < t.thrs.length
                    · obtain ⟨x, hx⟩ : ∃ x, t.thrs[k]? = some x := ⟨_, List.getElem?_eq_getElem hlt⟩
                      have HTS : Hid (((((([] : List UInt8) ++ t.cells.flatMap (fun x => lineT (.cell x))) ++ t.locks.flatMap (fun x => lineT (.lock x))) ++ t.conds.flatMap (fun x => lineT (.cond x))) ++ t.futs.flatMap (fun x => lineT (.fut x))) ++ (t.thrs.take (k + 1)).flatMap (fun x => lineT (.thr x)) = (((((([] : List UInt8) ++ t.cells.flatMap (fun x => lineT (.cell x))) ++ t.locks.flatMap (fun x => lineT (.lock x))) ++ t.conds.flatMap (fun x => lineT (.cond x))) ++ t.futs.flatMap (fun x => lineT (.fut x))) ++ (t.thrs.take k).flatMap (fun x => lineT (.thr x))) ++ lineT (.thr x)) := Lib.hid (by rw [flatMap_take_succ hx]; exact (List.append_assoc _ _ _).symm)
                      have HFT : Hid ((((((([] : List UInt8) ++ t.cells.flatMap (fun x => lineT (.cell x))) ++ t.locks.flatMap (fun x => lineT (.lock x))) ++ t.conds.flatMap (fun x => lineT (.cond x))) ++ t.futs.flatMap (fun x => lineT (.fut x))) ++ (t.thrs.take k).flatMap (fun x => lineT (.thr x))).length + (lineT (.thr x)).length ≤ 100000000000000) := Lib.hid (by have h1 := take_fits (g := (fun x => lineT (.thr x))) hx; have h2 := HLEN.out; simp only [List.length_append, List.length_nil] at h1 ⊢; omega)
                      have lk : (k : Int) < (t.thrs.length : Int) := by omega
                      have lm : (k : Int) < 9223372036854775807 := by have := HM4.out; omega
                      generalize hpq : ((((([] : List UInt8) ++ t.cells.flatMap (fun x => lineT (.cell x))) ++ t.locks.flatMap (fun x => lineT (.lock x))) ++ t.conds.flatMap (fun x => lineT (.cond x))) ++ t.futs.flatMap (fun x => lineT (.fut x))) ++ (t.thrs.take k).flatMap (fun x => lineT (.thr x)) = pq at *
                      clear hpq
                      obtain ⟨b1, o1, e1, hb1, g1⟩ := (HR4.out.keep (HWK.out _ HKW.out)).flat (g := strC) (m := 1) (fun _ => rfl) (by omega) hx
                      subst e1
                      clear hx
                      have hz2 : x.length ≤ 100000000000000 := by have := HFT.out; simp only [lineT, Item.args, tailS, List.flatMap_cons, List.flatMap_nil, List.length_append, List.length_cons, List.length_nil] at this; omega
                      have hz1 : pq.length ≤ 100000000000000 := by have := HFT.out; omega
                      have y0 : wr.cell? ⟨b1, o1 + k, none⟩ = some (.string ⟨x.toArray⟩) := by have := g1 0 _ rfl; rw [Nat.mul_one] at this; exact this
                      clear g1
                      have HKZ := HKW
                      go_wp2_with fail
                      go_roundw
                      case rel => exact ⟨k + 1, by omega, by go_num, by refine congrArg Value.string ?_; rw [HTS.out]; simp only [str_app]; simp [lineT, Item.head, Item.args, tailS, wThr], HKZ⟩
                      case measure => simp [intOf]; omega
                    · obtain rfl : k = t.thrs.length := by omega
                      have lk : ¬ ((t.thrs.length : Int) < (t.thrs.length : Int)) := by omega
                      clear hlt hkl
                      rw [List.take_length]
                      go_wp2_with fail
                      clear q4
                      go_loopw [4, 13] (fun sv iv wr => ∃ k : Nat, k ≤ t.sites.length ∧ iv = .int .i64 (k : Int) ∧ sv = .string ⟨((((((([] : List UInt8) ++ t.cells.flatMap (fun x => lineT (.cell x))) ++ t.locks.flatMap (fun x => lineT (.lock x))) ++ t.conds.flatMap (fun x => lineT (.cond x))) ++ t.futs.flatMap (fun x => lineT (.fut x))) ++ t.thrs.flatMap (fun x => lineT (.thr x))) ++ (t.sites.take k).flatMap (fun x => lineT (.site x))).toArray⟩ ∧ Hid (Below W.heap.size W wr)) (fun _ iv _ => t.sites.length - (intOf iv).toNat)
                      case atStart => exact ⟨0, by omega, rfl, by simp, HKW⟩
                      case round =>
                        obtain ⟨k, hkl, rfl, rfl, HKW⟩ := hrel
                        have q5 := (HXW.out.keep HKW.out).cell 5
                        simp only [List.getElem?_toArray, List.getElem?_cons_zero, List.getElem?_cons_succ] at q5
                        by_cases hlt : k < t.sites.length
                        · obtain ⟨x, hx⟩ : ∃ x, t.sites[k]? = some x := ⟨_, List.getElem?_eq_getElem hlt⟩
                          have HTS : Hid ((((((([] : List UInt8) ++ t.cells.flatMap (fun x => lineT (.cell x))) ++ t.locks.flatMap (fun x => lineT (.lock x))) ++ t.conds.flatMap (fun x => lineT (.cond x))) ++ t.futs.flatMap (fun x => lineT (.fut x))) ++ t.thrs.flatMap (fun x => lineT (.thr x))) ++ (t.sites.take (k + 1)).flatMap (fun x => lineT (.site x)) = ((((((([] : List UInt8) ++ t.cells.flatMap (fun x => lineT (.cell x))) ++ t.locks.flatMap (fun x => lineT (.lock x))) ++ t.conds.flatMap (fun x => lineT (.cond x))) ++ t.futs.flatMap (fun x => lineT (.fut x))) ++ t.thrs.flatMap (fun x => lineT (.thr x))) ++ (t.sites.take k).flatMap (fun x => lineT (.site x))) ++ lineT (.site x)) := Lib.hid (by rw [flatMap_take_succ hx]; exact (List.append_assoc _ _ _).symm)
                          have HFT : Hid (((((((([] : List UInt8) ++ t.cells.flatMap (fun x => lineT (.cell x))) ++ t.locks.flatMap (fun x => lineT (.lock x))) ++ t.conds.flatMap (fun x => lineT (.cond x))) ++ t.futs.flatMap (fun x => lineT (.fut x))) ++ t.thrs.flatMap (fun x => lineT (.thr x))) ++ (t.sites.take k).flatMap (fun x => lineT (.site x))).length + (lineT (.site x)).length ≤ 100000000000000) := Lib.hid (by have h1 := take_fits (g := (fun x => lineT (.site x))) hx; have h2 := HLEN.out; simp only [List.length_append, List.length_nil] at h1 ⊢; omega)
                          have lk : (k : Int) < (t.sites.length : Int) := by omega
                          have lm : (k : Int) < 9223372036854775807 := by have := HM5.out; omega
                          generalize hpq : (((((([] : List UInt8) ++ t.cells.flatMap (fun x => lineT (.cell x))) ++ t.locks.flatMap (fun x => lineT (.lock x))) ++ t.conds.flatMap (fun x => lineT (.cond x))) ++ t.futs.flatMap (fun x => lineT (.fut x))) ++ t.thrs.flatMap (fun x => lineT (.thr x))) ++ (t.sites.take k).flatMap (fun x => lineT (.site x)) = pq at *
                          clear hpq
                          have HIX := Lib.hid (HOK.out.2.2.1 x (List.mem_of_getElem? hx))
                          obtain ⟨b1, o1, e1, hb1, g1⟩ := (HR5.out.keep (HWK.out _ HKW.out)).flat (g := Sit.cells) (m := 3) (fun _ => rfl) (by omega) hx
                          subst e1
                          clear hx
                          obtain ⟨ta, sb, lc⟩ := x
                          have hz1 : pq.length ≤ 100000000000000 := by have := HFT.out; omega
                          obtain ⟨l_ta, hg_ta⟩ : ∃ q : List UInt8, 32 :: Lib.itoa ta = q := ⟨_, rfl⟩
                          have hl_ta : l_ta.length ≤ 22 := by rw [← hg_ta]; have := itoa_len ta HIX.out.1; simp; omega
                          have HG_ta := Lib.hid hg_ta
                          clear hg_ta
                          obtain ⟨l_sb, hg_sb⟩ : ∃ q : List UInt8, 32 :: Lib.itoa sb = q := ⟨_, rfl⟩
                          have hl_sb : l_sb.length ≤ 22 := by rw [← hg_sb]; have := itoa_len sb HIX.out.2.1; simp; omega
                          have HG_sb := Lib.hid hg_sb
                          clear hg_sb
                          obtain ⟨l_lc, hg_lc⟩ : ∃ q : List UInt8, 32 :: Lib.itoa lc = q := ⟨_, rfl⟩
                          have hl_lc : l_lc.length ≤ 22 := by rw [← hg_lc]; have := itoa_len lc HIX.out.2.2; simp; omega
                          have HG_lc := Lib.hid hg_lc
                          clear hg_lc
                          have y0 : wr.cell? ⟨b1, o1 + k * 3, none⟩ = some (.int .i64 ta) := by exact g1 0 _ rfl
                          have y1 : wr.cell? ⟨b1, o1 + k * 3 + 1, none⟩ = some (.int .i64 sb) := by exact g1 1 _ rfl
                          have y2 : wr.cell? ⟨b1, o1 + k * 3 + 2, none⟩ = some (.int .i64 lc) := by exact g1 2 _ rfl
                          clear g1
                          have hba : Below wr.heap.size wr (wr.alloc (.cells #[.int .i64 ta, .int .i64 sb, .int .i64 lc] 71)) := (Below.refl _ _).alloc (Nat.le_refl _) _
                          have HXA := Lib.hid (Blk.new wr 71 #[.int .i64 ta, .int .i64 sb, .int .i64 lc])
                          have HKA := Lib.hid (HKW.out.trans (hba.mono HKW.out.size))
                          clear hba hb1
                          go_upto_region 34 with fail
                          generalize wr.alloc (.cells #[.int .i64 ta, .int .i64 sb, .int .i64 lc] 71) = wa at *
                          generalize wr.heap.size = ga at *
                          clear y0 y1 y2
                          have HC : Hid (∀ w', Below wa.heap.size wa w' → w'.cell? ⟨ga, 0, none⟩ = some (.int .i64 ta) ∧ w'.cell? ⟨ga, 1, none⟩ = some (.int .i64 sb) ∧ w'.cell? ⟨ga, 2, none⟩ = some (.int .i64 lc)) := Lib.hid (fun w' h => ⟨(HXA.out.keep h).cell 0, (HXA.out.keep h).cell 1, (HXA.out.keep h).cell 2⟩)
                          have hx0 := (Below.refl wa.heap.size wa).drew
                          have hs0 := HC.out _ hx0
                          have HIT : Hid (∀ (n : Int), I64 n → ∀ w', Below wa.heap.size wa w' → Calls Tryd.prog 27 #[.int .i64 n] w' fun e w2 => e = .returned (.string ⟨(32 :: Lib.itoa n).toArray⟩) ∧ Below w'.heap.size w' w2) := Lib.hid (fun n hn w' h => rnum_any n w' hn ((HPT.out.below HKA.out).below h).tab)
                          have fb0 : (9223372036854775807 < pq.length + 4) = False := eq_false (by omega)
                          have fb1 : (9223372036854775807 < pq.length + 4 + l_ta.length) = False := eq_false (by omega)
                          have fb2 : (9223372036854775807 < pq.length + 4 + l_ta.length + l_sb.length) = False := eq_false (by omega)
                          have fb3 : (9223372036854775807 < pq.length + 4 + l_ta.length + l_sb.length + l_lc.length) = False := eq_false (by omega)
                          have fb4 : (9223372036854775807 < pq.length + 4 + l_ta.length + l_sb.length + l_lc.length + 1) = False := eq_false (by omega)
                          go_region_held3 (fun w' => w'.cell? ⟨ga, 0, none⟩ = some (.int .i64 ta) ∧ w'.cell? ⟨ga, 1, none⟩ = some (.int .i64 sb) ∧ w'.cell? ⟨ga, 2, none⟩ = some (.int .i64 lc)) (with_reducible assumption) (first
                            | (go_at_call 27; refine (HIT.out ta HIX.out.1 _ hx0).mono ?_; rw [HG_ta.out]; rintro e w1 ⟨rfl, hb1⟩; have hx1 := hx0.trans (hb1.mono hx0.size); have hs1 := HC.out w1 hx1)
                            | (go_at_call 27; refine (HIT.out sb HIX.out.2.1 _ hx1).mono ?_; rw [HG_sb.out]; rintro e w2 ⟨rfl, hb2⟩; have hx2 := hx1.trans (hb2.mono hx1.size); have hs2 := HC.out w2 hx2)
                            | (go_at_call 27; refine (HIT.out lc HIX.out.2.2 _ hx2).mono ?_; rw [HG_lc.out]; rintro e w3 ⟨rfl, hb3⟩; have hx3 := hx2.trans (hb3.mono hx2.size); have hs3 := HC.out w3 hx3))
                          have HKZ := Lib.hid (HKA.out.trans (hx3.mono HKA.out.size))
                          clear fb0 fb1 fb2 fb3 fb4 HC HIT hs0 hx0 hs1 hx1 hb1 hs2 hx2 hb2 hs3 hx3 hb3
                          go_wp2_with fail
                          go_roundw
                          case rel => exact ⟨k + 1, by omega, by go_num, by refine congrArg Value.string ?_; rw [HTS.out]; rw [← HG_ta.out, ← HG_sb.out, ← HG_lc.out]; simp only [str_app]; simp [lineT, Item.head, Item.args, tailS, wSite], HKZ⟩
                          case measure => simp [intOf]; omega
                        · obtain rfl : k = t.sites.length := by omega
                          have lk : ¬ ((t.sites.length : Int) < (t.sites.length : Int)) := by omega
                          clear hlt hkl
                          rw [List.take_length]
                          go_wp2_with fail
                          clear q5
                          go_loopw [4, 15] (fun sv iv wr => ∃ k : Nat, k ≤ t.events.length ∧ iv = .int .i64 (k : Int) ∧ sv = .string ⟨(((((((([] : List UInt8) ++ t.cells.flatMap (fun x => lineT (.cell x))) ++ t.locks.flatMap (fun x => lineT (.lock x))) ++ t.conds.flatMap (fun x => lineT (.cond x))) ++ t.futs.flatMap (fun x => lineT (.fut x))) ++ t.thrs.flatMap (fun x => lineT (.thr x))) ++ t.sites.flatMap (fun x => lineT (.site x))) ++ (t.events.take k).flatMap (fun x => lineT (.event x))).toArray⟩ ∧ Hid (Below W.heap.size W wr)) (fun _ iv _ => t.events.length - (intOf iv).toNat)
                          case atStart => exact ⟨0, by omega, rfl, by simp, HKW⟩
                          case round =>
                            obtain ⟨k, hkl, rfl, rfl, HKW⟩ := hrel
                            have q6 := (HX.out.keep HKW.out).cell 6
                            simp only [List.getElem?_toArray, List.getElem?_cons_zero, List.getElem?_cons_succ] at q6
                            by_cases hlt : k < t.events.length
                            · obtain ⟨x, hx⟩ : ∃ x, t.events[k]? = some x := ⟨_, List.getElem?_eq_getElem hlt⟩
                              have HTS : Hid (((((((([] : List UInt8) ++ t.cells.flatMap (fun x => lineT (.cell x))) ++ t.locks.flatMap (fun x => lineT (.lock x))) ++ t.conds.flatMap (fun x => lineT (.cond x))) ++ t.futs.flatMap (fun x => lineT (.fut x))) ++ t.thrs.flatMap (fun x => lineT (.thr x))) ++ t.sites.flatMap (fun x => lineT (.site x))) ++ (t.events.take (k + 1)).flatMap (fun x => lineT (.event x)) = (((((((([] : List UInt8) ++ t.cells.flatMap (fun x => lineT (.cell x))) ++ t.locks.flatMap (fun x => lineT (.lock x))) ++ t.conds.flatMap (fun x => lineT (.cond x))) ++ t.futs.flatMap (fun x => lineT (.fut x))) ++ t.thrs.flatMap (fun x => lineT (.thr x))) ++ t.sites.flatMap (fun x => lineT (.site x))) ++ (t.events.take k).flatMap (fun x => lineT (.event x))) ++ lineT (.event x)) := Lib.hid (by rw [flatMap_take_succ hx]; exact (List.append_assoc _ _ _).symm)
                              have HFT : Hid ((((((((([] : List UInt8) ++ t.cells.flatMap (fun x => lineT (.cell x))) ++ t.locks.flatMap (fun x => lineT (.lock x))) ++ t.conds.flatMap (fun x => lineT (.cond x))) ++ t.futs.flatMap (fun x => lineT (.fut x))) ++ t.thrs.flatMap (fun x => lineT (.thr x))) ++ t.sites.flatMap (fun x => lineT (.site x))) ++ (t.events.take k).flatMap (fun x => lineT (.event x))).length + (lineT (.event x)).length ≤ 100000000000000) := Lib.hid (by have h1 := take_fits (g := (fun x => lineT (.event x))) hx; have h2 := HLEN.out; simp only [List.length_append, List.length_nil] at h1 ⊢; omega)
                              have lk : (k : Int) < (t.events.length : Int) := by omega
                              have lm : (k : Int) < 9223372036854775807 := by have := HM6.out; omega
                              generalize hpq : ((((((([] : List UInt8) ++ t.cells.flatMap (fun x => lineT (.cell x))) ++ t.locks.flatMap (fun x => lineT (.lock x))) ++ t.conds.flatMap (fun x => lineT (.cond x))) ++ t.futs.flatMap (fun x => lineT (.fut x))) ++ t.thrs.flatMap (fun x => lineT (.thr x))) ++ t.sites.flatMap (fun x => lineT (.site x))) ++ (t.events.take k).flatMap (fun x => lineT (.event x)) = pq at *
                              clear hpq
                              have HIX := Lib.hid (HOK.out.2.2.2 x (List.mem_of_getElem? hx))
                              obtain ⟨⟨d1, d2⟩, hd⟩ : ∃ d, ds[k]? = some d := ⟨_, List.getElem?_eq_getElem (by have := HDL.out; omega)⟩
                              have HJ := Lib.hid (HEV.out k x (d1, d2) hx hd)
                              have HKX := Lib.hid (HK.out x (List.mem_of_getElem? hx))
                              have z1 : (t.events.zip ds)[k]? = some (x, d1, d2) := by rw [List.getElem?_zip_eq_some]; exact ⟨hx, hd⟩
                              obtain ⟨b1, o1, e1, hb1, g1⟩ := (HR6.out.keep (HWK.out _ HKW.out)).flat (g := evC) (m := 7) (fun _ => rfl) (by omega) z1
                              subst e1
                              clear hx hd z1
                              obtain ⟨B1, e1, t1, -⟩ := id HJ.out.1
                              obtain ⟨B2, e2, t2, -⟩ := id HJ.out.2
                              simp only at t1 t2
                              subst t1 t2
                              obtain ⟨th, kd, ob, va, si, dp, fr⟩ := x
                              obtain ⟨kk, rfl⟩ : ∃ n : Nat, kd = ((n : Int) + 1) := ⟨(kd - 1).toNat, by have := HKX.out.1.1; simp only at this; omega⟩
                              have y0 : wr.cell? ⟨b1, o1 + k * 7, none⟩ = some (.int .i64 th) := g1 0 _ rfl
                              have y1 : wr.cell? ⟨b1, o1 + k * 7 + 1, none⟩ = some (.int .i64 ((kk : Int) + 1)) := g1 1 _ rfl
                              have y2 : wr.cell? ⟨b1, o1 + k * 7 + 2, none⟩ = some (.int .i64 ob) := g1 2 _ rfl
                              have y3 : wr.cell? ⟨b1, o1 + k * 7 + 3, none⟩ = some (.int .i64 va) := g1 3 _ rfl
                              have y4 : wr.cell? ⟨b1, o1 + k * 7 + 4, none⟩ = some (.int .i64 si) := g1 4 _ rfl
                              have y5 : wr.cell? ⟨b1, o1 + k * 7 + 5, none⟩ = some (.slice B1 dp.length e1) := g1 5 _ rfl
                              have y6 : wr.cell? ⟨b1, o1 + k * 7 + 6, none⟩ = some (.slice B2 fr.length e2) := g1 6 _ rfl
                              have HKI : Hid (kk < 23) := Lib.hid (by have := HKX.out.1.2; simp only at this; omega)
                              have HKD : Hid (kindsL[kk]? = some (kindW ((kk : Int) + 1))) := Lib.hid (by have h := kindW_at (k := kk + 1) (by have := HKI.out; omega); rw [List.getElem?_cons_succ] at h; exact_mod_cast h)
                              have HKL : Hid ((kindW ((kk : Int) + 1)).length ≤ 12) := Lib.hid (kind_lenR (by have := HKI.out; omega))
                              have hz1 : pq.length ≤ 100000000000000 := by have := HFT.out; omega
                              obtain ⟨l_th, hg_th⟩ : ∃ q : List UInt8, 32 :: Lib.itoa th = q := ⟨_, rfl⟩
                              have hl_th : l_th.length ≤ 22 := by rw [← hg_th]; have := itoa_len th HIX.out.1; simp; omega
                              have HG_th := Lib.hid hg_th
                              clear hg_th
                              obtain ⟨l_ob, hg_ob⟩ : ∃ q : List UInt8, 32 :: Lib.itoa ob = q := ⟨_, rfl⟩
                              have hl_ob : l_ob.length ≤ 22 := by rw [← hg_ob]; have := itoa_len ob HIX.out.2.2.1; simp; omega
                              have HG_ob := Lib.hid hg_ob
                              clear hg_ob
                              obtain ⟨l_va, hg_va⟩ : ∃ q : List UInt8, Lib.itoa va = q := ⟨_, rfl⟩
                              have hl_va : l_va.length ≤ 22 := by rw [← hg_va]; have := itoa_len va HIX.out.2.2.2.1; simp; omega
                              have HG_va := Lib.hid hg_va
                              clear hg_va
                              obtain ⟨l_si, hg_si⟩ : ∃ q : List UInt8, 32 :: Lib.itoa si = q := ⟨_, rfl⟩
                              have hl_si : l_si.length ≤ 22 := by rw [← hg_si]; have := itoa_len si HIX.out.2.2.2.2; simp; omega
                              have HG_si := Lib.hid hg_si
                              clear hg_si
                              obtain ⟨l_dp, hg_dp⟩ : ∃ q : List UInt8, tailS (numsP wDeps dp) = q := ⟨_, rfl⟩
                              have HG_dp := Lib.hid hg_dp
                              have hn_dp : l_dp.length ≤ 100000000000 := by
                                rw [← hg_dp]
                                obtain ⟨_, _, _, _, _, h, _⟩ := HJ.out.1
                                have h1 := numsP_textR wDeps dp rfl h
                                have h2 := HKX.out.2
                                simp only at h2
                                omega
                              clear hg_dp
                              obtain ⟨l_fr, hg_fr⟩ : ∃ q : List UInt8, tailS (numsP wFrom fr) = q := ⟨_, rfl⟩
                              have HG_fr := Lib.hid hg_fr
                              have hn_fr : l_fr.length ≤ 100000000000 := by
                                rw [← hg_fr]
                                obtain ⟨_, _, _, _, _, h, _⟩ := HJ.out.2
                                have h1 := numsP_textR wFrom fr rfl h
                                have h2 := HKX.out.2
                                simp only at h2
                                omega
                              clear hg_fr
                              obtain ⟨kw, hkw⟩ : ∃ q : List UInt8, kindW ((kk : Int) + 1) = q := ⟨_, rfl⟩
                              rw [hkw] at HKD HKL
                              have HKW2 := Lib.hid hkw
                              clear hkw
                              have hw : kw.length ≤ 12 := HKL.out
                              have hkk0 : (kk : Int) < 23 := by have := HKI.out; omega
                              have hkk1 : kk < 23 := HKI.out
                              have hkk2 : IntKind.i64.wrap (kk : Int) = (kk : Int) := by rw [IntKind.wrap_i64]; omega
                              clear g1 hb1
                              have hba : Below wr.heap.size wr (wr.alloc (.cells #[.int .i64 th, .int .i64 ((kk : Int) + 1), .int .i64 ob, .int .i64 va, .int .i64 si, .slice B1 dp.length e1, .slice B2 fr.length e2] 53)) := (Below.refl _ _).alloc (Nat.le_refl _) _
                              have HXA := Lib.hid (Blk.new wr 53 #[.int .i64 th, .int .i64 ((kk : Int) + 1), .int .i64 ob, .int .i64 va, .int .i64 si, .slice B1 dp.length e1, .slice B2 fr.length e2])
                              have HKA := Lib.hid (HKW.out.trans (hba.mono HKW.out.size))
                              have c0 : ¬ (((kk : Int) + 1) < 1) := by omega
                              have c1 : ¬ ((23 : Int) < ((kk : Int) + 1)) := by have := HKI.out; omega
                              have HJA := Lib.hid (show Ints _ _ dp ∧ Ints _ _ fr from ⟨HJ.out.1.keep (HWK.out _ HKA.out), HJ.out.2.keep (HWK.out _ HKA.out)⟩)
                              clear hba
                              go_upto_region 41 with fail
                              generalize wr.alloc (.cells #[.int .i64 th, .int .i64 ((kk : Int) + 1), .int .i64 ob, .int .i64 va, .int .i64 si, .slice B1 dp.length e1, .slice B2 fr.length e2] 53) = wa at *
                              generalize wr.heap.size = ga at *
                              clear c0 c1 y0 y1 y2 y3 y4 y5 y6
                              have HC : Hid (∀ w', Below wa.heap.size wa w' → w'.cell? ⟨ga, 0, none⟩ = some (.int .i64 th) ∧ w'.cell? ⟨ga, 1, none⟩ = some (.int .i64 ((kk : Int) + 1)) ∧ w'.cell? ⟨ga, 2, none⟩ = some (.int .i64 ob) ∧ w'.cell? ⟨ga, 3, none⟩ = some (.int .i64 va) ∧ w'.cell? ⟨ga, 4, none⟩ = some (.int .i64 si) ∧ w'.cell? ⟨ga, 5, none⟩ = some (.slice B1 dp.length e1) ∧ w'.cell? ⟨ga, 6, none⟩ = some (.slice B2 fr.length e2)) := Lib.hid (fun w' h => ⟨(HXA.out.keep h).cell 0, (HXA.out.keep h).cell 1, (HXA.out.keep h).cell 2, (HXA.out.keep h).cell 3, (HXA.out.keep h).cell 4, (HXA.out.keep h).cell 5, (HXA.out.keep h).cell 6⟩)
                              have hx0 := (Below.refl wa.heap.size wa).drew
                              have hs0 := HC.out _ hx0
                              have HIT : Hid (∀ (n : Int), I64 n → ∀ w', Below wa.heap.size wa w' → Calls Tryd.prog 27 #[.int .i64 n] w' fun e w2 => e = .returned (.string ⟨(32 :: Lib.itoa n).toArray⟩) ∧ Below w'.heap.size w' w2) := Lib.hid (fun n hn w' h => rnum_any n w' hn ((HPT.out.below HKA.out).below h).tab)
                              have HFI : Hid (∀ (n : Int), I64 n → ∀ w', Below wa.heap.size wa w' → Calls Tryd.prog 24 #[.int .i64 n, .int .i64 10] w' fun e w2 => e = .returned (.string ⟨(Lib.itoa n).toArray⟩) ∧ Below w'.heap.size w' w2) := Lib.hid (fun n hn w' h => fint_any n w' hn ((HPT.out.below HKA.out).below h).tab)
                              have HND : Hid (∀ w', Below wa.heap.size wa w' → Calls Tryd.prog 29 #[.string ⟨#[100, 101, 112, 115]⟩, .slice B1 dp.length e1] w' fun e w2 => e = .returned (.string ⟨(tailS (numsP wDeps dp)).toArray⟩) ∧ Below w'.heap.size w' w2) := Lib.hid (fun w' h => rnums_any wDeps B1 e1 dp w' (HJA.out.1.keep h) ((HPT.out.below HKA.out).below h) (by have := HKX.out.2; simp only at this; omega) (by simp [wDeps]))
                              have HNR : Hid (∀ w', Below wa.heap.size wa w' → Calls Tryd.prog 29 #[.string ⟨#[102, 114, 111, 109]⟩, .slice B2 fr.length e2] w' fun e w2 => e = .returned (.string ⟨(tailS (numsP wFrom fr)).toArray⟩) ∧ Below w'.heap.size w' w2) := Lib.hid (fun w' h => rnums_any wFrom B2 e2 fr w' (HJA.out.2.keep h) ((HPT.out.below HKA.out).below h) (by have := HKX.out.2; simp only at this; omega) (by simp [wFrom]))
                              have fb0 : (9223372036854775807 < pq.length + 5) = False := eq_false (by omega)
                              have fb1 : (9223372036854775807 < pq.length + 5 + l_th.length) = False := eq_false (by omega)
                              have fb2 : (9223372036854775807 < pq.length + 5 + l_th.length + 1) = False := eq_false (by omega)
                              have fb3 : (9223372036854775807 < pq.length + 5 + l_th.length + 1 + kw.length) = False := eq_false (by omega)
                              have fb4 : (9223372036854775807 < pq.length + 5 + l_th.length + 1 + kw.length + l_ob.length) = False := eq_false (by omega)
                              have fb5 : (9223372036854775807 < pq.length + 5 + l_th.length + 1 + kw.length + l_ob.length + 1) = False := eq_false (by omega)
                              have fb6 : (9223372036854775807 < pq.length + 5 + l_th.length + 1 + kw.length + l_ob.length + 1 + l_va.length) = False := eq_false (by omega)
                              have fb7 : (9223372036854775807 < pq.length + 5 + l_th.length + 1 + kw.length + l_ob.length + 1 + l_va.length + l_si.length) = False := eq_false (by omega)
                              have fb8 : (9223372036854775807 < pq.length + 5 + l_th.length + 1 + kw.length + l_ob.length + 1 + l_va.length + l_si.length + l_dp.length) = False := eq_false (by omega)
                              have fb9 : (9223372036854775807 < pq.length + 5 + l_th.length + 1 + kw.length + l_ob.length + 1 + l_va.length + l_si.length + l_dp.length + l_fr.length) = False := eq_false (by omega)
                              have fb10 : (9223372036854775807 < pq.length + 5 + l_th.length + 1 + kw.length + l_ob.length + 1 + l_va.length + l_si.length + l_dp.length + l_fr.length + 1) = False := eq_false (by omega)
                              obtain ⟨w0, hw0⟩ : ∃ q : World, wa = q := ⟨_, rfl⟩
                              clear hw0
                              refine wp_region_held_drew (S := fun w' => w'.cell? ⟨ga, 0, none⟩ = some (.int .i64 th) ∧ w'.cell? ⟨ga, 1, none⟩ = some (.int .i64 ((kk : Int) + 1)) ∧ w'.cell? ⟨ga, 2, none⟩ = some (.int .i64 ob) ∧ w'.cell? ⟨ga, 3, none⟩ = some (.int .i64 va) ∧ w'.cell? ⟨ga, 4, none⟩ = some (.int .i64 si) ∧ w'.cell? ⟨ga, 5, none⟩ = some (.slice B1 dp.length e1) ∧ w'.cell? ⟨ga, 6, none⟩ = some (.slice B2 fr.length e2)) (by kernel_rfl) (by (try dsimp only); with_reducible assumption) (fun hHeld => ?_)
                              refine wpAnyH_take (i := 0) (v := ?v1) (by simp only [List.getElem?_toArray, List.getElem?_cons_zero]; rfl) (by kernel_rfl) (by kernel_rfl) (by kernel_rfl) (by exact fun _ _ _ h => h) (Or.inl ⟨by rfl, ?y1⟩) hHeld ?r1
                              case y1 => (intro w hSw; (try dsimp only at hSw); go_simp <;> with_reducible rfl)
                              (try simp only [Act.put, List.setIfInBounds_toArray, List.set_cons_zero, List.set_cons_succ])
                              refine wpAnyH_take (i := 1) (v := ?v2) (by simp only [List.getElem?_toArray, List.getElem?_cons_succ, List.getElem?_cons_zero]; rfl) (by kernel_rfl) (by kernel_rfl) (by kernel_rfl) (by exact fun _ _ _ h => h) (Or.inl ⟨by rfl, ?y2⟩) hHeld ?r2
                              case y2 => (intro w hSw; (try dsimp only at hSw); go_simp <;> with_reducible rfl)
                              (try simp only [Act.put, List.setIfInBounds_toArray, List.set_cons_zero, List.set_cons_succ])
                              refine wpAnyH_take (i := 2) (v := ?v3) (by simp only [List.getElem?_toArray, List.getElem?_cons_succ, List.getElem?_cons_zero]; rfl) (by kernel_rfl) (by kernel_rfl) (by kernel_rfl) (by exact fun _ _ _ h => h) (Or.inl ⟨by rfl, ?y3⟩) hHeld ?r3
                              case y3 => (intro w hSw; (try dsimp only at hSw); go_simp <;> with_reducible rfl)
                              (try simp only [Act.put, List.setIfInBounds_toArray, List.set_cons_zero, List.set_cons_succ])
                              refine wpAnyH_take (i := 3) (v := ?v4) (by simp only [List.getElem?_toArray, List.getElem?_cons_succ, List.getElem?_cons_zero]; rfl) (by kernel_rfl) (by kernel_rfl) (by kernel_rfl) (by exact fun _ _ _ h => h) (Or.inl ⟨by rfl, ?y4⟩) hHeld ?r4
                              case y4 => (intro w hSw; (try dsimp only at hSw); go_simp <;> with_reducible rfl)
                              (try simp only [Act.put, List.setIfInBounds_toArray, List.set_cons_zero, List.set_cons_succ])
                              refine wpAnyH_take (i := 8) (v := ?v5) (by simp only [List.getElem?_toArray, List.getElem?_cons_succ, List.getElem?_cons_zero]; rfl) (by kernel_rfl) (by kernel_rfl) (by kernel_rfl) (by exact fun _ _ _ h => h) (Or.inl ⟨by rfl, ?y5⟩) hHeld ?r5
                              case y5 => (intro w hSw; (try dsimp only at hSw); go_simp <;> with_reducible rfl)
                              (try simp only [Act.put, List.setIfInBounds_toArray, List.set_cons_zero, List.set_cons_succ])
                              refine wpAnyH_take (i := 9) (v := ?v6) (by simp only [List.getElem?_toArray, List.getElem?_cons_succ, List.getElem?_cons_zero]; rfl) (by kernel_rfl) (by kernel_rfl) (by kernel_rfl) (by exact fun _ _ _ h => h) (Or.inl ⟨by rfl, ?y6⟩) hHeld ?r6
                              case y6 => (intro w hSw; (try dsimp only at hSw); go_simp <;> with_reducible rfl)
                              (try simp only [Act.put, List.setIfInBounds_toArray, List.set_cons_zero, List.set_cons_succ])
                              refine wpAnyH_take (i := 10) (v := ?v7) (by simp only [List.getElem?_toArray, List.getElem?_cons_succ, List.getElem?_cons_zero]; rfl) (by kernel_rfl) (by kernel_rfl) (by kernel_rfl) (by exact fun _ _ _ h => h) (Or.inl ⟨by rfl, ?y7⟩) hHeld ?r7
                              case y7 => (intro w hSw; (try dsimp only at hSw); go_simp <;> with_reducible rfl)
                              (try simp only [Act.put, List.setIfInBounds_toArray, List.set_cons_zero, List.set_cons_succ])
                              refine wpAnyH_take (i := 14) (v := ?v8) (by simp only [List.getElem?_toArray, List.getElem?_cons_succ, List.getElem?_cons_zero]; rfl) (by kernel_rfl) (by kernel_rfl) (by kernel_rfl) (by exact fun _ _ _ h => h) (Or.inl ⟨by rfl, ?y8⟩) hHeld ?r8
                              case y8 => (intro w hSw; (try dsimp only at hSw); go_simp <;> with_reducible rfl)
                              (try simp only [Act.put, List.setIfInBounds_toArray, List.set_cons_zero, List.set_cons_succ])
                              refine wpAnyH_take (i := 15) (v := ?v9) (by simp only [List.getElem?_toArray, List.getElem?_cons_succ, List.getElem?_cons_zero]; rfl) (by kernel_rfl) (by kernel_rfl) (by kernel_rfl) (by exact fun _ _ _ h => h) (Or.inl ⟨by rfl, ?y9⟩) hHeld ?r9
                              case y9 => (intro w hSw; (try dsimp only at hSw); go_simp <;> with_reducible rfl)
                              (try simp only [Act.put, List.setIfInBounds_toArray, List.set_cons_zero, List.set_cons_succ])
                              refine wpAnyH_take (i := 19) (v := ?v10) (by simp only [List.getElem?_toArray, List.getElem?_cons_succ, List.getElem?_cons_zero]; rfl) (by kernel_rfl) (by kernel_rfl) (by kernel_rfl) (by exact fun _ _ _ h => h) (Or.inl ⟨by rfl, ?y10⟩) hHeld ?r10
                              case y10 => (intro w hSw; (try dsimp only at hSw); go_simp <;> with_reducible rfl)
                              (try simp only [Act.put, List.setIfInBounds_toArray, List.set_cons_zero, List.set_cons_succ])
                              refine wpAnyH_take (i := 20) (v := ?v11) (by simp only [List.getElem?_toArray, List.getElem?_cons_succ, List.getElem?_cons_zero]; rfl) (by kernel_rfl) (by kernel_rfl) (by kernel_rfl) (by exact fun _ _ _ h => h) (Or.inl ⟨by rfl, ?y11⟩) hHeld ?r11
                              case y11 => (intro w hSw; (try dsimp only at hSw); go_simp <;> with_reducible rfl)
                              (try simp only [Act.put, List.setIfInBounds_toArray, List.set_cons_zero, List.set_cons_succ])
                              refine wpAnyH_take (i := 23) (v := ?v12) (by simp only [List.getElem?_toArray, List.getElem?_cons_succ, List.getElem?_cons_zero]; rfl) (by kernel_rfl) (by kernel_rfl) (by kernel_rfl) (by exact fun _ _ _ h => h) (Or.inl ⟨by rfl, ?y12⟩) hHeld ?r12
                              case y12 => (intro w hSw; (try dsimp only at hSw); go_simp <;> with_reducible rfl)
                              (try simp only [Act.put, List.setIfInBounds_toArray, List.set_cons_zero, List.set_cons_succ])
                              refine wpAnyH_take (i := 24) (v := ?v13) (by simp only [List.getElem?_toArray, List.getElem?_cons_succ, List.getElem?_cons_zero]; rfl) (by kernel_rfl) (by kernel_rfl) (by kernel_rfl) (by exact fun _ _ _ h => h) (Or.inl ⟨by rfl, ?y13⟩) hHeld ?r13
                              case y13 => (intro w hSw; (try dsimp only at hSw); go_simp <;> with_reducible rfl)
                              (try simp only [Act.put, List.setIfInBounds_toArray, List.set_cons_zero, List.set_cons_succ])
                              refine wpAnyH_take (i := 27) (v := ?v14) (by simp only [List.getElem?_toArray, List.getElem?_cons_succ, List.getElem?_cons_zero]; rfl) (by kernel_rfl) (by kernel_rfl) (by kernel_rfl) (by exact fun _ _ _ h => h) (Or.inl ⟨by rfl, ?y14⟩) hHeld ?r14
                              case y14 => (intro w hSw; (try dsimp only at hSw); go_simp <;> with_reducible rfl)
                              (try simp only [Act.put, List.setIfInBounds_toArray, List.set_cons_zero, List.set_cons_succ])
                              refine wpAnyH_take (i := 28) (v := ?v15) (by simp only [List.getElem?_toArray, List.getElem?_cons_succ, List.getElem?_cons_zero]; rfl) (by kernel_rfl) (by kernel_rfl) (by kernel_rfl) (by exact fun _ _ _ h => h) (Or.inl ⟨by rfl, ?y15⟩) hHeld ?r15
                              case y15 => (intro w hSw; (try dsimp only at hSw); go_simp <;> with_reducible rfl)
                              (try simp only [Act.put, List.setIfInBounds_toArray, List.set_cons_zero, List.set_cons_succ])
                              refine wpAnyH_take (i := 31) (v := ?v16) (by simp only [List.getElem?_toArray, List.getElem?_cons_succ, List.getElem?_cons_zero]; rfl) (by kernel_rfl) (by kernel_rfl) (by kernel_rfl) (by exact fun _ _ _ h => h) (Or.inl ⟨by rfl, ?y16⟩) hHeld ?r16
                              case y16 => (intro w hSw; (try dsimp only at hSw); go_simp <;> with_reducible rfl)
                              (try simp only [Act.put, List.setIfInBounds_toArray, List.set_cons_zero, List.set_cons_succ])
                              refine wpAnyH_take (i := 32) (v := ?v17) (by simp only [List.getElem?_toArray, List.getElem?_cons_succ, List.getElem?_cons_zero]; rfl) (by kernel_rfl) (by kernel_rfl) (by kernel_rfl) (by exact fun _ _ _ h => h) (Or.inl ⟨by rfl, ?y17⟩) hHeld ?r17
                              case y17 => (intro w hSw; (try dsimp only at hSw); go_simp <;> with_reducible rfl)
                              (try simp only [Act.put, List.setIfInBounds_toArray, List.set_cons_zero, List.set_cons_succ])
                              refine wpAnyH_ready (rs := [4]) (by kernel_rfl) (by simp) ?_
                              refine AllReadyH.cons (by simp only [List.getElem?_toArray, List.getElem?_cons_succ, List.getElem?_cons_zero]; rfl) (fun K hK => ?_) AllReadyH.nil
                              clear hHeld
                              go_simp
                              go_wp2_with ((go_at_call 27; refine (HIT.out th HIX.out.1 _ hx0).mono ?_; rw [HG_th.out]; rintro e w1 ⟨rfl, hb1⟩; have hx1 := hx0.trans (hb1.mono hx0.size); have hs1 := HC.out w1 hx1))
                              refine hK.out _ _ (by (try dsimp only); with_reducible assumption) (fun hHeld => ?_)
                              clear hK K
                              (try simp only [Act.put, List.setIfInBounds_toArray, List.set_cons_zero, List.set_cons_succ])
                              refine wpAnyH_take (i := 5) (v := ?v18) (by simp only [List.getElem?_toArray, List.getElem?_cons_succ, List.getElem?_cons_zero]; rfl) (by kernel_rfl) (by kernel_rfl) (by kernel_rfl) (by exact fun _ _ _ h => h) (Or.inl ⟨by rfl, ?y18⟩) hHeld ?r18
                              case y18 => (intro w hSw; (try dsimp only at hSw); go_simp <;> with_reducible rfl)
                              (try simp only [Act.put, List.setIfInBounds_toArray, List.set_cons_zero, List.set_cons_succ])
                              refine wpAnyH_take (i := 6) (v := ?v19) (by simp only [List.getElem?_toArray, List.getElem?_cons_succ, List.getElem?_cons_zero]; rfl) (by kernel_rfl) (by kernel_rfl) (by kernel_rfl) (by exact fun _ _ _ h => h) (Or.inl ⟨by rfl, ?y19⟩) hHeld ?r19
                              case y19 => (intro w hSw; (try dsimp only at hSw); go_simp <;> with_reducible rfl)
                              (try simp only [Act.put, List.setIfInBounds_toArray, List.set_cons_zero, List.set_cons_succ])
                              refine wpAnyH_ready (rs := [7]) (by kernel_rfl) (by simp) ?_
                              refine AllReadyH.cons (by simp only [List.getElem?_toArray, List.getElem?_cons_succ, List.getElem?_cons_zero]; rfl) (fun K hK => ?_) AllReadyH.nil
                              clear hHeld
                              go_simp
                              go_wp2_with ((go_at_call 28; refine (rkinds_any _).mono ?_; rintro e w2 ⟨rfl, hz2⟩; have hb2 : Below w1.heap.size w1 w2 := (by rw [hz2]; exact (Below.refl _ _).alloc (Nat.le_refl _) _); have hx2 := hx1.trans (hb2.mono hx1.size); have hs2 := HC.out w2 hx2; have kc2 : w2.cell? ⟨w1.heap.size, kk, none⟩ = some (.string ⟨kw.toArray⟩) := (by rw [hz2]; exact kinds_cell HKD.out _); have kl2 : w1.heap.size < w2.heap.size := (by rw [hz2]; simp); clear hz2))
                              refine hK.out _ _ (by (try dsimp only); with_reducible assumption) (fun hHeld => ?_)
                              clear hK K
                              (try simp only [Act.put, List.setIfInBounds_toArray, List.set_cons_zero, List.set_cons_succ])
                              refine wpAnyH_take (i := 11) (v := ?v20) (by simp only [List.getElem?_toArray, List.getElem?_cons_succ, List.getElem?_cons_zero]; rfl) (by kernel_rfl) (by kernel_rfl) (by kernel_rfl) (by exact fun _ _ _ h => h) (Or.inl ⟨by rfl, ?y20⟩) hHeld ?r20
                              case y20 => (intro w hSw; (try dsimp only at hSw); go_simp <;> with_reducible rfl)
                              (try simp only [Act.put, List.setIfInBounds_toArray, List.set_cons_zero, List.set_cons_succ])
                              refine wpAnyH_ready (rs := [12, 16]) (by kernel_rfl) (by simp) ?_
                              refine AllReadyH.cons (by simp only [List.getElem?_toArray, List.getElem?_cons_succ, List.getElem?_cons_zero]; rfl) (fun K hK => ?_) (AllReadyH.cons (by simp only [List.getElem?_toArray, List.getElem?_cons_succ, List.getElem?_cons_zero]; rfl) (fun K hK => ?_) AllReadyH.nil)
                              · clear hHeld
                                go_simp
                                refine hK.out _ _ (by (try dsimp only); with_reducible assumption) (fun hHeld => ?_)
                                clear hK K
                                (try simp only [Act.put, List.setIfInBounds_toArray, List.set_cons_zero, List.set_cons_succ])
                                refine wpAnyH_take (i := 13) (v := ?v21) (by simp only [List.getElem?_toArray, List.getElem?_cons_succ, List.getElem?_cons_zero]; rfl) (by kernel_rfl) (by kernel_rfl) (by kernel_rfl) (by exact fun _ _ _ h => h) (Or.inl ⟨by rfl, ?y21⟩) hHeld ?r21
                                case y21 => (intro w hSw; (try dsimp only at hSw); go_simp <;> with_reducible rfl)
                                (try simp only [Act.put, List.setIfInBounds_toArray, List.set_cons_zero, List.set_cons_succ])
                                refine wpAnyH_ready (rs := [16]) (by kernel_rfl) (by simp) ?_
                                refine AllReadyH.cons (by simp only [List.getElem?_toArray, List.getElem?_cons_succ, List.getElem?_cons_zero]; rfl) (fun K hK => ?_) AllReadyH.nil
                                clear hHeld
                                go_simp
                                go_wp2_with ((go_at_call 27; refine (HIT.out ob HIX.out.2.2.1 _ hx2).mono ?_; rw [HG_ob.out]; rintro e w3 ⟨rfl, hb3⟩; have hx3 := hx2.trans (hb3.mono hx2.size); have hs3 := HC.out w3 hx3))
                                refine hK.out _ _ (by (try dsimp only); with_reducible assumption) (fun hHeld => ?_)
                                clear hK K
                                (try simp only [Act.put, List.setIfInBounds_toArray, List.set_cons_zero, List.set_cons_succ])
                                refine wpAnyH_take (i := 17) (v := ?v22) (by simp only [List.getElem?_toArray, List.getElem?_cons_succ, List.getElem?_cons_zero]; rfl) (by kernel_rfl) (by kernel_rfl) (by kernel_rfl) (by exact fun _ _ _ h => h) (Or.inl ⟨by rfl, ?y22⟩) hHeld ?r22
                                case y22 => (intro w hSw; (try dsimp only at hSw); go_simp <;> with_reducible rfl)
                                (try simp only [Act.put, List.setIfInBounds_toArray, List.set_cons_zero, List.set_cons_succ])
                                refine wpAnyH_take (i := 18) (v := ?v23) (by simp only [List.getElem?_toArray, List.getElem?_cons_succ, List.getElem?_cons_zero]; rfl) (by kernel_rfl) (by kernel_rfl) (by kernel_rfl) (by exact fun _ _ _ h => h) (Or.inl ⟨by rfl, ?y23⟩) hHeld ?r23
                                case y23 => (intro w hSw; (try dsimp only at hSw); go_simp <;> with_reducible rfl)
                                (try simp only [Act.put, List.setIfInBounds_toArray, List.set_cons_zero, List.set_cons_succ])
                                refine wpAnyH_ready (rs := [21]) (by kernel_rfl) (by simp) ?_
                                refine AllReadyH.cons (by simp only [List.getElem?_toArray, List.getElem?_cons_succ, List.getElem?_cons_zero]; rfl) (fun K hK => ?_) AllReadyH.nil
                                clear hHeld
                                go_simp
                                go_wp2_with ((go_at_call 24; refine (HFI.out va HIX.out.2.2.2.1 _ hx3).mono ?_; rw [HG_va.out]; rintro e w4 ⟨rfl, hb4⟩; have hx4 := hx3.trans (hb4.mono hx3.size); have hs4 := HC.out w4 hx4))
                                refine hK.out _ _ (by (try dsimp only); with_reducible assumption) (fun hHeld => ?_)
                                clear hK K
                                (try simp only [Act.put, List.setIfInBounds_toArray, List.set_cons_zero, List.set_cons_succ])
                                refine wpAnyH_take (i := 22) (v := ?v24) (by simp only [List.getElem?_toArray, List.getElem?_cons_succ, List.getElem?_cons_zero]; rfl) (by kernel_rfl) (by kernel_rfl) (by kernel_rfl) (by exact fun _ _ _ h => h) (Or.inl ⟨by rfl, ?y24⟩) hHeld ?r24
                                case y24 => (intro w hSw; (try dsimp only at hSw); go_simp <;> with_reducible rfl)
                                (try simp only [Act.put, List.setIfInBounds_toArray, List.set_cons_zero, List.set_cons_succ])
                                refine wpAnyH_ready (rs := [25]) (by kernel_rfl) (by simp) ?_
                                refine AllReadyH.cons (by simp only [List.getElem?_toArray, List.getElem?_cons_succ, List.getElem?_cons_zero]; rfl) (fun K hK => ?_) AllReadyH.nil
                                clear hHeld
                                go_simp
                                go_wp2_with ((go_at_call 27; refine (HIT.out si HIX.out.2.2.2.2 _ hx4).mono ?_; rw [HG_si.out]; rintro e w5 ⟨rfl, hb5⟩; have hx5 := hx4.trans (hb5.mono hx4.size); have hs5 := HC.out w5 hx5))
                                refine hK.out _ _ (by (try dsimp only); with_reducible assumption) (fun hHeld => ?_)
                                clear hK K
                                (try simp only [Act.put, List.setIfInBounds_toArray, List.set_cons_zero, List.set_cons_succ])
                                refine wpAnyH_take (i := 26) (v := ?v25) (by simp only [List.getElem?_toArray, List.getElem?_cons_succ, List.getElem?_cons_zero]; rfl) (by kernel_rfl) (by kernel_rfl) (by kernel_rfl) (by exact fun _ _ _ h => h) (Or.inl ⟨by rfl, ?y25⟩) hHeld ?r25
                                case y25 => (intro w hSw; (try dsimp only at hSw); go_simp <;> with_reducible rfl)
                                (try simp only [Act.put, List.setIfInBounds_toArray, List.set_cons_zero, List.set_cons_succ])
                                refine wpAnyH_ready (rs := [29]) (by kernel_rfl) (by simp) ?_
                                refine AllReadyH.cons (by simp only [List.getElem?_toArray, List.getElem?_cons_succ, List.getElem?_cons_zero]; rfl) (fun K hK => ?_) AllReadyH.nil
                                clear hHeld
                                go_simp
                                go_wp2_with ((go_at_call 29; refine (HND.out _ hx5).mono ?_; rw [HG_dp.out]; rintro e w6 ⟨rfl, hb6⟩; have hx6 := hx5.trans (hb6.mono hx5.size); have hs6 := HC.out w6 hx6))
                                refine hK.out _ _ (by (try dsimp only); with_reducible assumption) (fun hHeld => ?_)
                                clear hK K
                                (try simp only [Act.put, List.setIfInBounds_toArray, List.set_cons_zero, List.set_cons_succ])
                                refine wpAnyH_take (i := 30) (v := ?v26) (by simp only [List.getElem?_toArray, List.getElem?_cons_succ, List.getElem?_cons_zero]; rfl) (by kernel_rfl) (by kernel_rfl) (by kernel_rfl) (by exact fun _ _ _ h => h) (Or.inl ⟨by rfl, ?y26⟩) hHeld ?r26
                                case y26 => (intro w hSw; (try dsimp only at hSw); go_simp <;> with_reducible rfl)
                                (try simp only [Act.put, List.setIfInBounds_toArray, List.set_cons_zero, List.set_cons_succ])
                                refine wpAnyH_ready (rs := [33]) (by kernel_rfl) (by simp) ?_
                                refine AllReadyH.cons (by simp only [List.getElem?_toArray, List.getElem?_cons_succ, List.getElem?_cons_zero]; rfl) (fun K hK => ?_) AllReadyH.nil
                                clear hHeld
                                go_simp
                                go_wp2_with ((go_at_call 29; refine (HNR.out _ hx6).mono ?_; rw [HG_fr.out]; rintro e w7 ⟨rfl, hb7⟩; have hx7 := hx6.trans (hb7.mono hx6.size); have hs7 := HC.out w7 hx7))
                                refine hK.out _ _ (by (try dsimp only); with_reducible assumption) (fun hHeld => ?_)
                                clear hK K
                                (try simp only [Act.put, List.setIfInBounds_toArray, List.set_cons_zero, List.set_cons_succ])
                                refine wpAnyH_take (i := 34) (v := ?v27) (by simp only [List.getElem?_toArray, List.getElem?_cons_succ, List.getElem?_cons_zero]; rfl) (by kernel_rfl) (by kernel_rfl) (by kernel_rfl) (by exact fun _ _ _ h => h) (Or.inl ⟨by rfl, ?y27⟩) hHeld ?r27
                                case y27 => (intro w hSw; (try dsimp only at hSw); go_simp <;> with_reducible rfl)
                                (try simp only [Act.put, List.setIfInBounds_toArray, List.set_cons_zero, List.set_cons_succ])
                                refine wpAnyH_take (i := 35) (v := ?v28) (by simp only [List.getElem?_toArray, List.getElem?_cons_succ, List.getElem?_cons_zero]; rfl) (by kernel_rfl) (by kernel_rfl) (by kernel_rfl) (by exact fun _ _ _ h => h) (Or.inl ⟨by rfl, ?y28⟩) hHeld ?r28
                                case y28 => (intro w hSw; (try dsimp only at hSw); go_simp <;> with_reducible rfl)
                                (try simp only [Act.put, List.setIfInBounds_toArray, List.set_cons_zero, List.set_cons_succ])
                                refine wpAnyH_take (i := 36) (v := ?v29) (by simp only [List.getElem?_toArray, List.getElem?_cons_succ, List.getElem?_cons_zero]; rfl) (by kernel_rfl) (by kernel_rfl) (by kernel_rfl) (by exact fun _ _ _ h => h) (Or.inl ⟨by rfl, ?y29⟩) hHeld ?r29
                                case y29 => (intro w hSw; (try dsimp only at hSw); go_simp <;> with_reducible rfl)
                                (try simp only [Act.put, List.setIfInBounds_toArray, List.set_cons_zero, List.set_cons_succ])
                                have HKZ := Lib.hid (HKA.out.trans (hx7.mono HKA.out.size))
                                clear hHeld
                                refine wpAnyH_done (by kernel_rfl) ?_ _
                                go_wp2_with fail
                                go_roundw
                                case rel => exact ⟨k + 1, by omega, by go_num, by refine congrArg Value.string ?_; rw [HTS.out, ← HG_th.out, ← HG_ob.out, ← HG_va.out, ← HG_si.out, ← HG_dp.out, ← HG_fr.out, ← HKW2.out]; simp only [str_app]; simp [lineT, Item.head, Item.args, tailS_append, tailS_cons, wEvent], HKZ⟩
                                case measure => simp [intOf]; omega
                              · clear hHeld
                                go_simp
                                go_wp2_with ((go_at_call 27; refine (HIT.out ob HIX.out.2.2.1 _ hx2).mono ?_; rw [HG_ob.out]; rintro e w8 ⟨rfl, hb8⟩; have hx8 := hx2.trans (hb8.mono hx2.size); have hs8 := HC.out w8 hx8; have kc8 := (hb8.cell (p := ⟨w1.heap.size, kk, none⟩) kl2).trans kc2; have kl8 := Nat.lt_of_lt_of_le kl2 hb8.size))
                                refine hK.out _ _ (by (try dsimp only); with_reducible assumption) (fun hHeld => ?_)
                                clear hK K
                                (try simp only [Act.put, List.setIfInBounds_toArray, List.set_cons_zero, List.set_cons_succ])
                                refine wpAnyH_ready (rs := [12, 21]) (by kernel_rfl) (by simp) ?_
                                refine AllReadyH.cons (by simp only [List.getElem?_toArray, List.getElem?_cons_succ, List.getElem?_cons_zero]; rfl) (fun K hK => ?_) (AllReadyH.cons (by simp only [List.getElem?_toArray, List.getElem?_cons_succ, List.getElem?_cons_zero]; rfl) (fun K hK => ?_) AllReadyH.nil)
                                · clear hHeld
                                  go_simp
                                  refine hK.out _ _ (by (try dsimp only); with_reducible assumption) (fun hHeld => ?_)
                                  clear hK K
                                  (try simp only [Act.put, List.setIfInBounds_toArray, List.set_cons_zero, List.set_cons_succ])
                                  refine wpAnyH_take (i := 13) (v := ?v30) (by simp only [List.getElem?_toArray, List.getElem?_cons_succ, List.getElem?_cons_zero]; rfl) (by kernel_rfl) (by kernel_rfl) (by kernel_rfl) (by exact fun _ _ _ h => h) (Or.inl ⟨by rfl, ?y30⟩) hHeld ?r30
                                  case y30 => (intro w hSw; (try dsimp only at hSw); go_simp <;> with_reducible rfl)
                                  (try simp only [Act.put, List.setIfInBounds_toArray, List.set_cons_zero, List.set_cons_succ])
                                  refine wpAnyH_take (i := 17) (v := ?v31) (by simp only [List.getElem?_toArray, List.getElem?_cons_succ, List.getElem?_cons_zero]; rfl) (by kernel_rfl) (by kernel_rfl) (by kernel_rfl) (by exact fun _ _ _ h => h) (Or.inl ⟨by rfl, ?y31⟩) hHeld ?r31
                                  case y31 => (intro w hSw; (try dsimp only at hSw); go_simp <;> with_reducible rfl)
                                  (try simp only [Act.put, List.setIfInBounds_toArray, List.set_cons_zero, List.set_cons_succ])
                                  refine wpAnyH_take (i := 18) (v := ?v32) (by simp only [List.getElem?_toArray, List.getElem?_cons_succ, List.getElem?_cons_zero]; rfl) (by kernel_rfl) (by kernel_rfl) (by kernel_rfl) (by exact fun _ _ _ h => h) (Or.inl ⟨by rfl, ?y32⟩) hHeld ?r32
                                  case y32 => (intro w hSw; (try dsimp only at hSw); go_simp <;> with_reducible rfl)
                                  (try simp only [Act.put, List.setIfInBounds_toArray, List.set_cons_zero, List.set_cons_succ])
                                  refine wpAnyH_ready (rs := [21]) (by kernel_rfl) (by simp) ?_
                                  refine AllReadyH.cons (by simp only [List.getElem?_toArray, List.getElem?_cons_succ, List.getElem?_cons_zero]; rfl) (fun K hK => ?_) AllReadyH.nil
                                  clear hHeld
                                  go_simp
                                  go_wp2_with ((go_at_call 24; refine (HFI.out va HIX.out.2.2.2.1 _ hx8).mono ?_; rw [HG_va.out]; rintro e w9 ⟨rfl, hb9⟩; have hx9 := hx8.trans (hb9.mono hx8.size); have hs9 := HC.out w9 hx9))
                                  refine hK.out _ _ (by (try dsimp only); with_reducible assumption) (fun hHeld => ?_)
                                  clear hK K
                                  (try simp only [Act.put, List.setIfInBounds_toArray, List.set_cons_zero, List.set_cons_succ])
                                  refine wpAnyH_take (i := 22) (v := ?v33) (by simp only [List.getElem?_toArray, List.getElem?_cons_succ, List.getElem?_cons_zero]; rfl) (by kernel_rfl) (by kernel_rfl) (by kernel_rfl) (by exact fun _ _ _ h => h) (Or.inl ⟨by rfl, ?y33⟩) hHeld ?r33
                                  case y33 => (intro w hSw; (try dsimp only at hSw); go_simp <;> with_reducible rfl)
                                  (try simp only [Act.put, List.setIfInBounds_toArray, List.set_cons_zero, List.set_cons_succ])
                                  refine wpAnyH_ready (rs := [25]) (by kernel_rfl) (by simp) ?_
                                  refine AllReadyH.cons (by simp only [List.getElem?_toArray, List.getElem?_cons_succ, List.getElem?_cons_zero]; rfl) (fun K hK => ?_) AllReadyH.nil
                                  clear hHeld
                                  go_simp
                                  go_wp2_with ((go_at_call 27; refine (HIT.out si HIX.out.2.2.2.2 _ hx9).mono ?_; rw [HG_si.out]; rintro e w10 ⟨rfl, hb10⟩; have hx10 := hx9.trans (hb10.mono hx9.size); have hs10 := HC.out w10 hx10))
                                  refine hK.out _ _ (by (try dsimp only); with_reducible assumption) (fun hHeld => ?_)
                                  clear hK K
                                  (try simp only [Act.put, List.setIfInBounds_toArray, List.set_cons_zero, List.set_cons_succ])
                                  refine wpAnyH_take (i := 26) (v := ?v34) (by simp only [List.getElem?_toArray, List.getElem?_cons_succ, List.getElem?_cons_zero]; rfl) (by kernel_rfl) (by kernel_rfl) (by kernel_rfl) (by exact fun _ _ _ h => h) (Or.inl ⟨by rfl, ?y34⟩) hHeld ?r34
                                  case y34 => (intro w hSw; (try dsimp only at hSw); go_simp <;> with_reducible rfl)
                                  (try simp only [Act.put, List.setIfInBounds_toArray, List.set_cons_zero, List.set_cons_succ])
                                  refine wpAnyH_ready (rs := [29]) (by kernel_rfl) (by simp) ?_
                                  refine AllReadyH.cons (by simp only [List.getElem?_toArray, List.getElem?_cons_succ, List.getElem?_cons_zero]; rfl) (fun K hK => ?_) AllReadyH.nil
                                  clear hHeld
                                  go_simp
                                  go_wp2_with ((go_at_call 29; refine (HND.out _ hx10).mono ?_; rw [HG_dp.out]; rintro e w11 ⟨rfl, hb11⟩; have hx11 := hx10.trans (hb11.mono hx10.size); have hs11 := HC.out w11 hx11))
                                  refine hK.out _ _ (by (try dsimp only); with_reducible assumption) (fun hHeld => ?_)
                                  clear hK K
                                  (try simp only [Act.put, List.setIfInBounds_toArray, List.set_cons_zero, List.set_cons_succ])
                                  refine wpAnyH_take (i := 30) (v := ?v35) (by simp only [List.getElem?_toArray, List.getElem?_cons_succ, List.getElem?_cons_zero]; rfl) (by kernel_rfl) (by kernel_rfl) (by kernel_rfl) (by exact fun _ _ _ h => h) (Or.inl ⟨by rfl, ?y35⟩) hHeld ?r35
                                  case y35 => (intro w hSw; (try dsimp only at hSw); go_simp <;> with_reducible rfl)
                                  (try simp only [Act.put, List.setIfInBounds_toArray, List.set_cons_zero, List.set_cons_succ])
                                  refine wpAnyH_ready (rs := [33]) (by kernel_rfl) (by simp) ?_
                                  refine AllReadyH.cons (by simp only [List.getElem?_toArray, List.getElem?_cons_succ, List.getElem?_cons_zero]; rfl) (fun K hK => ?_) AllReadyH.nil
                                  clear hHeld
                                  go_simp
                                  go_wp2_with ((go_at_call 29; refine (HNR.out _ hx11).mono ?_; rw [HG_fr.out]; rintro e w12 ⟨rfl, hb12⟩; have hx12 := hx11.trans (hb12.mono hx11.size); have hs12 := HC.out w12 hx12))
                                  refine hK.out _ _ (by (try dsimp only); with_reducible assumption) (fun hHeld => ?_)
                                  clear hK K
                                  (try simp only [Act.put, List.setIfInBounds_toArray, List.set_cons_zero, List.set_cons_succ])
                                  refine wpAnyH_take (i := 34) (v := ?v36) (by simp only [List.getElem?_toArray, List.getElem?_cons_succ, List.getElem?_cons_zero]; rfl) (by kernel_rfl) (by kernel_rfl) (by kernel_rfl) (by exact fun _ _ _ h => h) (Or.inl ⟨by rfl, ?y36⟩) hHeld ?r36
                                  case y36 => (intro w hSw; (try dsimp only at hSw); go_simp <;> with_reducible rfl)
                                  (try simp only [Act.put, List.setIfInBounds_toArray, List.set_cons_zero, List.set_cons_succ])
                                  refine wpAnyH_take (i := 35) (v := ?v37) (by simp only [List.getElem?_toArray, List.getElem?_cons_succ, List.getElem?_cons_zero]; rfl) (by kernel_rfl) (by kernel_rfl) (by kernel_rfl) (by exact fun _ _ _ h => h) (Or.inl ⟨by rfl, ?y37⟩) hHeld ?r37
                                  case y37 => (intro w hSw; (try dsimp only at hSw); go_simp <;> with_reducible rfl)
                                  (try simp only [Act.put, List.setIfInBounds_toArray, List.set_cons_zero, List.set_cons_succ])
                                  refine wpAnyH_take (i := 36) (v := ?v38) (by simp only [List.getElem?_toArray, List.getElem?_cons_succ, List.getElem?_cons_zero]; rfl) (by kernel_rfl) (by kernel_rfl) (by kernel_rfl) (by exact fun _ _ _ h => h) (Or.inl ⟨by rfl, ?y38⟩) hHeld ?r38
                                  case y38 => (intro w hSw; (try dsimp only at hSw); go_simp <;> with_reducible rfl)
                                  (try simp only [Act.put, List.setIfInBounds_toArray, List.set_cons_zero, List.set_cons_succ])
                                  have HKZ := Lib.hid (HKA.out.trans (hx12.mono HKA.out.size))
                                  clear hHeld
                                  refine wpAnyH_done (by kernel_rfl) ?_ _
                                  go_wp2_with fail
                                  go_roundw
                                  case rel => exact ⟨k + 1, by omega, by go_num, by refine congrArg Value.string ?_; rw [HTS.out, ← HG_th.out, ← HG_ob.out, ← HG_va.out, ← HG_si.out, ← HG_dp.out, ← HG_fr.out, ← HKW2.out]; simp only [str_app]; simp [lineT, Item.head, Item.args, tailS_append, tailS_cons, wEvent], HKZ⟩
                                  case measure => simp [intOf]; omega
                                · clear hHeld
                                  go_simp
                                  go_wp2_with ((go_at_call 24; refine (HFI.out va HIX.out.2.2.2.1 _ hx8).mono ?_; rw [HG_va.out]; rintro e w13 ⟨rfl, hb13⟩; have hx13 := hx8.trans (hb13.mono hx8.size); have hs13 := HC.out w13 hx13; have kc13 := (hb13.cell (p := ⟨w1.heap.size, kk, none⟩) kl8).trans kc8; have kl13 := Nat.lt_of_lt_of_le kl8 hb13.size))
                                  refine hK.out _ _ (by (try dsimp only); with_reducible assumption) (fun hHeld => ?_)
                                  clear hK K
                                  (try simp only [Act.put, List.setIfInBounds_toArray, List.set_cons_zero, List.set_cons_succ])
                                  refine wpAnyH_ready (rs := [12, 25]) (by kernel_rfl) (by simp) ?_
                                  refine AllReadyH.cons (by simp only [List.getElem?_toArray, List.getElem?_cons_succ, List.getElem?_cons_zero]; rfl) (fun K hK => ?_) (AllReadyH.cons (by simp only [List.getElem?_toArray, List.getElem?_cons_succ, List.getElem?_cons_zero]; rfl) (fun K hK => ?_) AllReadyH.nil)
                                  · clear hHeld
                                    go_simp
                                    refine hK.out _ _ (by (try dsimp only); with_reducible assumption) (fun hHeld => ?_)
                                    clear hK K
                                    (try simp only [Act.put, List.setIfInBounds_toArray, List.set_cons_zero, List.set_cons_succ])
                                    refine wpAnyH_take (i := 13) (v := ?v39) (by simp only [List.getElem?_toArray, List.getElem?_cons_succ, List.getElem?_cons_zero]; rfl) (by kernel_rfl) (by kernel_rfl) (by kernel_rfl) (by exact fun _ _ _ h => h) (Or.inl ⟨by rfl, ?y39⟩) hHeld ?r39
                                    case y39 => (intro w hSw; (try dsimp only at hSw); go_simp <;> with_reducible rfl)
                                    (try simp only [Act.put, List.setIfInBounds_toArray, List.set_cons_zero, List.set_cons_succ])
                                    refine wpAnyH_take (i := 17) (v := ?v40) (by simp only [List.getElem?_toArray, List.getElem?_cons_succ, List.getElem?_cons_zero]; rfl) (by kernel_rfl) (by kernel_rfl) (by kernel_rfl) (by exact fun _ _ _ h => h) (Or.inl ⟨by rfl, ?y40⟩) hHeld ?r40
                                    case y40 => (intro w hSw; (try dsimp only at hSw); go_simp <;> with_reducible rfl)
                                    (try simp only [Act.put, List.setIfInBounds_toArray, List.set_cons_zero, List.set_cons_succ])
                                    refine wpAnyH_take (i := 18) (v := ?v41) (by simp only [List.getElem?_toArray, List.getElem?_cons_succ, List.getElem?_cons_zero]; rfl) (by kernel_rfl) (by kernel_rfl) (by kernel_rfl) (by exact fun _ _ _ h => h) (Or.inl ⟨by rfl, ?y41⟩) hHeld ?r41
                                    case y41 => (intro w hSw; (try dsimp only at hSw); go_simp <;> with_reducible rfl)
                                    (try simp only [Act.put, List.setIfInBounds_toArray, List.set_cons_zero, List.set_cons_succ])
                                    refine wpAnyH_take (i := 22) (v := ?v42) (by simp only [List.getElem?_toArray, List.getElem?_cons_succ, List.getElem?_cons_zero]; rfl) (by kernel_rfl) (by kernel_rfl) (by kernel_rfl) (by exact fun _ _ _ h => h) (Or.inl ⟨by rfl, ?y42⟩) hHeld ?r42
                                    case y42 => (intro w hSw; (try dsimp only at hSw); go_simp <;> with_reducible rfl)
                                    (try simp only [Act.put, List.setIfInBounds_toArray, List.set_cons_zero, List.set_cons_succ])
                                    refine wpAnyH_ready (rs := [25]) (by kernel_rfl) (by simp) ?_
                                    refine AllReadyH.cons (by simp only [List.getElem?_toArray, List.getElem?_cons_succ, List.getElem?_cons_zero]; rfl) (fun K hK => ?_) AllReadyH.nil
                                    clear hHeld
                                    go_simp
                                    go_wp2_with ((go_at_call 27; refine (HIT.out si HIX.out.2.2.2.2 _ hx13).mono ?_; rw [HG_si.out]; rintro e w14 ⟨rfl, hb14⟩; have hx14 := hx13.trans (hb14.mono hx13.size); have hs14 := HC.out w14 hx14))
                                    refine hK.out _ _ (by (try dsimp only); with_reducible assumption) (fun hHeld => ?_)
                                    clear hK K
                                    (try simp only [Act.put, List.setIfInBounds_toArray, List.set_cons_zero, List.set_cons_succ])
                                    refine wpAnyH_take (i := 26) (v := ?v43) (by simp only [List.getElem?_toArray, List.getElem?_cons_succ, List.getElem?_cons_zero]; rfl) (by kernel_rfl) (by kernel_rfl) (by kernel_rfl) (by exact fun _ _ _ h => h) (Or.inl ⟨by rfl, ?y43⟩) hHeld ?r43
                                    case y43 => (intro w hSw; (try dsimp only at hSw); go_simp <;> with_reducible rfl)
                                    (try simp only [Act.put, List.setIfInBounds_toArray, List.set_cons_zero, List.set_cons_succ])
                                    refine wpAnyH_ready (rs := [29]) (by kernel_rfl) (by simp) ?_
                                    refine AllReadyH.cons (by simp only [List.getElem?_toArray, List.getElem?_cons_succ, List.getElem?_cons_zero]; rfl) (fun K hK => ?_) AllReadyH.nil
                                    clear hHeld
                                    go_simp
                                    go_wp2_with ((go_at_call 29; refine (HND.out _ hx14).mono ?_; rw [HG_dp.out]; rintro e w15 ⟨rfl, hb15⟩; have hx15 := hx14.trans (hb15.mono hx14.size); have hs15 := HC.out w15 hx15))
                                    refine hK.out _ _ (by (try dsimp only); with_reducible assumption) (fun hHeld => ?_)
                                    clear hK K
                                    (try simp only [Act.put, List.setIfInBounds_toArray, List.set_cons_zero, List.set_cons_succ])
                                    refine wpAnyH_take (i := 30) (v := ?v44) (by simp only [List.getElem?_toArray, List.getElem?_cons_succ, List.getElem?_cons_zero]; rfl) (by kernel_rfl) (by kernel_rfl) (by kernel_rfl) (by exact fun _ _ _ h => h) (Or.inl ⟨by rfl, ?y44⟩) hHeld ?r44
                                    case y44 => (intro w hSw; (try dsimp only at hSw); go_simp <;> with_reducible rfl)
                                    (try simp only [Act.put, List.setIfInBounds_toArray, List.set_cons_zero, List.set_cons_succ])
                                    refine wpAnyH_ready (rs := [33]) (by kernel_rfl) (by simp) ?_
                                    refine AllReadyH.cons (by simp only [List.getElem?_toArray, List.getElem?_cons_succ, List.getElem?_cons_zero]; rfl) (fun K hK => ?_) AllReadyH.nil
                                    clear hHeld
                                    go_simp
                                    go_wp2_with ((go_at_call 29; refine (HNR.out _ hx15).mono ?_; rw [HG_fr.out]; rintro e w16 ⟨rfl, hb16⟩; have hx16 := hx15.trans (hb16.mono hx15.size); have hs16 := HC.out w16 hx16))
                                    refine hK.out _ _ (by (try dsimp only); with_reducible assumption) (fun hHeld => ?_)
                                    clear hK K
                                    (try simp only [Act.put, List.setIfInBounds_toArray, List.set_cons_zero, List.set_cons_succ])
                                    refine wpAnyH_take (i := 34) (v := ?v45) (by simp only [List.getElem?_toArray, List.getElem?_cons_succ, List.getElem?_cons_zero]; rfl) (by kernel_rfl) (by kernel_rfl) (by kernel_rfl) (by exact fun _ _ _ h => h) (Or.inl ⟨by rfl, ?y45⟩) hHeld ?r45
                                    case y45 => (intro w hSw; (try dsimp only at hSw); go_simp <;> with_reducible rfl)
                                    (try simp only [Act.put, List.setIfInBounds_toArray, List.set_cons_zero, List.set_cons_succ])
                                    refine wpAnyH_take (i := 35) (v := ?v46) (by simp only [List.getElem?_toArray, List.getElem?_cons_succ, List.getElem?_cons_zero]; rfl) (by kernel_rfl) (by kernel_rfl) (by kernel_rfl) (by exact fun _ _ _ h => h) (Or.inl ⟨by rfl, ?y46⟩) hHeld ?r46
                                    case y46 => (intro w hSw; (try dsimp only at hSw); go_simp <;> with_reducible rfl)
                                    (try simp only [Act.put, List.setIfInBounds_toArray, List.set_cons_zero, List.set_cons_succ])
                                    refine wpAnyH_take (i := 36) (v := ?v47) (by simp only [List.getElem?_toArray, List.getElem?_cons_succ, List.getElem?_cons_zero]; rfl) (by kernel_rfl) (by kernel_rfl) (by kernel_rfl) (by exact fun _ _ _ h => h) (Or.inl ⟨by rfl, ?y47⟩) hHeld ?r47
                                    case y47 => (intro w hSw; (try dsimp only at hSw); go_simp <;> with_reducible rfl)
                                    (try simp only [Act.put, List.setIfInBounds_toArray, List.set_cons_zero, List.set_cons_succ])
                                    have HKZ := Lib.hid (HKA.out.trans (hx16.mono HKA.out.size))
                                    clear hHeld
                                    refine wpAnyH_done (by kernel_rfl) ?_ _
                                    go_wp2_with fail
                                    go_roundw
                                    case rel => exact ⟨k + 1, by omega, by go_num, by refine congrArg Value.string ?_; rw [HTS.out, ← HG_th.out, ← HG_ob.out, ← HG_va.out, ← HG_si.out, ← HG_dp.out, ← HG_fr.out, ← HKW2.out]; simp only [str_app]; simp [lineT, Item.head, Item.args, tailS_append, tailS_cons, wEvent], HKZ⟩
                                    case measure => simp [intOf]; omega
                                  · clear hHeld
                                    go_simp
                                    go_wp2_with ((go_at_call 27; refine (HIT.out si HIX.out.2.2.2.2 _ hx13).mono ?_; rw [HG_si.out]; rintro e w17 ⟨rfl, hb17⟩; have hx17 := hx13.trans (hb17.mono hx13.size); have hs17 := HC.out w17 hx17; have kc17 := (hb17.cell (p := ⟨w1.heap.size, kk, none⟩) kl13).trans kc13; have kl17 := Nat.lt_of_lt_of_le kl13 hb17.size))
                                    refine hK.out _ _ (by (try dsimp only); with_reducible assumption) (fun hHeld => ?_)
                                    clear hK K
                                    (try simp only [Act.put, List.setIfInBounds_toArray, List.set_cons_zero, List.set_cons_succ])
                                    refine wpAnyH_ready (rs := [12, 29]) (by kernel_rfl) (by simp) ?_
                                    refine AllReadyH.cons (by simp only [List.getElem?_toArray, List.getElem?_cons_succ, List.getElem?_cons_zero]; rfl) (fun K hK => ?_) (AllReadyH.cons (by simp only [List.getElem?_toArray, List.getElem?_cons_succ, List.getElem?_cons_zero]; rfl) (fun K hK => ?_) AllReadyH.nil)
                                    · clear hHeld
                                      go_simp
                                      refine hK.out _ _ (by (try dsimp only); with_reducible assumption) (fun hHeld => ?_)
                                      clear hK K
                                      (try simp only [Act.put, List.setIfInBounds_toArray, List.set_cons_zero, List.set_cons_succ])
                                      refine wpAnyH_take (i := 13) (v := ?v48) (by simp only [List.getElem?_toArray, List.getElem?_cons_succ, List.getElem?_cons_zero]; rfl) (by kernel_rfl) (by kernel_rfl) (by kernel_rfl) (by exact fun _ _ _ h => h) (Or.inl ⟨by rfl, ?y48⟩) hHeld ?r48
                                      case y48 => (intro w hSw; (try dsimp only at hSw); go_simp <;> with_reducible rfl)
                                      (try simp only [Act.put, List.setIfInBounds_toArray, List.set_cons_zero, List.set_cons_succ])
                                      refine wpAnyH_take (i := 17) (v := ?v49) (by simp only [List.getElem?_toArray, List.getElem?_cons_succ, List.getElem?_cons_zero]; rfl) (by kernel_rfl) (by kernel_rfl) (by kernel_rfl) (by exact fun _ _ _ h => h) (Or.inl ⟨by rfl, ?y49⟩) hHeld ?r49
                                      case y49 => (intro w hSw; (try dsimp only at hSw); go_simp <;> with_reducible rfl)
                                      (try simp only [Act.put, List.setIfInBounds_toArray, List.set_cons_zero, List.set_cons_succ])
                                      refine wpAnyH_take (i := 18) (v := ?v50) (by simp only [List.getElem?_toArray, List.getElem?_cons_succ, List.getElem?_cons_zero]; rfl) (by kernel_rfl) (by kernel_rfl) (by kernel_rfl) (by exact fun _ _ _ h => h) (Or.inl ⟨by rfl, ?y50⟩) hHeld ?r50
                                      case y50 => (intro w hSw; (try dsimp only at hSw); go_simp <;> with_reducible rfl)
                                      (try simp only [Act.put, List.setIfInBounds_toArray, List.set_cons_zero, List.set_cons_succ])
                                      refine wpAnyH_take (i := 22) (v := ?v51) (by simp only [List.getElem?_toArray, List.getElem?_cons_succ, List.getElem?_cons_zero]; rfl) (by kernel_rfl) (by kernel_rfl) (by kernel_rfl) (by exact fun _ _ _ h => h) (Or.inl ⟨by rfl, ?y51⟩) hHeld ?r51
                                      case y51 => (intro w hSw; (try dsimp only at hSw); go_simp <;> with_reducible rfl)
                                      (try simp only [Act.put, List.setIfInBounds_toArray, List.set_cons_zero, List.set_cons_succ])
                                      refine wpAnyH_take (i := 26) (v := ?v52) (by simp only [List.getElem?_toArray, List.getElem?_cons_succ, List.getElem?_cons_zero]; rfl) (by kernel_rfl) (by kernel_rfl) (by kernel_rfl) (by exact fun _ _ _ h => h) (Or.inl ⟨by rfl, ?y52⟩) hHeld ?r52
                                      case y52 => (intro w hSw; (try dsimp only at hSw); go_simp <;> with_reducible rfl)
                                      (try simp only [Act.put, List.setIfInBounds_toArray, List.set_cons_zero, List.set_cons_succ])
                                      refine wpAnyH_ready (rs := [29]) (by kernel_rfl) (by simp) ?_
                                      refine AllReadyH.cons (by simp only [List.getElem?_toArray, List.getElem?_cons_succ, List.getElem?_cons_zero]; rfl) (fun K hK => ?_) AllReadyH.nil
                                      clear hHeld
                                      go_simp
                                      go_wp2_with ((go_at_call 29; refine (HND.out _ hx17).mono ?_; rw [HG_dp.out]; rintro e w18 ⟨rfl, hb18⟩; have hx18 := hx17.trans (hb18.mono hx17.size); have hs18 := HC.out w18 hx18))
                                      refine hK.out _ _ (by (try dsimp only); with_reducible assumption) (fun hHeld => ?_)
                                      clear hK K
                                      (try simp only [Act.put, List.setIfInBounds_toArray, List.set_cons_zero, List.set_cons_succ])
                                      refine wpAnyH_take (i := 30) (v := ?v53) (by simp only [List.getElem?_toArray, List.getElem?_cons_succ, List.getElem?_cons_zero]; rfl) (by kernel_rfl) (by kernel_rfl) (by kernel_rfl) (by exact fun _ _ _ h => h) (Or.inl ⟨by rfl, ?y53⟩) hHeld ?r53
                                      case y53 => (intro w hSw; (try dsimp only at hSw); go_simp <;> with_reducible rfl)
                                      (try simp only [Act.put, List.setIfInBounds_toArray, List.set_cons_zero, List.set_cons_succ])
                                      refine wpAnyH_ready (rs := [33]) (by kernel_rfl) (by simp) ?_
                                      refine AllReadyH.cons (by simp only [List.getElem?_toArray, List.getElem?_cons_succ, List.getElem?_cons_zero]; rfl) (fun K hK => ?_) AllReadyH.nil
                                      clear hHeld
                                      go_simp
                                      go_wp2_with ((go_at_call 29; refine (HNR.out _ hx18).mono ?_; rw [HG_fr.out]; rintro e w19 ⟨rfl, hb19⟩; have hx19 := hx18.trans (hb19.mono hx18.size); have hs19 := HC.out w19 hx19))
                                      refine hK.out _ _ (by (try dsimp only); with_reducible assumption) (fun hHeld => ?_)
                                      clear hK K
                                      (try simp only [Act.put, List.setIfInBounds_toArray, List.set_cons_zero, List.set_cons_succ])
                                      refine wpAnyH_take (i := 34) (v := ?v54) (by simp only [List.getElem?_toArray, List.getElem?_cons_succ, List.getElem?_cons_zero]; rfl) (by kernel_rfl) (by kernel_rfl) (by kernel_rfl) (by exact fun _ _ _ h => h) (Or.inl ⟨by rfl, ?y54⟩) hHeld ?r54
                                      case y54 => (intro w hSw; (try dsimp only at hSw); go_simp <;> with_reducible rfl)
                                      (try simp only [Act.put, List.setIfInBounds_toArray, List.set_cons_zero, List.set_cons_succ])
                                      refine wpAnyH_take (i := 35) (v := ?v55) (by simp only [List.getElem?_toArray, List.getElem?_cons_succ, List.getElem?_cons_zero]; rfl) (by kernel_rfl) (by kernel_rfl) (by kernel_rfl) (by exact fun _ _ _ h => h) (Or.inl ⟨by rfl, ?y55⟩) hHeld ?r55
                                      case y55 => (intro w hSw; (try dsimp only at hSw); go_simp <;> with_reducible rfl)
                                      (try simp only [Act.put, List.setIfInBounds_toArray, List.set_cons_zero, List.set_cons_succ])
                                      refine wpAnyH_take (i := 36) (v := ?v56) (by simp only [List.getElem?_toArray, List.getElem?_cons_succ, List.getElem?_cons_zero]; rfl) (by kernel_rfl) (by kernel_rfl) (by kernel_rfl) (by exact fun _ _ _ h => h) (Or.inl ⟨by rfl, ?y56⟩) hHeld ?r56
                                      case y56 => (intro w hSw; (try dsimp only at hSw); go_simp <;> with_reducible rfl)
                                      (try simp only [Act.put, List.setIfInBounds_toArray, List.set_cons_zero, List.set_cons_succ])
                                      have HKZ := Lib.hid (HKA.out.trans (hx19.mono HKA.out.size))
                                      clear hHeld
                                      refine wpAnyH_done (by kernel_rfl) ?_ _
                                      go_wp2_with fail
                                      go_roundw
                                      case rel => exact ⟨k + 1, by omega, by go_num, by refine congrArg Value.string ?_; rw [HTS.out, ← HG_th.out, ← HG_ob.out, ← HG_va.out, ← HG_si.out, ← HG_dp.out, ← HG_fr.out, ← HKW2.out]; simp only [str_app]; simp [lineT, Item.head, Item.args, tailS_append, tailS_cons, wEvent], HKZ⟩
                                      case measure => simp [intOf]; omega
                                    · clear hHeld
                                      go_simp
                                      go_wp2_with ((go_at_call 29; refine (HND.out _ hx17).mono ?_; rw [HG_dp.out]; rintro e w20 ⟨rfl, hb20⟩; have hx20 := hx17.trans (hb20.mono hx17.size); have hs20 := HC.out w20 hx20; have kc20 := (hb20.cell (p := ⟨w1.heap.size, kk, none⟩) kl17).trans kc17; have kl20 := Nat.lt_of_lt_of_le kl17 hb20.size))
                                      refine hK.out _ _ (by (try dsimp only); with_reducible assumption) (fun hHeld => ?_)
                                      clear hK K
                                      (try simp only [Act.put, List.setIfInBounds_toArray, List.set_cons_zero, List.set_cons_succ])
                                      refine wpAnyH_ready (rs := [12, 33]) (by kernel_rfl) (by simp) ?_
                                      refine AllReadyH.cons (by simp only [List.getElem?_toArray, List.getElem?_cons_succ, List.getElem?_cons_zero]; rfl) (fun K hK => ?_) (AllReadyH.cons (by simp only [List.getElem?_toArray, List.getElem?_cons_succ, List.getElem?_cons_zero]; rfl) (fun K hK => ?_) AllReadyH.nil)
                                      · clear hHeld
                                        go_simp
                                        refine hK.out _ _ (by (try dsimp only); with_reducible assumption) (fun hHeld => ?_)
                                        clear hK K
                                        (try simp only [Act.put, List.setIfInBounds_toArray, List.set_cons_zero, List.set_cons_succ])
                                        refine wpAnyH_take (i := 13) (v := ?v57) (by simp only [List.getElem?_toArray, List.getElem?_cons_succ, List.getElem?_cons_zero]; rfl) (by kernel_rfl) (by kernel_rfl) (by kernel_rfl) (by exact fun _ _ _ h => h) (Or.inl ⟨by rfl, ?y57⟩) hHeld ?r57
                                        case y57 => (intro w hSw; (try dsimp only at hSw); go_simp <;> with_reducible rfl)
                                        (try simp only [Act.put, List.setIfInBounds_toArray, List.set_cons_zero, List.set_cons_succ])
                                        refine wpAnyH_take (i := 17) (v := ?v58) (by simp only [List.getElem?_toArray, List.getElem?_cons_succ, List.getElem?_cons_zero]; rfl) (by kernel_rfl) (by kernel_rfl) (by kernel_rfl) (by exact fun _ _ _ h => h) (Or.inl ⟨by rfl, ?y58⟩) hHeld ?r58
                                        case y58 => (intro w hSw; (try dsimp only at hSw); go_simp <;> with_reducible rfl)
                                        (try simp only [Act.put, List.setIfInBounds_toArray, List.set_cons_zero, List.set_cons_succ])
                                        refine wpAnyH_take (i := 18) (v := ?v59) (by simp only [List.getElem?_toArray, List.getElem?_cons_succ, List.getElem?_cons_zero]; rfl) (by kernel_rfl) (by kernel_rfl) (by kernel_rfl) (by exact fun _ _ _ h => h) (Or.inl ⟨by rfl, ?y59⟩) hHeld ?r59
                                        case y59 => (intro w hSw; (try dsimp only at hSw); go_simp <;> with_reducible rfl)
                                        (try simp only [Act.put, List.setIfInBounds_toArray, List.set_cons_zero, List.set_cons_succ])
                                        refine wpAnyH_take (i := 22) (v := ?v60) (by simp only [List.getElem?_toArray, List.getElem?_cons_succ, List.getElem?_cons_zero]; rfl) (by kernel_rfl) (by kernel_rfl) (by kernel_rfl) (by exact fun _ _ _ h => h) (Or.inl ⟨by rfl, ?y60⟩) hHeld ?r60
                                        case y60 => (intro w hSw; (try dsimp only at hSw); go_simp <;> with_reducible rfl)
                                        (try simp only [Act.put, List.setIfInBounds_toArray, List.set_cons_zero, List.set_cons_succ])
                                        refine wpAnyH_take (i := 26) (v := ?v61) (by simp only [List.getElem?_toArray, List.getElem?_cons_succ, List.getElem?_cons_zero]; rfl) (by kernel_rfl) (by kernel_rfl) (by kernel_rfl) (by exact fun _ _ _ h => h) (Or.inl ⟨by rfl, ?y61⟩) hHeld ?r61
                                        case y61 => (intro w hSw; (try dsimp only at hSw); go_simp <;> with_reducible rfl)
                                        (try simp only [Act.put, List.setIfInBounds_toArray, List.set_cons_zero, List.set_cons_succ])
                                        refine wpAnyH_take (i := 30) (v := ?v62) (by simp only [List.getElem?_toArray, List.getElem?_cons_succ, List.getElem?_cons_zero]; rfl) (by kernel_rfl) (by kernel_rfl) (by kernel_rfl) (by exact fun _ _ _ h => h) (Or.inl ⟨by rfl, ?y62⟩) hHeld ?r62
                                        case y62 => (intro w hSw; (try dsimp only at hSw); go_simp <;> with_reducible rfl)
                                        (try simp only [Act.put, List.setIfInBounds_toArray, List.set_cons_zero, List.set_cons_succ])
                                        refine wpAnyH_ready (rs := [33]) (by kernel_rfl) (by simp) ?_
                                        refine AllReadyH.cons (by simp only [List.getElem?_toArray, List.getElem?_cons_succ, List.getElem?_cons_zero]; rfl) (fun K hK => ?_) AllReadyH.nil
                                        clear hHeld
                                        go_simp
                                        go_wp2_with ((go_at_call 29; refine (HNR.out _ hx20).mono ?_; rw [HG_fr.out]; rintro e w21 ⟨rfl, hb21⟩; have hx21 := hx20.trans (hb21.mono hx20.size); have hs21 := HC.out w21 hx21))
                                        refine hK.out _ _ (by (try dsimp only); with_reducible assumption) (fun hHeld => ?_)
                                        clear hK K
                                        (try simp only [Act.put, List.setIfInBounds_toArray, List.set_cons_zero, List.set_cons_succ])
                                        refine wpAnyH_take (i := 34) (v := ?v63) (by simp only [List.getElem?_toArray, List.getElem?_cons_succ, List.getElem?_cons_zero]; rfl) (by kernel_rfl) (by kernel_rfl) (by kernel_rfl) (by exact fun _ _ _ h => h) (Or.inl ⟨by rfl, ?y63⟩) hHeld ?r63
                                        case y63 => (intro w hSw; (try dsimp only at hSw); go_simp <;> with_reducible rfl)
                                        (try simp only [Act.put, List.setIfInBounds_toArray, List.set_cons_zero, List.set_cons_succ])
                                        refine wpAnyH_take (i := 35) (v := ?v64) (by simp only [List.getElem?_toArray, List.getElem?_cons_succ, List.getElem?_cons_zero]; rfl) (by kernel_rfl) (by kernel_rfl) (by kernel_rfl) (by exact fun _ _ _ h => h) (Or.inl ⟨by rfl, ?y64⟩) hHeld ?r64
                                        case y64 => (intro w hSw; (try dsimp only at hSw); go_simp <;> with_reducible rfl)
                                        (try simp only [Act.put, List.setIfInBounds_toArray, List.set_cons_zero, List.set_cons_succ])
                                        refine wpAnyH_take (i := 36) (v := ?v65) (by simp only [List.getElem?_toArray, List.getElem?_cons_succ, List.getElem?_cons_zero]; rfl) (by kernel_rfl) (by kernel_rfl) (by kernel_rfl) (by exact fun _ _ _ h => h) (Or.inl ⟨by rfl, ?y65⟩) hHeld ?r65
                                        case y65 => (intro w hSw; (try dsimp only at hSw); go_simp <;> with_reducible rfl)
                                        (try simp only [Act.put, List.setIfInBounds_toArray, List.set_cons_zero, List.set_cons_succ])
                                        have HKZ := Lib.hid (HKA.out.trans (hx21.mono HKA.out.size))
                                        clear hHeld
                                        refine wpAnyH_done (by kernel_rfl) ?_ _
                                        go_wp2_with fail
                                        go_roundw
                                        case rel => exact ⟨k + 1, by omega, by go_num, by refine congrArg Value.string ?_; rw [HTS.out, ← HG_th.out, ← HG_ob.out, ← HG_va.out, ← HG_si.out, ← HG_dp.out, ← HG_fr.out, ← HKW2.out]; simp only [str_app]; simp [lineT, Item.head, Item.args, tailS_append, tailS_cons, wEvent], HKZ⟩
                                        case measure => simp [intOf]; omega
                                      · clear hHeld
                                        go_simp
                                        go_wp2_with ((go_at_call 29; refine (HNR.out _ hx20).mono ?_; rw [HG_fr.out]; rintro e w22 ⟨rfl, hb22⟩; have hx22 := hx20.trans (hb22.mono hx20.size); have hs22 := HC.out w22 hx22; have kc22 := (hb22.cell (p := ⟨w1.heap.size, kk, none⟩) kl20).trans kc20; have kl22 := Nat.lt_of_lt_of_le kl20 hb22.size))
                                        refine hK.out _ _ (by (try dsimp only); with_reducible assumption) (fun hHeld => ?_)
                                        clear hK K
                                        (try simp only [Act.put, List.setIfInBounds_toArray, List.set_cons_zero, List.set_cons_succ])
                                        refine wpAnyH_ready (rs := [12]) (by kernel_rfl) (by simp) ?_
                                        refine AllReadyH.cons (by simp only [List.getElem?_toArray, List.getElem?_cons_succ, List.getElem?_cons_zero]; rfl) (fun K hK => ?_) AllReadyH.nil
                                        clear hHeld
                                        go_simp
                                        refine hK.out _ _ (by (try dsimp only); with_reducible assumption) (fun hHeld => ?_)
                                        clear hK K
                                        (try simp only [Act.put, List.setIfInBounds_toArray, List.set_cons_zero, List.set_cons_succ])
                                        refine wpAnyH_take (i := 13) (v := ?v66) (by simp only [List.getElem?_toArray, List.getElem?_cons_succ, List.getElem?_cons_zero]; rfl) (by kernel_rfl) (by kernel_rfl) (by kernel_rfl) (by exact fun _ _ _ h => h) (Or.inl ⟨by rfl, ?y66⟩) hHeld ?r66
                                        case y66 => (intro w hSw; (try dsimp only at hSw); go_simp <;> with_reducible rfl)
                                        (try simp only [Act.put, List.setIfInBounds_toArray, List.set_cons_zero, List.set_cons_succ])
                                        refine wpAnyH_take (i := 17) (v := ?v67) (by simp only [List.getElem?_toArray, List.getElem?_cons_succ, List.getElem?_cons_zero]; rfl) (by kernel_rfl) (by kernel_rfl) (by kernel_rfl) (by exact fun _ _ _ h => h) (Or.inl ⟨by rfl, ?y67⟩) hHeld ?r67
                                        case y67 => (intro w hSw; (try dsimp only at hSw); go_simp <;> with_reducible rfl)
                                        (try simp only [Act.put, List.setIfInBounds_toArray, List.set_cons_zero, List.set_cons_succ])
                                        refine wpAnyH_take (i := 18) (v := ?v68) (by simp only [List.getElem?_toArray, List.getElem?_cons_succ, List.getElem?_cons_zero]; rfl) (by kernel_rfl) (by kernel_rfl) (by kernel_rfl) (by exact fun _ _ _ h => h) (Or.inl ⟨by rfl, ?y68⟩) hHeld ?r68
                                        case y68 => (intro w hSw; (try dsimp only at hSw); go_simp <;> with_reducible rfl)
                                        (try simp only [Act.put, List.setIfInBounds_toArray, List.set_cons_zero, List.set_cons_succ])
                                        refine wpAnyH_take (i := 22) (v := ?v69) (by simp only [List.getElem?_toArray, List.getElem?_cons_succ, List.getElem?_cons_zero]; rfl) (by kernel_rfl) (by kernel_rfl) (by kernel_rfl) (by exact fun _ _ _ h => h) (Or.inl ⟨by rfl, ?y69⟩) hHeld ?r69
                                        case y69 => (intro w hSw; (try dsimp only at hSw); go_simp <;> with_reducible rfl)
                                        (try simp only [Act.put, List.setIfInBounds_toArray, List.set_cons_zero, List.set_cons_succ])
                                        refine wpAnyH_take (i := 26) (v := ?v70) (by simp only [List.getElem?_toArray, List.getElem?_cons_succ, List.getElem?_cons_zero]; rfl) (by kernel_rfl) (by kernel_rfl) (by kernel_rfl) (by exact fun _ _ _ h => h) (Or.inl ⟨by rfl, ?y70⟩) hHeld ?r70
                                        case y70 => (intro w hSw; (try dsimp only at hSw); go_simp <;> with_reducible rfl)
                                        (try simp only [Act.put, List.setIfInBounds_toArray, List.set_cons_zero, List.set_cons_succ])
                                        refine wpAnyH_take (i := 30) (v := ?v71) (by simp only [List.getElem?_toArray, List.getElem?_cons_succ, List.getElem?_cons_zero]; rfl) (by kernel_rfl) (by kernel_rfl) (by kernel_rfl) (by exact fun _ _ _ h => h) (Or.inl ⟨by rfl, ?y71⟩) hHeld ?r71
                                        case y71 => (intro w hSw; (try dsimp only at hSw); go_simp <;> with_reducible rfl)
                                        (try simp only [Act.put, List.setIfInBounds_toArray, List.set_cons_zero, List.set_cons_succ])
                                        refine wpAnyH_take (i := 34) (v := ?v72) (by simp only [List.getElem?_toArray, List.getElem?_cons_succ, List.getElem?_cons_zero]; rfl) (by kernel_rfl) (by kernel_rfl) (by kernel_rfl) (by exact fun _ _ _ h => h) (Or.inl ⟨by rfl, ?y72⟩) hHeld ?r72
                                        case y72 => (intro w hSw; (try dsimp only at hSw); go_simp <;> with_reducible rfl)
                                        (try simp only [Act.put, List.setIfInBounds_toArray, List.set_cons_zero, List.set_cons_succ])
                                        refine wpAnyH_take (i := 35) (v := ?v73) (by simp only [List.getElem?_toArray, List.getElem?_cons_succ, List.getElem?_cons_zero]; rfl) (by kernel_rfl) (by kernel_rfl) (by kernel_rfl) (by exact fun _ _ _ h => h) (Or.inl ⟨by rfl, ?y73⟩) hHeld ?r73
                                        case y73 => (intro w hSw; (try dsimp only at hSw); go_simp <;> with_reducible rfl)
                                        (try simp only [Act.put, List.setIfInBounds_toArray, List.set_cons_zero, List.set_cons_succ])
                                        refine wpAnyH_take (i := 36) (v := ?v74) (by simp only [List.getElem?_toArray, List.getElem?_cons_succ, List.getElem?_cons_zero]; rfl) (by kernel_rfl) (by kernel_rfl) (by kernel_rfl) (by exact fun _ _ _ h => h) (Or.inl ⟨by rfl, ?y74⟩) hHeld ?r74
                                        case y74 => (intro w hSw; (try dsimp only at hSw); go_simp <;> with_reducible rfl)
                                        (try simp only [Act.put, List.setIfInBounds_toArray, List.set_cons_zero, List.set_cons_succ])
                                        have HKZ := Lib.hid (HKA.out.trans (hx22.mono HKA.out.size))
                                        clear hHeld
                                        refine wpAnyH_done (by kernel_rfl) ?_ _
                                        go_wp2_with fail
                                        go_roundw
                                        case rel => exact ⟨k + 1, by omega, by go_num, by refine congrArg Value.string ?_; rw [HTS.out, ← HG_th.out, ← HG_ob.out, ← HG_va.out, ← HG_si.out, ← HG_dp.out, ← HG_fr.out, ← HKW2.out]; simp only [str_app]; simp [lineT, Item.head, Item.args, tailS_append, tailS_cons, wEvent], HKZ⟩
                                        case measure => simp [intOf]; omega
                            · obtain rfl : k = t.events.length := by omega
                              have lk : ¬ ((t.events.length : Int) < (t.events.length : Int)) := by omega
                              clear hlt hkl
                              rw [List.take_length]
                              rw [← HTE.out]
                              go_wp2_with fail
                              go_ret
                              exact ⟨rfl, HWK.out _ HKW.out⟩
end Go.Proofs.YtmnjmegejaejlaaDoor
