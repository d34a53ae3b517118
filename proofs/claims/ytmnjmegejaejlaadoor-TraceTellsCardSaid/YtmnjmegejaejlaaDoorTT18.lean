/-
  WALK: trace.readLine at a line of 'cell'.
-/
import Derived.Test.YtmnjmegejaejlaaDoorTT17
namespace Go.Proofs.YtmnjmegejaejlaaDoor
open Go.RowKit

theorem info_row_cell : (Tryd.prog.info? 55).map (fun i => (i.zero, i.size, i.bytes)) = some (some (.agg #[.string ⟨#[]⟩, .int .i64 0, .int .i64 0, .bool false, .int .i64 0]), 5, 48) := by kernel_rfl
set_option maxRecDepth 100000 in
set_option maxHeartbeats 16000000 in
theorem tline_cell (base b ab off n c : Nat) (ps : List (List UInt8)) (v : Nat → Value) (t : Trc) (ds : List (Value × Value)) (w : World) (hT : TrS w base b v t ds) (hp : PT w) (hG : GT b) (hn : n = ps.length + 1) (hc : n ≤ c) (hm : c ≤ maxLen) (hab : ab < w.heap.size)
    (hcell : ∀ j s, (wCell :: ps)[j]? = some s → w.cell? ⟨ab, off + j, none⟩ = some (.string ⟨s.toArray⟩)) (hl : ∀ p ∈ ps, p.length ≤ 1000000000) (hrn : ∀ i, rowN t i ≤ 1000000000) (hpn : ps.length ≤ 1000000000) :
    Calls Tryd.prog 16 #[.pointer (some ⟨b, 0, none⟩), .slice (some ⟨ab, off, none⟩) n c] w (LineRet w base b t (itemI wCell ps)) := by
  obtain ⟨dp, hsl, hdp⟩ := cut_fromT (some ⟨ab, off, none⟩) n c 1 (by omega) hc
  have hsl2 : ∀ w : World, (Instr.slice 25 (.slice (some ⟨ab, off, none⟩) n c) (some (.int .i64 1)) none none).run Tryd.prog w = .ok (.slice dp (n - 1) (c - 1)) w := hsl
  have HR0 := Lib.hid (rdr_new hn hc hm hab hcell hdp)
  have hb0 : Below w.heap.size w (w.alloc (.cells #[.slice dp (n - 1) (c - 1), .bool true] 77)) := (Below.refl _ _).alloc (Nat.le_refl _) _
  have HB0 := Lib.hid hb0
  have HT0 := Lib.hid (hT.keep hb0)
  have HP0 := Lib.hid (hp.below hb0)
  have HBB : Hid (b < base ∧ base ≤ w.heap.size) := Lib.hid ⟨hT.lt, hT.le⟩
  have HG : Hid (GT w.heap.size) := Lib.hid (gt_mono hG (by have := hT.lt; have := hT.le; omega))
  have h0 := hcell 0 wCell rfl
  rw [Nat.add_zero] at h0
  unfold wCell at h0
  have h0a := (hb0.cell (p := ⟨ab, off, none⟩) hab).trans h0
  have HAB : Hid (ab < w.heap.size) := Lib.hid hab
  have HPL := Lib.hid hl
  have HRN := Lib.hid hrn
  have HPLN := Lib.hid hpn
  have hn0 : 0 < n := by omega
  have HN := Lib.hid hn
  have HTL : Hid (∀ g, Below w.heap.size w g → TrS g base b v t ds) := Lib.hid (fun g hg => hT.keep hg)
  obtain ⟨nm, hnm⟩ : ∃ nm, ps.headD [] = nm := ⟨_, rfl⟩
  have HNM := Lib.hid hnm
  clear hT hp hG hcell hdp hsl hl hrn hb0 hn hc hm hab hnm hpn
  go_enter Tryd.func16, Tryd.ntmps16
  obtain ⟨iC, hiC, hzC0, hzC1, hzC2⟩ := info_parts info_row_cell
  go_wp2_with fail
  generalize hw0 : w.alloc (.cells #[.slice dp (n - 1) (c - 1), .bool true] 77) = w0 at *
  have HW0 : Hid (w0.heap.size = w.heap.size + 1) := Lib.hid (by rw [← hw0]; simp)
  clear hw0
  have HG0 : Hid (w0.grownBy w0 (some w.heap.size)) := Lib.hid (below_grownT (Below.refl _ _) _)
  have HL0 := HPL
  have HL1 := Lib.hid (tail_len HL0.out)
  have HL2 := Lib.hid (tail_len HL1.out)
  have HL3 := Lib.hid (tail_len HL2.out)
  refine (tname_rd w.heap.size ps (true) w0 HR0.out HP0.out HG.out HL0.out).mono ?_
  rintro e w1 ⟨he, hr, hg⟩
  rw [HNM.out] at he
  subst he
  have HR1 := Lib.hid hr
  have HG1 := Lib.hid (grownBy_trans HG0.out hg)
  have HP1 := Lib.hid (HP0.out.step hg HG.out HR0.out.lt)
  clear hr hg
  go_wp2_with fail
  refine (tint_rd w.heap.size ps.tail ((true && nameB ((ps).headD []))) w1 HR1.out HP1.out HG.out HL1.out).mono ?_
  rintro e w2 ⟨x, rfl, hi, hc, hr, hg⟩
  have HI1 := Lib.hid hi
  have HC1 := Lib.hid hc
  have HR2 := Lib.hid hr
  have HG2 := Lib.hid (grownBy_trans HG1.out hg)
  have HP2 := Lib.hid (HP1.out.step hg HG.out HR1.out.lt)
  clear hr hg hi hc
  go_wp2_with fail
  refine (tint_rd w.heap.size ps.tail.tail (((true && nameB ((ps).headD [])) && (canonI ((ps.tail).headD [])).isSome)) w2 HR2.out HP2.out HG.out HL2.out).mono ?_
  rintro e w3 ⟨y, rfl, hi, hc, hr, hg⟩
  have HI2 := Lib.hid hi
  have HC2 := Lib.hid hc
  have HR3 := Lib.hid hr
  have HG3 := Lib.hid (grownBy_trans HG2.out hg)
  have HP3 := Lib.hid (HP2.out.step hg HG.out HR2.out.lt)
  clear hr hg hi hc
  go_wp2_with fail
  refine (tnum_rd w.heap.size ps.tail.tail.tail ((((true && nameB ((ps).headD [])) && (canonI ((ps.tail).headD [])).isSome) && (canonI ((ps.tail.tail).headD [])).isSome)) w3 HR3.out HP3.out HG.out HL3.out).mono ?_
  rintro e w4 ⟨z, rfl, hi, hc, hr, hg⟩
  have HI3 := Lib.hid hi
  have HC3 := Lib.hid hc
  have HR4 := Lib.hid hr
  have HG4 := Lib.hid (grownBy_trans HG3.out hg)
  have HP4 := Lib.hid (HP3.out.step hg HG.out HR3.out.lt)
  clear hr hg hi hc
  have HB4 := Lib.hid (HB0.out.trans (grown_below HG4.out (B := w.heap.size) (by have := HW0.out; omega) (Nat.le_refl _)))
  have hb5 : Below w4.heap.size w4 (w4.alloc (.cells #[.string ⟨nm.toArray⟩, .int .i64 x, .int .i64 y, .bool false, .int .i64 z] 55)) := (Below.refl _ _).alloc (Nat.le_refl _) _
  have hb5' : Below w4.heap.size w4 (w4.alloc (.cells #[.string ⟨nm.toArray⟩, .int .i64 x, .int .i64 y, .bool false, .int .i64 z] 55)) := (Below.refl _ _).alloc (Nat.le_refl _) _
  have hx4 := ((HB4.out.trans (hb5'.mono HB4.out.size)).cell (p := ⟨ab, off, none⟩) HAB.out).trans h0
  have HX5 := Lib.hid (Blk.new w4 55 #[.string ⟨nm.toArray⟩, .int .i64 x, .int .i64 y, .bool false, .int .i64 z])
  have HB5 : Hid (Below w.heap.size w (w4.alloc (.cells #[.string ⟨nm.toArray⟩, .int .i64 x, .int .i64 y, .bool false, .int .i64 z] 55))) := Lib.hid (HB4.out.trans (hb5.mono HB4.out.size))
  have HR5 := Lib.hid (HR4.out.keep hb5)
  have HXB : Hid (w.heap.size < w4.heap.size) := Lib.hid HR4.out.lt
  clear hb5 hb5'
  go_upto_region 10 with fail
  generalize hw5 : w4.alloc (.cells #[.string ⟨nm.toArray⟩, .int .i64 x, .int .i64 y, .bool false, .int .i64 z] 55) = w5 at *
  generalize hxb : w4.heap.size = xb at *
  clear hw5 hxb hx4 h0 h0a
  have HT5 := Lib.hid (HTL.out w5 HB5.out)
  have r0 := HT5.out.blk.cell 0
  have x0 := HX5.out.cell 0
  have x1 := HX5.out.cell 1
  have x2 := HX5.out.cell 2
  have x3 := HX5.out.cell 3
  have x4 := HX5.out.cell 4
  simp only [List.getElem?_toArray, List.getElem?_cons_zero, List.getElem?_cons_succ] at r0 x0 x1 x2 x3 x4
  have HNW := Lib.hid (cells_at w5 55 [.string ⟨nm.toArray⟩, .int .i64 x, .int .i64 y, .bool false, .int .i64 z] rfl)
  have HON : Hid (∀ u ∈ ([.string ⟨nm.toArray⟩, .int .i64 x, .int .i64 y, .bool false, .int .i64 z] : List Value), u.oneCell' = true) := Lib.hid (by intro u hu; simp at hu; rcases hu with rfl | rfl | rfl | rfl | rfl <;> rfl)
  have HM1 : Hid (rowN t 0 + 1 ≤ maxLen) := (by refine Lib.hid ?_; have := HRN.out 0; unfold maxLen; omega)
  have HM2 : Hid ((rowN t 0 + 1) * 48 ≤ 140737488355328) := (by refine Lib.hid ?_; have := HRN.out 0; omega)
  have HM3 : Hid (base ≤ (w5.alloc (.cells #[.string ⟨nm.toArray⟩, .int .i64 x, .int .i64 y, .bool false, .int .i64 z] 55)).heap.size) := (by refine Lib.hid ?_; have := HT5.out.le; simp; omega)
  have HOW := Lib.hid ((HT5.out.row 0 (by omega)).alloc (.cells #[.string ⟨nm.toArray⟩, .int .i64 x, .int .i64 y, .bool false, .int .i64 z] 55))
  obtain ⟨vr, hrb, Ar, cr, rfl, -⟩ := HR5.out
  have HRB := Lib.hid hrb
  have HOB : Hid (∀ i, i < 7 → ∀ g, (v i).ownBlock = some g → base ≤ g ∧ g < w.heap.size) := Lib.hid (fun i hi => (HTL.out w (Below.refl _ _)).own hi)
  have HBB2 : Hid (b ≤ w.heap.size) := Lib.hid (by have := HBB.out; omega)
  clear hrb
  have r0a := (HT5.out.blk.alloc (.cells #[.string ⟨nm.toArray⟩, .int .i64 x, .int .i64 y, .bool false, .int .i64 z] 55)).cell 0
  simp only [List.getElem?_toArray, List.getElem?_cons_zero] at r0a
  have hne1 : ¬ b = xb := by have := HXB.out; have := HBB.out; omega
  have hne2 : ¬ xb = b := fun e => hne1 e.symm
  go_region_law (refine step_app_own rfl (.tmp 36) (.tmp 38) 22 rfl base 55 iC _ 5 48 Tryd.underlying22 hiC hzC0 hzC1 hzC2 rfl (by decide) (v 0) (rowN t 0) (rowX t ds 0) (by first | rfl | simp [Act.eval]) HOW.out.drew ⟨w5.heap.size, 0, none⟩ 1 1 [.string ⟨nm.toArray⟩, .int .i64 x, .int .i64 y, .bool false, .int .i64 z] (by first | rfl | simp [Act.eval]) rfl HNW.out HON.out HM1.out HM2.out HM3.out ?_; intro v7 w7 hown hg hat; have hg1 : (w5.alloc (.cells #[.string ⟨nm.toArray⟩, .int .i64 x, .int .i64 y, .bool false, .int .i64 z] 55)).grownBy w7 (v 0).ownBlock := ⟨hg.os, hg.tape, hg.output, hg.size, hg.block⟩; obtain ⟨A7, c7, e7, -, -, -⟩ := owns_rd hown; subst e7; have HT8 := Lib.hid (HT5.out.push (i := 0) (it := (.cell ⟨nm, x, y, false, z⟩)) (d := (.slice none 0 0, .slice none 0 0)) rfl hown hg1 hat (by intro e he; cases he) ⟨HI1.out, HI2.out, HI3.out⟩); have hb7 := (HT5.out.blk.alloc (.cells #[.string ⟨nm.toArray⟩, .int .i64 x, .int .i64 y, .bool false, .int .i64 z] 55)).grown hg1 (by intro e; have := HOB.out 0 (by omega) b e.symm; have := HBB.out; omega); have k7 := hb7.cell 0; have z7 := hb7.frozen 0; simp only [List.getElem?_toArray, List.getElem?_cons_zero] at k7; have X7 := (HX5.out.alloc (.cells #[.string ⟨nm.toArray⟩, .int .i64 x, .int .i64 y, .bool false, .int .i64 z] 55)).grown hg1 (by intro e; have := HOB.out 0 (by omega) xb e.symm; have := HXB.out; omega); have s0 := X7.cell 0; have s1 := X7.cell 1; have s2 := X7.cell 2; have s3 := X7.cell 3; have s4 := X7.cell 4; simp only [List.getElem?_toArray, List.getElem?_cons_zero, List.getElem?_cons_succ] at s0 s1 s2 s3 s4; clear X7; have HRB7 := Lib.hid ((HRB.out.alloc (.cells #[.string ⟨nm.toArray⟩, .int .i64 x, .int .i64 y, .bool false, .int .i64 z] 55)).grown hg1 (by intro e; have := HOB.out 0 (by omega) w.heap.size e.symm; omega)); have HB7 : Hid (Below b w w7) := Lib.hid (((HB5.out.mono HBB2.out).alloc (Nat.le_trans HBB2.out HB5.out.size) _).grown hg1 (by have := HBB2.out; have := HB5.out.size; simp; omega) (fun g e => by have := HOB.out 0 (by omega) g e; have := HBB.out; omega)); clear hown hg hat hb7 hg1)
  all_goals
    have HRB8 := Lib.hid (HRB7.out.grown (grownBy_set0 w7 b 0 (.slice A7 (rowN t 0 + 1) c7)) (by intro e; injection e with e; have := HBB.out; omega))
    have HB8 := Lib.hid (HB7.out.setCell (Nat.le_refl b) (.slice A7 (rowN t 0 + 1) c7) (p := ⟨b, 0, none⟩))
    clear HRB7 HB7 k7 z7 r0 r0a x0 x1 x2 x3 x4 s0 s1 s2 s3 s4
    generalize w7.setCell ⟨b, 0, none⟩ (.slice A7 (rowN t 0 + 1) c7) = w8 at *
    have HPN := Lib.hid (cell_plain (vol := false) HNM.out HC1.out HC2.out HC3.out)
    have q0 := HRB8.out.cell 0
    have q1 := HRB8.out.cell 1
    simp only [List.getElem?_toArray, List.getElem?_cons_zero, List.getElem?_cons_succ] at q0 q1
    generalize ps.tail.tail.tail.tail = l4 at *
    generalize ((((true && nameB ((ps).headD [])) && (canonI ((ps.tail).headD [])).isSome) && (canonI ((ps.tail.tail).headD [])).isSome) && (canonI ((ps.tail.tail.tail).headD [])).isSome) = okk at *
    go_upto_region 30 with fail
    cases okk with
    | false =>
      go_quiet (fail)
      go_wp2_with fail
      go_ret2
      exact line_end (it := (.cell ⟨nm, x, y, false, z⟩)) (fun h => by cases h) (fun _ => HPN.out.2 (.inl (by simp))) (by simp [Item.group]) (bdrew HB8.out _) (HT8.out.keep (bdrew (Below.refl _ _) _))
    | true =>
      rcases nat_of_list l4 with ⟨hl4, hq⟩ | ⟨hl4, hq⟩
      all_goals
        have HL4 := Lib.hid hl4
        clear hl4
        go_quiet (fail)
        go_wp2_with fail
        go_ret2
        first
          | exact line_end (it := (.cell ⟨nm, x, y, false, z⟩)) (fun _ => HPN.out.1 (by simp) HL4.out) (fun h => by cases h) (by simp [Item.group]) (bdrew HB8.out _) (HT8.out.keep (bdrew (Below.refl _ _) _))
          | exact line_end (it := (.cell ⟨nm, x, y, false, z⟩)) (fun h => by cases h) (fun _ => HPN.out.2 (.inr HL4.out)) (by simp [Item.group]) (bdrew HB8.out _) (HT8.out.keep (bdrew (Below.refl _ _) _))
end Go.Proofs.YtmnjmegejaejlaaDoor
