/-
  WALK: trace.readLine at a line of 'site'.
-/
import Derived.Test.YtmnjmegejaejlaaDoorTT17
namespace Go.Proofs.YtmnjmegejaejlaaDoor
open Go.RowKit

theorem info_row_site : (Tryd.prog.info? 71).map (fun i => (i.zero, i.size, i.bytes)) = some (some (.agg #[.int .i64 0, .int .i64 0, .int .i64 0]), 3, 24) := by kernel_rfl
set_option maxRecDepth 100000 in
set_option maxHeartbeats 16000000 in
theorem tline_site (base b ab off n c : Nat) (ps : List (List UInt8)) (v : Nat → Value) (t : Trc) (ds : List (Value × Value)) (w : World) (hT : TrS w base b v t ds) (hp : PT w) (hG : GT b) (hn : n = ps.length + 1) (hc : n ≤ c) (hm : c ≤ maxLen) (hab : ab < w.heap.size)
    (hcell : ∀ j s, (wSite :: ps)[j]? = some s → w.cell? ⟨ab, off + j, none⟩ = some (.string ⟨s.toArray⟩)) (hl : ∀ p ∈ ps, p.length ≤ 1000000000) (hrn : ∀ i, rowN t i ≤ 1000000000) (hpn : ps.length ≤ 1000000000) :
    Calls Tryd.prog 16 #[.pointer (some ⟨b, 0, none⟩), .slice (some ⟨ab, off, none⟩) n c] w (LineRet w base b t (itemI wSite ps)) := by
  obtain ⟨dp, hsl, hdp⟩ := cut_fromT (some ⟨ab, off, none⟩) n c 1 (by omega) hc
  have hsl2 : ∀ w : World, (Instr.slice 25 (.slice (some ⟨ab, off, none⟩) n c) (some (.int .i64 1)) none none).run Tryd.prog w = .ok (.slice dp (n - 1) (c - 1)) w := hsl
  have HR0 := Lib.hid (rdr_new hn hc hm hab hcell hdp)
  have hb0 : Below w.heap.size w (w.alloc (.cells #[.slice dp (n - 1) (c - 1), .bool true] 77)) := (Below.refl _ _).alloc (Nat.le_refl _) _
  have HB0 := Lib.hid hb0
  have HT0 := Lib.hid (hT.keep hb0)
  have HP0 := Lib.hid (hp.below hb0)
  have HBB : Hid (b < base ∧ base ≤ w.heap.size) := Lib.hid ⟨hT.lt, hT.le⟩
  have HG : Hid (GT w.heap.size) := Lib.hid (gt_mono hG (by have := hT.lt; have := hT.le; omega))
  have h0 := hcell 0 wSite rfl
  rw [Nat.add_zero] at h0
  unfold wSite at h0
  have h0a := (hb0.cell (p := ⟨ab, off, none⟩) hab).trans h0
  have HAB : Hid (ab < w.heap.size) := Lib.hid hab
  have HPL := Lib.hid hl
  have HRN := Lib.hid hrn
  have HPLN := Lib.hid hpn
  have hn0 : 0 < n := by omega
  have HN := Lib.hid hn
  have HTL : Hid (∀ g, Below w.heap.size w g → TrS g base b v t ds) := Lib.hid (fun g hg => hT.keep hg)
  obtain ⟨nm, hnm⟩ : ∃ nm, ps.headD [] = nm := ⟨_, rfl⟩
  have HNM := Lib.hid hnm
  clear hT hp hG hcell hdp hsl hl hrn hb0 hn hc hm hab hnm hpn
  go_enter Tryd.func16, Tryd.ntmps16
  obtain ⟨iC, hiC, hzC0, hzC1, hzC2⟩ := info_parts info_row_site
  go_upto_region 26 with fail
  generalize hw0 : w.alloc (.cells #[.slice dp (n - 1) (c - 1), .bool true] 77) = w0 at *
  have HW0 : Hid (w0.heap.size = w.heap.size + 1) := Lib.hid (by rw [← hw0]; simp)
  clear hw0
  have HG0 : Hid (w0.grownBy w0 (some w.heap.size)) := Lib.hid (below_grownT (Below.refl _ _) _)
  have HL0 := HPL
  have HL1 := Lib.hid (tail_len HL0.out)
  have HL2 := Lib.hid (tail_len HL1.out)
  have HOB : Hid (∀ i, i < 7 → ∀ g, (v i).ownBlock = some g → base ≤ g ∧ g < w.heap.size) := Lib.hid (fun i hi => (HTL.out w (Below.refl _ _)).own hi)
  have HBB2 : Hid (b ≤ w.heap.size) := Lib.hid (by have := HBB.out; omega)
  have r0 := HT0.out.blk.cell 5
  simp only [List.getElem?_toArray, List.getElem?_cons_zero, List.getElem?_cons_succ] at r0
  have HC0 := Lib.hid (tint_rd w.heap.size ps true w0.drew (HR0.out.keep (Below.refl _ _).drew) (HP0.out.below (Below.refl _ _).drew) HG.out HL0.out)
  clear h0 h0a
  go_region_law (first
    | (refine step_call_ret rfl 33 _ _ rfl _ Tryd.func33 (by kernel_rfl) (by kernel_rfl) #[.pointer (some ⟨w.heap.size, 0, none⟩)] (by first | rfl | (simp [Act.eval]; done) | (simp [Act.eval, Act.put]; done)) HC0.out (fun e w' h => (by obtain ⟨x, e1, _⟩ := h; exact ⟨_, e1⟩)) ?_; intro u0 w1 hv; obtain ⟨x, he, hi, hc, hr, hg⟩ := hv; injection he with he; subst he; have HI0 := Lib.hid hi; have HCV0 := Lib.hid hc; clear hi hc; have hg := undrew hg; have HG1 := Lib.hid hg; have HP1 := Lib.hid (HP0.out.step hg HG.out HR0.out.lt); have HR1 := Lib.hid hr; clear hr hg; have HB1 := Lib.hid (HB0.out.trans (grown_below HG1.out (B := w.heap.size) (by have := HW0.out; omega) (Nat.le_refl _))); have r1 := (HTL.out w1 HB1.out).blk.cell 5; simp only [List.getElem?_toArray, List.getElem?_cons_zero, List.getElem?_cons_succ] at r1; have HC1 := Lib.hid (tint_rd w.heap.size (ps.tail) ((true && (canonI ((ps).headD [])).isSome)) w1 HR1.out HP1.out HG.out HL1.out))
    | (refine step_call_ret rfl 33 _ _ rfl _ Tryd.func33 (by kernel_rfl) (by kernel_rfl) #[.pointer (some ⟨w.heap.size, 0, none⟩)] (by first | rfl | (simp [Act.eval]; done) | (simp [Act.eval, Act.put]; done)) HC1.out (fun e w' h => (by obtain ⟨x, e1, _⟩ := h; exact ⟨_, e1⟩)) ?_; intro u1 w2 hv; obtain ⟨y, he, hi, hc, hr, hg⟩ := hv; injection he with he; subst he; have HI1 := Lib.hid hi; have HCV1 := Lib.hid hc; clear hi hc; have HG2 := Lib.hid (grownBy_trans HG1.out hg); have HP2 := Lib.hid (HP1.out.step hg HG.out HR1.out.lt); have HR2 := Lib.hid hr; clear hr hg; have HB2 := Lib.hid (HB0.out.trans (grown_below HG2.out (B := w.heap.size) (by have := HW0.out; omega) (Nat.le_refl _))); have r2 := (HTL.out w2 HB2.out).blk.cell 5; simp only [List.getElem?_toArray, List.getElem?_cons_zero, List.getElem?_cons_succ] at r2; have HC2 := Lib.hid (tint_rd w.heap.size (ps.tail.tail) (((true && (canonI ((ps).headD [])).isSome) && (canonI ((ps.tail).headD [])).isSome)) w2 HR2.out HP2.out HG.out HL2.out))
    | (refine step_call_ret rfl 33 _ _ rfl _ Tryd.func33 (by kernel_rfl) (by kernel_rfl) #[.pointer (some ⟨w.heap.size, 0, none⟩)] (by first | rfl | (simp [Act.eval]; done) | (simp [Act.eval, Act.put]; done)) HC2.out (fun e w' h => (by obtain ⟨x, e1, _⟩ := h; exact ⟨_, e1⟩)) ?_; intro u2 w3 hv; obtain ⟨z, he, hi, hc, hr, hg⟩ := hv; injection he with he; subst he; have HI2 := Lib.hid hi; have HCV2 := Lib.hid hc; clear hi hc; have HG3 := Lib.hid (grownBy_trans HG2.out hg); have HP3 := Lib.hid (HP2.out.step hg HG.out HR2.out.lt); have HR3 := Lib.hid hr; clear hr hg; have HB3 := Lib.hid (HB0.out.trans (grown_below HG3.out (B := w.heap.size) (by have := HW0.out; omega) (Nat.le_refl _))); have r3 := (HTL.out w3 HB3.out).blk.cell 5; simp only [List.getElem?_toArray, List.getElem?_cons_zero, List.getElem?_cons_succ] at r3; have HT5 := Lib.hid (HTL.out w3 HB3.out); have HNW := Lib.hid (cells_at w3 71 [.int .i64 x, .int .i64 y, .int .i64 z] rfl); have HON : Hid (∀ u ∈ ([.int .i64 x, .int .i64 y, .int .i64 z] : List Value), u.oneCell' = true) := Lib.hid (by intro u hu; simp at hu; rcases hu with rfl | rfl | rfl <;> rfl); have HM1 : Hid (rowN t 5 + 1 ≤ maxLen) := (by refine Lib.hid ?_; have := HRN.out 5; unfold maxLen; omega); have HM2 : Hid ((rowN t 5 + 1) * 24 ≤ 140737488355328) := (by refine Lib.hid ?_; have := HRN.out 5; omega); have HM3 : Hid (base ≤ (w3.alloc (.cells #[.int .i64 x, .int .i64 y, .int .i64 z] 71)).heap.size) := (by refine Lib.hid ?_; have := HT5.out.le; simp; omega); have HOW := Lib.hid ((HT5.out.row 5 (by omega)).alloc (.cells #[.int .i64 x, .int .i64 y, .int .i64 z] 71)); obtain ⟨vr, hrb, Ar, cr, hvr, -⟩ := HR3.out; subst hvr; have HRB := Lib.hid hrb; clear hrb; have ra := (HT5.out.blk.alloc (.cells #[.int .i64 x, .int .i64 y, .int .i64 z] 71)).cell 5; simp only [List.getElem?_toArray, List.getElem?_cons_zero, List.getElem?_cons_succ] at ra)
    | (refine step_app_own rfl (.tmp 104) (.tmp 109) 26 rfl base 71 iC _ 3 24 Tryd.underlying26 hiC hzC0 hzC1 hzC2 rfl (by decide) (v 5) (rowN t 5) (rowX t ds 5) (by first | rfl | simp [Act.eval]) HOW.out ⟨w3.heap.size, 0, none⟩ 1 1 [.int .i64 x, .int .i64 y, .int .i64 z] (by first | rfl | simp [Act.eval]) rfl HNW.out HON.out HM1.out HM2.out HM3.out ?_; intro v7 w7 hown hg hat; have hg1 : (w3.alloc (.cells #[.int .i64 x, .int .i64 y, .int .i64 z] 71)).grownBy w7 (v 5).ownBlock := ⟨hg.os, hg.tape, hg.output, hg.size, hg.block⟩; obtain ⟨A7, c7, e7, -, -, -⟩ := owns_rd hown; subst e7; have HT8 := Lib.hid (HT5.out.push (i := 5) (it := (.site ⟨x, y, z⟩)) (d := (.slice none 0 0, .slice none 0 0)) rfl hown hg1 hat (by intro e he; cases he) ⟨HI0.out, HI1.out, HI2.out⟩); have hb7 := (HT5.out.blk.alloc (.cells #[.int .i64 x, .int .i64 y, .int .i64 z] 71)).grown hg1 (by intro e; have := HOB.out 5 (by omega) b e.symm; have := HBB.out; omega); have k7 := hb7.cell 5; have z7 := hb7.frozen 5; simp only [List.getElem?_toArray, List.getElem?_cons_zero, List.getElem?_cons_succ] at k7; have HRB7 := Lib.hid ((HRB.out.alloc (.cells #[.int .i64 x, .int .i64 y, .int .i64 z] 71)).grown hg1 (by intro e; have := HOB.out 5 (by omega) w.heap.size e.symm; omega)); have HB7 : Hid (Below b w w7) := Lib.hid (((HB3.out.mono HBB2.out).alloc (Nat.le_trans HBB2.out HB3.out.size) _).grown hg1 (by have := HBB2.out; have := HB3.out.size; simp; omega) (fun g e => by have := HOB.out 5 (by omega) g e; have := HBB.out; omega)); clear hown hg hat hb7 hg1))
  all_goals
    have HRB8 := Lib.hid (HRB7.out.grown (grownBy_set0 w7 b 5 (.slice A7 (rowN t 5 + 1) c7)) (by intro e; injection e with e; have := HBB.out; omega))
    have HB8 := Lib.hid (HB7.out.setCell (Nat.le_refl b) (.slice A7 (rowN t 5 + 1) c7) (p := ⟨b, 5, none⟩))
    clear HRB7 HB7 k7 z7 ra r0 r1 r2 r3
    generalize w7.setCell ⟨b, 5, none⟩ (.slice A7 (rowN t 5 + 1) c7) = w8 at *
    have HPN := Lib.hid (site_plain HCV0.out HCV1.out HCV2.out)
    have q0 := HRB8.out.cell 0
    have q1 := HRB8.out.cell 1
    simp only [List.getElem?_toArray, List.getElem?_cons_zero, List.getElem?_cons_succ] at q0 q1
    generalize ps.tail.tail.tail = l4 at *
    generalize (((true && (canonI ((ps).headD [])).isSome) && (canonI ((ps.tail).headD [])).isSome) && (canonI ((ps.tail.tail).headD [])).isSome) = okk at *
    go_upto_region 30 with fail
    cases okk with
    | false =>
      go_quiet (fail)
      go_wp2_with fail
      go_ret2
      exact line_end (it := (.site ⟨x, y, z⟩)) (fun h => by cases h) (fun _ => HPN.out.2 (.inl (by simp))) (by simp [Item.group]) (bdrew HB8.out _) (HT8.out.keep (bdrew (Below.refl _ _) _))
    | true =>
      rcases nat_of_list l4 with ⟨hl4, hq⟩ | ⟨hl4, hq⟩
      all_goals
        have HL4 := Lib.hid hl4
        clear hl4
        go_quiet (fail)
        go_wp2_with fail
        go_ret2
        first
          | exact line_end (it := (.site ⟨x, y, z⟩)) (fun _ => HPN.out.1 (by simp) HL4.out) (fun h => by cases h) (by simp [Item.group]) (bdrew HB8.out _) (HT8.out.keep (bdrew (Below.refl _ _) _))
          | exact line_end (it := (.site ⟨x, y, z⟩)) (fun h => by cases h) (fun _ => HPN.out.2 (.inr HL4.out)) (by simp [Item.group]) (bdrew HB8.out _) (HT8.out.keep (bdrew (Below.refl _ _) _))
end Go.Proofs.YtmnjmegejaejlaaDoor
