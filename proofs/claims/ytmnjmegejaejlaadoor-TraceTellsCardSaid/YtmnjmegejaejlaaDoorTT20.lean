/-
  WALK: trace.readLine at a line of 'event'.
-/
import Derived.Test.YtmnjmegejaejlaaDoorTT17
namespace Go.Proofs.YtmnjmegejaejlaaDoor
open Go.RowKit

theorem info_row_event : (Tryd.prog.info? 53).map (fun i => (i.zero, i.size, i.bytes)) = some (some (.agg #[.int .i64 0, .int .i64 0, .int .i64 0, .int .i64 0, .int .i64 0, .slice none 0 0, .slice none 0 0]), 7, 88) := by kernel_rfl
set_option maxRecDepth 100000 in
set_option maxHeartbeats 16000000 in
theorem tline_event (base b ab off n c : Nat) (ps : List (List UInt8)) (v : Nat → Value) (t : Trc) (ds : List (Value × Value)) (w : World) (hT : TrS w base b v t ds) (hp : PT w) (hG : GT b) (hn : n = ps.length + 1) (hc : n ≤ c) (hm : c ≤ maxLen) (hab : ab < w.heap.size)
    (hcell : ∀ j s, (wEvent :: ps)[j]? = some s → w.cell? ⟨ab, off + j, none⟩ = some (.string ⟨s.toArray⟩)) (hl : ∀ p ∈ ps, p.length ≤ 1000000000) (hrn : ∀ i, rowN t i ≤ 1000000000) (hpn : ps.length ≤ 1000000000) :
    Calls Tryd.prog 16 #[.pointer (some ⟨b, 0, none⟩), .slice (some ⟨ab, off, none⟩) n c] w (LineRet w base b t (itemI wEvent ps)) := by
  obtain ⟨dp, hsl, hdp⟩ := cut_fromT (some ⟨ab, off, none⟩) n c 1 (by omega) hc
  have hsl2 : ∀ w : World, (Instr.slice 25 (.slice (some ⟨ab, off, none⟩) n c) (some (.int .i64 1)) none none).run Tryd.prog w = .ok (.slice dp (n - 1) (c - 1)) w := hsl
  have HR0 := Lib.hid (rdr_new hn hc hm hab hcell hdp)
  have hb0 : Below w.heap.size w (w.alloc (.cells #[.slice dp (n - 1) (c - 1), .bool true] 77)) := (Below.refl _ _).alloc (Nat.le_refl _) _
  have HB0 := Lib.hid hb0
  have HT0 := Lib.hid (hT.keep hb0)
  have HP0 := Lib.hid (hp.below hb0)
  have HBB : Hid (b < base ∧ base ≤ w.heap.size) := Lib.hid ⟨hT.lt, hT.le⟩
  have HG : Hid (GT w.heap.size) := Lib.hid (gt_mono hG (by have := hT.lt; have := hT.le; omega))
  have h0 := hcell 0 wEvent rfl
  rw [Nat.add_zero] at h0
  unfold wEvent at h0
  have h0a := (hb0.cell (p := ⟨ab, off, none⟩) hab).trans h0
  have HAB : Hid (ab < w.heap.size) := Lib.hid hab
  have HPL := Lib.hid hl
  have HRN := Lib.hid hrn
  have HPLN := Lib.hid hpn
  have hn0 : 0 < n := by omega
  have HN := Lib.hid hn
  have HTL : Hid (∀ g, Below w.heap.size w g → TrS g base b v t ds) := Lib.hid (fun g hg => hT.keep hg)
  obtain ⟨nm, hnm⟩ : ∃ nm, ps.headD [] = nm := ⟨_, rfl⟩
  have HNM := Lib.hid hnm
  clear hT hp hG hcell hdp hsl hl hrn hb0 hn hc hm hab hnm hpn
  go_enter Tryd.func16, Tryd.ntmps16
  obtain ⟨iC, hiC, hzC0, hzC1, hzC2⟩ := info_parts info_row_event
  go_upto_region 29 with fail
  generalize hw0 : w.alloc (.cells #[.slice dp (n - 1) (c - 1), .bool true] 77) = w0 at *
  have HW0 : Hid (w0.heap.size = w.heap.size + 1) := Lib.hid (by rw [← hw0]; simp)
  clear hw0
  have HG0 : Hid (w0.grownBy w0 (some w.heap.size)) := Lib.hid (below_grownT (Below.refl _ _) _)
  have HL0 := HPL
  have HPL2 := HPLN
  have HBW : Hid (base ≤ w.heap.size) := Lib.hid HBB.out.2
  have HW1 : Hid (w.heap.size ≤ w0.drew.heap.size) := Lib.hid (by have := HW0.out; show _ ≤ w0.heap.size; omega)
  have HOB : Hid (∀ i, i < 7 → ∀ g, (v i).ownBlock = some g → base ≤ g ∧ g < w.heap.size) := Lib.hid (fun i hi => (HTL.out w (Below.refl _ _)).own hi)
  have HBB2 : Hid (b ≤ w.heap.size) := Lib.hid (by have := HBB.out; omega)
  have r0 := HT0.out.blk.cell 6
  simp only [List.getElem?_toArray, List.getElem?_cons_zero, List.getElem?_cons_succ] at r0
  have HC0 := Lib.hid (tevent_rd w.heap.size ps true w0.drew (HR0.out.keep (Below.refl _ _).drew) (HP0.out.below (Below.refl _ _).drew) HG.out HL0.out HPL2.out)
  clear h0 h0a
  go_region_law (first
    | (refine step_call_ret rfl 35 _ _ rfl _ Tryd.func35 (by kernel_rfl) (by kernel_rfl) #[.pointer (some ⟨w.heap.size, 0, none⟩)] (by first | rfl | (simp [Act.eval]; done) | (simp [Act.eval, Act.put]; done)) HC0.out (fun e w' h => (by obtain ⟨e1, e2, e3, e4, e5, e6, _⟩ := h; exact ⟨_, e6⟩)) ?_; intro u0 w1 hv; obtain ⟨ev, dv, fv, l4, okk, he, hok, hdv, hfv, ⟨hr, hg⟩, hev1, hev2⟩ := hv; injection he with he; subst he; have HEV := Lib.hid (And.intro hev1 hev2); have HOK := Lib.hid hok; have HDV := Lib.hid hdv; have HFV := Lib.hid hfv; clear hev1 hev2 hok hdv hfv; obtain ⟨Ad, cd, hd, -⟩ := HDV.out; subst hd; obtain ⟨Af, cf, hf, -⟩ := HFV.out; subst hf; unfold Evn.val; have hg := undrew hg; have HG1 := Lib.hid hg; have HP1 := Lib.hid (HP0.out.step hg HG.out HR0.out.lt); have HR1 := Lib.hid hr; clear hr hg; have HB1 := Lib.hid (HB0.out.trans (grown_below HG1.out (B := w.heap.size) (by have := HW0.out; omega) (Nat.le_refl _))); have r1 := (HTL.out w1 HB1.out).blk.cell 6; simp only [List.getElem?_toArray, List.getElem?_cons_zero, List.getElem?_cons_succ] at r1; have HT5 := Lib.hid (HTL.out w1 HB1.out); have HNW := Lib.hid (cells_at w1 53 [.int .i64 ev.thread, .int .i64 ev.kind, .int .i64 ev.obj, .int .i64 ev.value, .int .i64 ev.site, .slice Ad ev.deps.length cd, .slice Af ev.frm.length cf] rfl); have HON : Hid (∀ u ∈ ([.int .i64 ev.thread, .int .i64 ev.kind, .int .i64 ev.obj, .int .i64 ev.value, .int .i64 ev.site, .slice Ad ev.deps.length cd, .slice Af ev.frm.length cf] : List Value), u.oneCell' = true) := Lib.hid (by intro u hu; simp at hu; rcases hu with rfl | rfl | rfl | rfl | rfl | rfl | rfl <;> rfl); have HM1 : Hid (rowN t 6 + 1 ≤ maxLen) := (by refine Lib.hid ?_; have := HRN.out 6; unfold maxLen; omega); have HM2 : Hid ((rowN t 6 + 1) * 88 ≤ 140737488355328) := (by refine Lib.hid ?_; have := HRN.out 6; omega); have HM3 : Hid (base ≤ (w1.alloc (.cells #[.int .i64 ev.thread, .int .i64 ev.kind, .int .i64 ev.obj, .int .i64 ev.value, .int .i64 ev.site, .slice Ad ev.deps.length cd, .slice Af ev.frm.length cf] 53)).heap.size) := (by refine Lib.hid ?_; have := HT5.out.le; simp; omega); have HOW := Lib.hid ((HT5.out.row 6 (by omega)).alloc (.cells #[.int .i64 ev.thread, .int .i64 ev.kind, .int .i64 ev.obj, .int .i64 ev.value, .int .i64 ev.site, .slice Ad ev.deps.length cd, .slice Af ev.frm.length cf] 53)); obtain ⟨vr, hrb, Ar, cr, hvr, -⟩ := HR1.out; subst hvr; have HRB := Lib.hid hrb; clear hrb; have ra := (HT5.out.blk.alloc (.cells #[.int .i64 ev.thread, .int .i64 ev.kind, .int .i64 ev.obj, .int .i64 ev.value, .int .i64 ev.site, .slice Ad ev.deps.length cd, .slice Af ev.frm.length cf] 53)).cell 6; simp only [List.getElem?_toArray, List.getElem?_cons_zero, List.getElem?_cons_succ] at ra)
    | (refine step_app_own rfl (.tmp 119) (.tmp 121) 29 rfl base 53 iC _ 7 88 Tryd.underlying29 hiC hzC0 hzC1 hzC2 rfl (by decide) (v 6) (rowN t 6) (rowX t ds 6) (by first | rfl | simp [Act.eval]) HOW.out ⟨w1.heap.size, 0, none⟩ 1 1 [.int .i64 ev.thread, .int .i64 ev.kind, .int .i64 ev.obj, .int .i64 ev.value, .int .i64 ev.site, .slice Ad ev.deps.length cd, .slice Af ev.frm.length cf] (by first | rfl | simp [Act.eval]) rfl HNW.out HON.out HM1.out HM2.out HM3.out ?_; intro v7 w7 hown hg hat; have HDV2 : Hid (IntsO w1 (EvP base v) (.slice Ad ev.deps.length cd) ev.deps) := Lib.hid (HDV.out.mono (fun g _ hg => evp_new HOB.out HBW.out (Nat.le_trans HW1.out hg))); have HFV2 : Hid (IntsO w1 (EvP base v) (.slice Af ev.frm.length cf) ev.frm) := Lib.hid (HFV.out.mono (fun g _ hg => evp_new HOB.out HBW.out (Nat.le_trans HW1.out hg))); have hg1 : (w1.alloc (.cells #[.int .i64 ev.thread, .int .i64 ev.kind, .int .i64 ev.obj, .int .i64 ev.value, .int .i64 ev.site, .slice Ad ev.deps.length cd, .slice Af ev.frm.length cf] 53)).grownBy w7 (v 6).ownBlock := ⟨hg.os, hg.tape, hg.output, hg.size, hg.block⟩; obtain ⟨A7, c7, e7, -, -, -⟩ := owns_rd hown; subst e7; have HT8 := Lib.hid (HT5.out.push (i := 6) (it := (.event ev)) (d := (.slice Ad ev.deps.length cd, .slice Af ev.frm.length cf)) rfl hown hg1 hat (by intro e he; injection he with he; subst he; exact ⟨HDV2.out, HFV2.out⟩) HOK.out); have hb7 := (HT5.out.blk.alloc (.cells #[.int .i64 ev.thread, .int .i64 ev.kind, .int .i64 ev.obj, .int .i64 ev.value, .int .i64 ev.site, .slice Ad ev.deps.length cd, .slice Af ev.frm.length cf] 53)).grown hg1 (by intro e; have := HOB.out 6 (by omega) b e.symm; have := HBB.out; omega); have k7 := hb7.cell 6; have z7 := hb7.frozen 6; simp only [List.getElem?_toArray, List.getElem?_cons_zero, List.getElem?_cons_succ] at k7; have HRB7 := Lib.hid ((HRB.out.alloc (.cells #[.int .i64 ev.thread, .int .i64 ev.kind, .int .i64 ev.obj, .int .i64 ev.value, .int .i64 ev.site, .slice Ad ev.deps.length cd, .slice Af ev.frm.length cf] 53)).grown hg1 (by intro e; have := HOB.out 6 (by omega) w.heap.size e.symm; omega)); have HB7 : Hid (Below b w w7) := Lib.hid (((HB1.out.mono HBB2.out).alloc (Nat.le_trans HBB2.out HB1.out.size) _).grown hg1 (by have := HBB2.out; have := HB1.out.size; simp; omega) (fun g e => by have := HOB.out 6 (by omega) g e; have := HBB.out; omega)); clear hown hg hat hb7 hg1))
  all_goals
    have HRB8 := Lib.hid (HRB7.out.grown (grownBy_set0 w7 b 6 (.slice A7 (rowN t 6 + 1) c7)) (by intro e; injection e with e; have := HBB.out; omega))
    have HB8 := Lib.hid (HB7.out.setCell (Nat.le_refl b) (.slice A7 (rowN t 6 + 1) c7) (p := ⟨b, 6, none⟩))
    clear HRB7 HB7 k7 z7 ra r0 r1
    generalize w7.setCell ⟨b, 6, none⟩ (.slice A7 (rowN t 6 + 1) c7) = w8 at *
    have HPN := Lib.hid (event_plain HEV.out)
    have q0 := HRB8.out.cell 0
    have q1 := HRB8.out.cell 1
    simp only [List.getElem?_toArray, List.getElem?_cons_zero, List.getElem?_cons_succ] at q0 q1
    go_upto_region 30 with fail
    cases okk with
    | false =>
      go_quiet (fail)
      go_wp2_with fail
      go_ret2
      exact line_end (it := (.event ev)) (fun h => by cases h) (fun _ => HPN.out.2 (.inl (by simp))) (by simp [Item.group]) (bdrew HB8.out _) (HT8.out.keep (bdrew (Below.refl _ _) _))
    | true =>
      rcases nat_of_list l4 with ⟨hl4, hq⟩ | ⟨hl4, hq⟩
      all_goals
        have HL4 := Lib.hid hl4
        clear hl4
        go_quiet (fail)
        go_wp2_with fail
        go_ret2
        first
          | exact line_end (it := (.event ev)) (fun _ => HPN.out.1 (by simp) HL4.out) (fun h => by cases h) (by simp [Item.group]) (bdrew HB8.out _) (HT8.out.keep (bdrew (Below.refl _ _) _))
          | exact line_end (it := (.event ev)) (fun h => by cases h) (fun _ => HPN.out.2 (.inr HL4.out)) (by simp [Item.group]) (bdrew HB8.out _) (HT8.out.keep (bdrew (Below.refl _ _) _))
end Go.Proofs.YtmnjmegejaejlaaDoor
