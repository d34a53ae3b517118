/-
  WALK: trace.readLine at a line of 'cell'.
  WALK: trace.readLine at a line of 'rwlock'.
-/
import Derived.Test.YtmnjmegejaejlaaDoorTT17
namespace Go.Proofs.YtmnjmegejaejlaaDoor
open Go.RowKit

theorem other_plain {h : List UInt8} {ps : List (List UInt8)} (hw : ∀ x ∈ [wCell, wVol, wMutex, wRw, wCond, wFut, wThr, wSite, wEvent], h ≠ x) : itemI h ps = none := by
  rw [itemI_named (hw _ (by simp)) (hw _ (by simp))]
  cases ps with
  | nil => rfl
  | cons n qs =>
    have hn : ∀ ns, namedI h n ns = none := fun ns => by
      unfold namedI
      rw [if_neg (by rintro (e | e) <;> exact hw _ (by simp) e), if_neg (by rintro (e | e) <;> exact hw _ (by simp) e), if_neg (hw _ (by simp)), if_neg (hw _ (by simp)), if_neg (hw _ (by simp))]
    dsimp only
    split
    · cases qs.mapM canonI with
      | none => rfl
      | some ns => exact hn ns
    · rfl
set_option maxRecDepth 100000 in
set_option maxHeartbeats 16000000 in
theorem tline_other (h : List UInt8) (base b ab off n c : Nat) (ps : List (List UInt8)) (v : Nat → Value) (t : Trc) (ds : List (Value × Value)) (w : World) (hT : TrS w base b v t ds) (hp : PT w) (hG : GT b) (hn : n = ps.length + 1) (hc : n ≤ c) (hm : c ≤ maxLen) (hab : ab < w.heap.size)
    (hcell : ∀ j s, (h :: ps)[j]? = some s → w.cell? ⟨ab, off + j, none⟩ = some (.string ⟨s.toArray⟩)) (hl : ∀ p ∈ ps, p.length ≤ 1000000000) (hrn : ∀ i, rowN t i ≤ 1000000000) (hpn : ps.length ≤ 1000000000) (hw : ∀ x ∈ [wCell, wVol, wMutex, wRw, wCond, wFut, wThr, wSite, wEvent], h ≠ x) :
    Calls Tryd.prog 16 #[.pointer (some ⟨b, 0, none⟩), .slice (some ⟨ab, off, none⟩) n c] w (LineRet w base b t (itemI h ps)) := by
  obtain ⟨dp, hsl, hdp⟩ := cut_fromT (some ⟨ab, off, none⟩) n c 1 (by omega) hc
  have hsl2 : ∀ w : World, (Instr.slice 25 (.slice (some ⟨ab, off, none⟩) n c) (some (.int .i64 1)) none none).run Tryd.prog w = .ok (.slice dp (n - 1) (c - 1)) w := hsl
  have HR0 := Lib.hid (rdr_new hn hc hm hab hcell hdp)
  have hb0 : Below w.heap.size w (w.alloc (.cells #[.slice dp (n - 1) (c - 1), .bool true] 77)) := (Below.refl _ _).alloc (Nat.le_refl _) _
  have HB0 := Lib.hid hb0
  have HT0 := Lib.hid (hT.keep hb0)
  have HP0 := Lib.hid (hp.below hb0)
  have HBB : Hid (b < base ∧ base ≤ w.heap.size) := Lib.hid ⟨hT.lt, hT.le⟩
  have HG : Hid (GT w.heap.size) := Lib.hid (gt_mono hG (by have := hT.lt; have := hT.le; omega))
  have h0 := hcell 0 h rfl
  rw [Nat.add_zero] at h0
  have h0a := (hb0.cell (p := ⟨ab, off, none⟩) hab).trans h0
  have HAB : Hid (ab < w.heap.size) := Lib.hid hab
  have HPL := Lib.hid hl
  have HRN := Lib.hid hrn
  have HPLN := Lib.hid hpn
  have hn0 : 0 < n := by omega
  have HN := Lib.hid hn
  have HTL : Hid (∀ g, Below w.heap.size w g → TrS g base b v t ds) := Lib.hid (fun g hg => hT.keep hg)
  obtain ⟨nm, hnm⟩ : ∃ nm, ps.headD [] = nm := ⟨_, rfl⟩
  have HNM := Lib.hid hnm
  have HIN : Hid (itemI h ps = none) := Lib.hid (other_plain hw)
  have q0 : (h == [99, 101, 108, 108]) = false := by rw [beq_eq_false_iff_ne]; exact hw wCell (by simp)
  have q1 : (h == [118, 111, 108, 97, 116, 105, 108, 101]) = false := by rw [beq_eq_false_iff_ne]; exact hw wVol (by simp)
  have q2 : (h == [109, 117, 116, 101, 120]) = false := by rw [beq_eq_false_iff_ne]; exact hw wMutex (by simp)
  have q3 : (h == [114, 119, 108, 111, 99, 107]) = false := by rw [beq_eq_false_iff_ne]; exact hw wRw (by simp)
  have q4 : (h == [99, 111, 110, 100]) = false := by rw [beq_eq_false_iff_ne]; exact hw wCond (by simp)
  have q5 : (h == [102, 117, 116, 117, 114, 101]) = false := by rw [beq_eq_false_iff_ne]; exact hw wFut (by simp)
  have q6 : (h == [116, 104, 114, 101, 97, 100]) = false := by rw [beq_eq_false_iff_ne]; exact hw wThr (by simp)
  have q7 : (h == [115, 105, 116, 101]) = false := by rw [beq_eq_false_iff_ne]; exact hw wSite (by simp)
  have q8 : (h == [101, 118, 101, 110, 116]) = false := by rw [beq_eq_false_iff_ne]; exact hw wEvent (by simp)
  clear hw
  clear hT hp hG hcell hdp hsl hl hrn hb0 hn hc hm hab hnm hpn
  go_enter Tryd.func16, Tryd.ntmps16
  go_wp2_with fail
  go_ret2
  exact ⟨0, false, rfl, HB0.out.mono (by have := HBB.out; omega), fun it h => (by rw [HIN.out] at h; cases h), fun _ => rfl⟩
end Go.Proofs.YtmnjmegejaejlaaDoor

namespace Go.Proofs.YtmnjmegejaejlaaDoor
open Go.RowKit

theorem info_row_rw : (Tryd.prog.info? 57).map (fun i => (i.zero, i.size, i.bytes)) = some (some (.agg #[.string ⟨#[]⟩, .bool false]), 2, 24) := by kernel_rfl
set_option maxRecDepth 100000 in
set_option maxHeartbeats 16000000 in
theorem tline_rw (base b ab off n c : Nat) (ps : List (List UInt8)) (v : Nat → Value) (t : Trc) (ds : List (Value × Value)) (w : World) (hT : TrS w base b v t ds) (hp : PT w) (hG : GT b) (hn : n = ps.length + 1) (hc : n ≤ c) (hm : c ≤ maxLen) (hab : ab < w.heap.size)
    (hcell : ∀ j s, (wRw :: ps)[j]? = some s → w.cell? ⟨ab, off + j, none⟩ = some (.string ⟨s.toArray⟩)) (hl : ∀ p ∈ ps, p.length ≤ 1000000000) (hrn : ∀ i, rowN t i ≤ 1000000000) (hpn : ps.length ≤ 1000000000) :
    Calls Tryd.prog 16 #[.pointer (some ⟨b, 0, none⟩), .slice (some ⟨ab, off, none⟩) n c] w (LineRet w base b t (itemI wRw ps)) := by
  obtain ⟨dp, hsl, hdp⟩ := cut_fromT (some ⟨ab, off, none⟩) n c 1 (by omega) hc
  have hsl2 : ∀ w : World, (Instr.slice 25 (.slice (some ⟨ab, off, none⟩) n c) (some (.int .i64 1)) none none).run Tryd.prog w = .ok (.slice dp (n - 1) (c - 1)) w := hsl
  have HR0 := Lib.hid (rdr_new hn hc hm hab hcell hdp)
  have hb0 : Below w.heap.size w (w.alloc (.cells #[.slice dp (n - 1) (c - 1), .bool true] 77)) := (Below.refl _ _).alloc (Nat.le_refl _) _
  have HB0 := Lib.hid hb0
  have HT0 := Lib.hid (hT.keep hb0)
  have HP0 := Lib.hid (hp.below hb0)
  have HBB : Hid (b < base ∧ base ≤ w.heap.size) := Lib.hid ⟨hT.lt, hT.le⟩
  have HG : Hid (GT w.heap.size) := Lib.hid (gt_mono hG (by have := hT.lt; have := hT.le; omega))
  have h0 := hcell 0 wRw rfl
  rw [Nat.add_zero] at h0
  unfold wRw at h0
  have h0a := (hb0.cell (p := ⟨ab, off, none⟩) hab).trans h0
  have HAB : Hid (ab < w.heap.size) := Lib.hid hab
  have HPL := Lib.hid hl
  have HRN := Lib.hid hrn
  have HPLN := Lib.hid hpn
  have hn0 : 0 < n := by omega
  have HN := Lib.hid hn
  have HTL : Hid (∀ g, Below w.heap.size w g → TrS g base b v t ds) := Lib.hid (fun g hg => hT.keep hg)
  obtain ⟨nm, hnm⟩ : ∃ nm, ps.headD [] = nm := ⟨_, rfl⟩
  have HNM := Lib.hid hnm
  clear hT hp hG hcell hdp hsl hl hrn hb0 hn hc hm hab hnm hpn
  go_enter Tryd.func16, Tryd.ntmps16
  obtain ⟨iC, hiC, hzC0, hzC1, hzC2⟩ := info_parts info_row_rw
  go_upto_region 14 with fail
  generalize hw0 : w.alloc (.cells #[.slice dp (n - 1) (c - 1), .bool true] 77) = w0 at *
  have HW0 : Hid (w0.heap.size = w.heap.size + 1) := Lib.hid (by rw [← hw0]; simp)
  clear hw0
  have HG0 : Hid (w0.grownBy w0 (some w.heap.size)) := Lib.hid (below_grownT (Below.refl _ _) _)
  have HL0 := HPL
  have HOB : Hid (∀ i, i < 7 → ∀ g, (v i).ownBlock = some g → base ≤ g ∧ g < w.heap.size) := Lib.hid (fun i hi => (HTL.out w (Below.refl _ _)).own hi)
  have HBB2 : Hid (b ≤ w.heap.size) := Lib.hid (by have := HBB.out; omega)
  have r0 := HT0.out.blk.cell 1
  simp only [List.getElem?_toArray, List.getElem?_cons_zero, List.getElem?_cons_succ] at r0
  have HC0 := Lib.hid (tname_rd w.heap.size ps true w0.drew (HR0.out.keep (Below.refl _ _).drew) (HP0.out.below (Below.refl _ _).drew) HG.out HL0.out)
  have h0x := h0
  clear h0
  have H00 := Lib.hid h0x
  go_region_law (first
    | (refine step_call_ret rfl 32 _ _ rfl _ Tryd.func32 (by kernel_rfl) (by kernel_rfl) #[.pointer (some ⟨w.heap.size, 0, none⟩)] (by first | rfl | (simp [Act.eval]; done) | (simp [Act.eval, Act.put]; done)) HC0.out (fun e w' h => ⟨_, h.1⟩) ?_; intro u0 w1 hv; obtain ⟨he, hr, hg⟩ := hv; injection he with he; rw [HNM.out] at he; subst he; have hg := undrew hg; have HG1 := Lib.hid hg; have HP1 := Lib.hid (HP0.out.step hg HG.out HR0.out.lt); have HR1 := Lib.hid hr; clear hr hg; have HB1 := Lib.hid (HB0.out.trans (grown_below HG1.out (B := w.heap.size) (by have := HW0.out; omega) (Nat.le_refl _))); have r1 := (HTL.out w1 HB1.out).blk.cell 1; simp only [List.getElem?_toArray, List.getElem?_cons_zero, List.getElem?_cons_succ] at r1; have h0_1 := (HB1.out.cell (p := ⟨ab, off, none⟩) HAB.out).trans H00.out; have HT5 := Lib.hid (HTL.out w1 HB1.out); have HNW := Lib.hid (cells_at w1 57 [.string ⟨nm.toArray⟩, .bool true] rfl); have HON : Hid (∀ u ∈ ([.string ⟨nm.toArray⟩, .bool true] : List Value), u.oneCell' = true) := Lib.hid (by intro u hu; simp at hu; rcases hu with rfl | rfl <;> rfl); have HM1 : Hid (rowN t 1 + 1 ≤ maxLen) := (by refine Lib.hid ?_; have := HRN.out 1; unfold maxLen; omega); have HM2 : Hid ((rowN t 1 + 1) * 24 ≤ 140737488355328) := (by refine Lib.hid ?_; have := HRN.out 1; omega); have HM3 : Hid (base ≤ (w1.alloc (.cells #[.string ⟨nm.toArray⟩, .bool true] 57)).heap.size) := (by refine Lib.hid ?_; have := HT5.out.le; simp; omega); have HOW := Lib.hid ((HT5.out.row 1 (by omega)).alloc (.cells #[.string ⟨nm.toArray⟩, .bool true] 57)); obtain ⟨vr, hrb, Ar, cr, hvr, -⟩ := HR1.out; subst hvr; have HRB := Lib.hid hrb; clear hrb; have ra := (HT5.out.blk.alloc (.cells #[.string ⟨nm.toArray⟩, .bool true] 57)).cell 1; simp only [List.getElem?_toArray, List.getElem?_cons_zero, List.getElem?_cons_succ] at ra)
    | (refine step_app_own rfl (.tmp 49) (.tmp 56) 23 rfl base 57 iC _ 2 24 Tryd.underlying23 hiC hzC0 hzC1 hzC2 rfl (by decide) (v 1) (rowN t 1) (rowX t ds 1) (by first | rfl | simp [Act.eval]) HOW.out ⟨w1.heap.size, 0, none⟩ 1 1 [.string ⟨nm.toArray⟩, .bool true] (by first | rfl | simp [Act.eval]) rfl HNW.out HON.out HM1.out HM2.out HM3.out ?_; intro v7 w7 hown hg hat; have hg1 : (w1.alloc (.cells #[.string ⟨nm.toArray⟩, .bool true] 57)).grownBy w7 (v 1).ownBlock := ⟨hg.os, hg.tape, hg.output, hg.size, hg.block⟩; obtain ⟨A7, c7, e7, -, -, -⟩ := owns_rd hown; subst e7; have HT8 := Lib.hid (HT5.out.push (i := 1) (it := (.lock ⟨nm, true⟩)) (d := (.slice none 0 0, .slice none 0 0)) rfl hown hg1 hat (by intro e he; cases he) trivial); have hb7 := (HT5.out.blk.alloc (.cells #[.string ⟨nm.toArray⟩, .bool true] 57)).grown hg1 (by intro e; have := HOB.out 1 (by omega) b e.symm; have := HBB.out; omega); have k7 := hb7.cell 1; have z7 := hb7.frozen 1; simp only [List.getElem?_toArray, List.getElem?_cons_zero, List.getElem?_cons_succ] at k7; have HRB7 := Lib.hid ((HRB.out.alloc (.cells #[.string ⟨nm.toArray⟩, .bool true] 57)).grown hg1 (by intro e; have := HOB.out 1 (by omega) w.heap.size e.symm; omega)); have HB7 : Hid (Below b w w7) := Lib.hid (((HB1.out.mono HBB2.out).alloc (Nat.le_trans HBB2.out HB1.out.size) _).grown hg1 (by have := HBB2.out; have := HB1.out.size; simp; omega) (fun g e => by have := HOB.out 1 (by omega) g e; have := HBB.out; omega)); clear hown hg hat hb7 hg1))
  all_goals
    have HRB8 := Lib.hid (HRB7.out.grown (grownBy_set0 w7 b 1 (.slice A7 (rowN t 1 + 1) c7)) (by intro e; injection e with e; have := HBB.out; omega))
    have HB8 := Lib.hid (HB7.out.setCell (Nat.le_refl b) (.slice A7 (rowN t 1 + 1) c7) (p := ⟨b, 1, none⟩))
    clear HRB7 HB7 k7 z7 ra r0 r1 h0a h0_1
    generalize w7.setCell ⟨b, 1, none⟩ (.slice A7 (rowN t 1 + 1) c7) = w8 at *
    have HPN := Lib.hid (lock_plain (rw := true) HNM.out)
    have q0 := HRB8.out.cell 0
    have q1 := HRB8.out.cell 1
    simp only [List.getElem?_toArray, List.getElem?_cons_zero, List.getElem?_cons_succ] at q0 q1
    generalize ps.tail = l4 at *
    generalize (true && nameB ((ps).headD [])) = okk at *
    go_upto_region 30 with fail
    cases okk with
    | false =>
      go_quiet (fail)
      go_wp2_with fail
      go_ret2
      exact line_end (it := (.lock ⟨nm, true⟩)) (fun h => by cases h) (fun _ => HPN.out.2 (.inl (by simp))) (by simp [Item.group]) (bdrew HB8.out _) (HT8.out.keep (bdrew (Below.refl _ _) _))
    | true =>
      rcases nat_of_list l4 with ⟨hl4, hq⟩ | ⟨hl4, hq⟩
      all_goals
        have HL4 := Lib.hid hl4
        clear hl4
        go_quiet (fail)
        go_wp2_with fail
        go_ret2
        first
          | exact line_end (it := (.lock ⟨nm, true⟩)) (fun _ => HPN.out.1 (by simp) HL4.out) (fun h => by cases h) (by simp [Item.group]) (bdrew HB8.out _) (HT8.out.keep (bdrew (Below.refl _ _) _))
          | exact line_end (it := (.lock ⟨nm, true⟩)) (fun h => by cases h) (fun _ => HPN.out.2 (.inr HL4.out)) (by simp [Item.group]) (bdrew HB8.out _) (HT8.out.keep (bdrew (Below.refl _ _) _))
end Go.Proofs.YtmnjmegejaejlaaDoor
