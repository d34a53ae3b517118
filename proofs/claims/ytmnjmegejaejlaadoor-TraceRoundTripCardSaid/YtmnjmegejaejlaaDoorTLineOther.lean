/-
  WALK: trace.readLine at a line of 'cell'.
-/
import Derived.Test.YtmnjmegejaejlaaDoorTLine
namespace Go.Proofs.YtmnjmegejaejlaaDoor
open Go.RowKit

theorem other_plain {h : List UInt8} {ps : List (List UInt8)} (hw : ∀ x ∈ [wCell, wVol, wMutex, wRw, wCond, wFut, wThr, wSite, wEvent], h ≠ x) : itemI h ps = none := by
  rw [itemI_named (hw _ (by simp)) (hw _ (by simp))]
  cases ps with
  | nil => rfl
  | cons n qs =>
    have hn : ∀ ns, namedI h n ns = none := fun ns => by
      unfold namedI
      rw [if_neg (by rintro (e | e) <;> exact hw _ (by simp) e), if_neg (by rintro (e | e) <;> exact hw _ (by simp) e), if_neg (hw _ (by simp)), if_neg (hw _ (by simp)), if_neg (hw _ (by simp))]
    dsimp only
    split
    · cases qs.mapM canonI with
      | none => rfl
      | some ns => exact hn ns
    · rfl
set_option maxRecDepth 100000 in
set_option maxHeartbeats 16000000 in
theorem tline_other (h : List UInt8) (base b ab off n c : Nat) (ps : List (List UInt8)) (v : Nat → Value) (t : Trc) (ds : List (Value × Value)) (w : World) (hT : TrS w base b v t ds) (hp : PT w) (hG : GT b) (hn : n = ps.length + 1) (hc : n ≤ c) (hm : c ≤ maxLen) (hab : ab < w.heap.size)
    (hcell : ∀ j s, (h :: ps)[j]? = some s → w.cell? ⟨ab, off + j, none⟩ = some (.string ⟨s.toArray⟩)) (hl : ∀ p ∈ ps, p.length ≤ 1000000000) (hrn : ∀ i, rowN t i ≤ 1000000000) (hpn : ps.length ≤ 1000000000) (hw : ∀ x ∈ [wCell, wVol, wMutex, wRw, wCond, wFut, wThr, wSite, wEvent], h ≠ x) :
    Calls Tryd.prog 16 #[.pointer (some ⟨b, 0, none⟩), .slice (some ⟨ab, off, none⟩) n c] w (LineRet w base b t (itemI h ps)) := by
  obtain ⟨dp, hsl, hdp⟩ := cut_fromT (some ⟨ab, off, none⟩) n c 1 (by omega) hc
  have hsl2 : ∀ w : World, (Instr.slice 25 (.slice (some ⟨ab, off, none⟩) n c) (some (.int .i64 1)) none none).run Tryd.prog w = .ok (.slice dp (n - 1) (c - 1)) w := hsl
  have HR0 := Lib.hid (rdr_new hn hc hm hab hcell hdp)
  have hb0 : Below w.heap.size w (w.alloc (.cells #[.slice dp (n - 1) (c - 1), .bool true] 77)) := (Below.refl _ _).alloc (Nat.le_refl _) _
  have HB0 := Lib.hid hb0
  have HT0 := Lib.hid (hT.keep hb0)
  have HP0 := Lib.hid (hp.below hb0)
  have HBB : Hid (b < base ∧ base ≤ w.heap.size) := Lib.hid ⟨hT.lt, hT.le⟩
  have HG : Hid (GT w.heap.size) := Lib.hid (gt_mono hG (by have := hT.lt; have := hT.le; omega))
  have h0 := hcell 0 h rfl
  rw [Nat.add_zero] at h0
  have h0a := (hb0.cell (p := ⟨ab, off, none⟩) hab).trans h0
  have HAB : Hid (ab < w.heap.size) := Lib.hid hab
  have HPL := Lib.hid hl
  have HRN := Lib.hid hrn
  have HPLN := Lib.hid hpn
  have hn0 : 0 < n := by omega
  have HN := Lib.hid hn
  have HTL : Hid (∀ g, Below w.heap.size w g → TrS g base b v t ds) := Lib.hid (fun g hg => hT.keep hg)
  obtain ⟨nm, hnm⟩ : ∃ nm, ps.headD [] = nm := ⟨_, rfl⟩
  have HNM := Lib.hid hnm
  have HIN : Hid (itemI h ps = none) := Lib.hid (other_plain hw)
  have q0 : (h == [99, 101, 108, 108]) = false := by rw [beq_eq_false_iff_ne]; exact hw wCell (by simp)
  have q1 : (h == [118, 111, 108, 97, 116, 105, 108, 101]) = false := by rw [beq_eq_false_iff_ne]; exact hw wVol (by simp)
  have q2 : (h == [109, 117, 116, 101, 120]) = false := by rw [beq_eq_false_iff_ne]; exact hw wMutex (by simp)
  have q3 : (h == [114, 119, 108, 111, 99, 107]) = false := by rw [beq_eq_false_iff_ne]; exact hw wRw (by simp)
  have q4 : (h == [99, 111, 110, 100]) = false := by rw [beq_eq_false_iff_ne]; exact hw wCond (by simp)
  have q5 : (h == [102, 117, 116, 117, 114, 101]) = false := by rw [beq_eq_false_iff_ne]; exact hw wFut (by simp)
  have q6 : (h == [116, 104, 114, 101, 97, 100]) = false := by rw [beq_eq_false_iff_ne]; exact hw wThr (by simp)
  have q7 : (h == [115, 105, 116, 101]) = false := by rw [beq_eq_false_iff_ne]; exact hw wSite (by simp)
  have q8 : (h == [101, 118, 101, 110, 116]) = false := by rw [beq_eq_false_iff_ne]; exact hw wEvent (by simp)
  clear hw
  clear hT hp hG hcell hdp hsl hl hrn hb0 hn hc hm hab hnm hpn
  go_enter Tryd.func16, Tryd.ntmps16
  go_wp2_with fail
  go_ret2
  exact ⟨0, false, rfl, HB0.out.mono (by have := HBB.out; omega), fun it h => (by rw [HIN.out] at h; cases h), fun _ => rfl⟩
end Go.Proofs.YtmnjmegejaejlaaDoor
