/-
  WALK: interleaveref16.add at a line of 'other'.
-/
import Derived.Test.YtmnjmegejaejlaaDoorTR36
import Derived.Test.YtmnjmegejaejlaaDoorTR22
namespace Go.Proofs.YtmnjmegejaejlaaDoor
open Go.RowKit

set_option maxRecDepth 100000 in
set_option maxHeartbeats 16000000 in
theorem radd_other (h : List UInt8) (N base b ab off n c : Nat) (ps : List (List UInt8)) (v : Nat → Value) (t : Trc) (ds : List (Value × Value)) (w : World) (hT : TrS w base b v t ds) (hp : PT w) (_hG : GT b) (hN : base ≤ N) (hNv : ∀ i, i < 7 → ∀ g, (v i).ownBlock = some g → base ≤ g ∧ g < N) (hab : N ≤ ab) (habs : ab < w.heap.size)
    (hn : n = ps.length + 1) (hc : n ≤ c) (hm : c ≤ maxLen) (hcell : ∀ j s, (h :: ps)[j]? = some s → w.cell? ⟨ab, off + j, none⟩ = some (.string ⟨s.toArray⟩)) (hl : ∀ p ∈ h :: ps, p.length ≤ 1000000000) (hrn : ∀ i, rowN t i ≤ 1000000000) (hpn : ps.length ≤ 900000000) (hw : ∀ x ∈ [wCell, wVol, wMutex, wRw, wCond, wFut, wThr, wSite, wEvent], h ≠ x) :
    Calls Tryd.prog 18 #[.pointer (some ⟨b, 0, none⟩), .slice (some ⟨ab, off, none⟩) n c] w (RAddRet w base b t (itemI h ps)) := by
  have HBB : Hid (b < base ∧ base ≤ N ∧ N ≤ ab ∧ ab < w.heap.size ∧ base ≤ w.heap.size ∧ N ≤ w.heap.size) := Lib.hid ⟨hT.lt, hN, hab, habs, hT.le, by omega⟩
  have HNV := Lib.hid hNv
  have HCELL : Hid (∀ W, Below w.heap.size w W → ∀ j s, (h :: ps)[j]? = some s → W.cell? ⟨ab, off + j, none⟩ = some (.string ⟨s.toArray⟩)) := Lib.hid (fun W hW j s hj => (hW.cell (p := ⟨ab, off + j, none⟩) habs).trans (hcell j s hj))
  have HTK : Hid (∀ W, Below w.heap.size w W → TrS W base b v t ds) := Lib.hid (fun W hW => hT.keep hW)
  have HP := Lib.hid hp
  have HL := Lib.hid hl
  have HRN := Lib.hid hrn
  have HPN := Lib.hid hpn
  have HTX : Hid (Txts w (.slice (some ⟨ab, off, none⟩) n c) (h :: ps)) := Lib.hid ⟨_, c, by rw [hn]; rfl, by simp; omega, hm, fun _ => ⟨ab, off, rfl, habs, fun j u hj => by
    rw [List.getElem?_map] at hj
    cases e : (h :: ps)[j]? with
    | none => rw [e] at hj; cases hj
    | some s => rw [e] at hj; injection hj with hj; rw [← hj]; exact hcell j s e⟩⟩
  have h0 := hcell 0 h rfl
  rw [Nat.add_zero] at h0
  have i0 : (0 : Int) < (n : Int) := by omega
  have i0n : 0 < n := by omega
  have HN := Lib.hid hn
  clear hT hp hN hNv hab habs hl hrn hpn hm
  have HIN : Hid (itemI h ps = none) := Lib.hid (other_plain hw)
  have q0 : (h == [99, 101, 108, 108]) = false := by rw [beq_eq_false_iff_ne]; exact hw wCell (by simp)
  have q1 : (h == [118, 111, 108, 97, 116, 105, 108, 101]) = false := by rw [beq_eq_false_iff_ne]; exact hw wVol (by simp)
  have q2 : (h == [109, 117, 116, 101, 120]) = false := by rw [beq_eq_false_iff_ne]; exact hw wMutex (by simp)
  have q3 : (h == [114, 119, 108, 111, 99, 107]) = false := by rw [beq_eq_false_iff_ne]; exact hw wRw (by simp)
  have q4 : (h == [99, 111, 110, 100]) = false := by rw [beq_eq_false_iff_ne]; exact hw wCond (by simp)
  have q5 : (h == [102, 117, 116, 117, 114, 101]) = false := by rw [beq_eq_false_iff_ne]; exact hw wFut (by simp)
  have q6 : (h == [116, 104, 114, 101, 97, 100]) = false := by rw [beq_eq_false_iff_ne]; exact hw wThr (by simp)
  have q7 : (h == [115, 105, 116, 101]) = false := by rw [beq_eq_false_iff_ne]; exact hw wSite (by simp)
  have q8 : (h == [101, 118, 101, 110, 116]) = false := by rw [beq_eq_false_iff_ne]; exact hw wEvent (by simp)
  clear hw
  cases ps with
  | nil =>
    obtain rfl : n = 1 := hn
    clear hcell
    go_enter Tryd.func18, Tryd.ntmps18
    go_wp2_with fail
    go_ret
    exact radd_no (Below.refl w.heap.size w) (by have := HBB.out; omega) HIN.out
  | cons nm qs =>
    have h1 := hcell 1 nm rfl
    have HCC := Lib.hid hc
    have i1 : (1 : Int) < (n : Int) := by simp at hn; omega
    have i2 : (2 : Int) ≤ (n : Int) := by omega
    clear hcell hn hc
    go_enter Tryd.func18, Tryd.ntmps18
    go_wp2_with fail
    refine (rname_any nm w).mono ?_
    rintro e w1 ⟨rfl, hb1⟩
    have HB1 := Lib.hid hb1
    clear hb1 h0 h1
    have h0a := HCELL.out w1 HB1.out 0 h rfl
    rw [Nat.add_zero] at h0a
    cases hnm : nameB nm with
    | false =>
      clear hnm
      go_wp2_with fail
      go_ret
      exact radd_no HB1.out (by have := HBB.out; omega) HIN.out
    | true =>
      clear hnm
      obtain ⟨dp, hsl, htx⟩ := txts_dropn HN.out HTX.out 2 (by simp)
      have hsl2 : ∀ w : World, (Instr.slice 25 (.slice (some ⟨ab, off, none⟩) n c) (some (.int .i64 2)) none none).run Tryd.prog w = .ok (.slice dp qs.length (c - 2)) w := hsl
      have HTQ : Hid (Txts w (.slice dp qs.length (c - 2)) qs) := Lib.hid htx
      have HLQ : Hid (∀ p ∈ qs, p.length ≤ 1000000000) := Lib.hid (fun p hp => HL.out p (by simp [hp]))
      have HNQ : Hid (qs.length ≤ 1000000000) := (by refine Lib.hid ?_; have := HPN.out; simp at this; omega)
      clear hsl htx
      go_wp2_with fail
      refine (rlongs_any dp (c - 2) qs w1 (HTQ.out.keep HB1.out) (HP.out.below HB1.out) HLQ.out HNQ.out).mono ?_
      rintro e w2 hr2
      cases hmm : qs.mapM canonI with
      | none =>
        obtain ⟨rfl, hb2⟩ := longs_no hr2 hmm
        have HB2 := Lib.hid (HB1.out.trans (hb2.mono HB1.out.size))
        clear hr2 hmm hb2 h0a
        have h0b := HCELL.out w2 HB2.out 0 h rfl
        rw [Nat.add_zero] at h0b
        go_wp2_with fail
        go_ret
        exact radd_no HB2.out (by have := HBB.out; omega) HIN.out
      | some ns =>
        obtain ⟨A2, c2, rfl, ho2, hb2⟩ := longs_yes hr2 hmm
        have HB2 := Lib.hid (HB1.out.trans (hb2.mono HB1.out.size))
        clear hr2 hmm hb2 h0a ho2 hsl2
        have h0b := HCELL.out w2 HB2.out 0 h rfl
        rw [Nat.add_zero] at h0b
        go_wp2_with fail
        go_ret
        exact radd_no HB2.out (by have := HBB.out; omega) HIN.out
end Go.Proofs.YtmnjmegejaejlaaDoor
