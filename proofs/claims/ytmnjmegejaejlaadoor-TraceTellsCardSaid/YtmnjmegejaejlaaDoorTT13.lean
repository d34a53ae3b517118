/-
  WALKS: the trace's reader: next, name, number, integer, kind.
-/
import Derived.Test.YtmnjmegejaejlaaDoorTT12
namespace Go.Proofs.YtmnjmegejaejlaaDoor
open Go.RowKit

/-- A slice of texts in a block below B. -/
def TxtsB (w : World) (B : Nat) (v : Value) (l : List (List UInt8)) : Prop :=
  ∃ A c, v = .slice A l.length c ∧ l.length ≤ c ∧ c ≤ maxLen ∧ (0 < l.length → ∃ b off, A = some ⟨b, off, none⟩ ∧ b < B ∧ b < w.heap.size ∧ ∀ j s, l[j]? = some s → w.cell? ⟨b, off + j, none⟩ = some (.string ⟨s.toArray⟩))
theorem TxtsB.grown {w w' : World} {B g : Nat} {v : Value} {l : List (List UInt8)} (h : TxtsB w B v l) (hg : w.grownBy w' (some g)) (hB : B ≤ g) : TxtsB w' B v l := by
  obtain ⟨A, c, h1, h2, h3, h4⟩ := h
  refine ⟨A, c, h1, h2, h3, fun h0 => ?_⟩
  obtain ⟨b, off, a1, a2, a3, a4⟩ := h4 h0
  exact ⟨b, off, a1, a2, Nat.lt_of_lt_of_le a3 hg.size, fun j s hj => hg.cell (a4 j s hj) (by intro e; injection e with e; have e : b = g := e; omega)⟩
/-- The reader at block rb. -/
def RdrT (w : World) (rb : Nat) (l : List (List UInt8)) (ok : Bool) : Prop := ∃ v, Blk w rb 77 #[v, .bool ok] ∧ TxtsB w rb v l
theorem RdrT.lt {w : World} {rb : Nat} {l : List (List UInt8)} {ok : Bool} (h : RdrT w rb l ok) : rb < w.heap.size := by obtain ⟨v, h1, _⟩ := h; exact h1.lt
theorem below_grownT {w w' : World} (h : Below w.heap.size w w') (row : Option Nat) : w.grownBy w' row := ⟨h.os, h.tape, h.output, h.size, fun k hk _ => h.block k hk⟩
theorem RdrT.keep {w w' : World} {rb : Nat} {l : List (List UInt8)} {ok : Bool} (h : RdrT w rb l ok) (hb : Below w.heap.size w w') : RdrT w' rb l ok := by
  obtain ⟨v, h1, h2⟩ := h
  exact ⟨v, h1.keep hb, h2.grown (below_grownT hb (some rb)) (Nat.le_refl _)⟩
theorem RdrT.bad {w : World} {rb : Nat} {l : List (List UInt8)} {ok : Bool} (h : RdrT w rb l ok) : RdrT (w.setCell ⟨rb, 1, none⟩ (.bool false)) rb l false := by
  obtain ⟨v, h1, h2⟩ := h
  exact ⟨v, h1.set_ 1 _, h2.grown (grownBy_set0 _ _ _ _) (Nat.le_refl _)⟩
theorem RdrT.okCell {w : World} {rb : Nat} {l : List (List UInt8)} {ok : Bool} (h : RdrT w rb l ok) : w.frozen? ⟨rb, 1, none⟩ = false ∧ w.cell? ⟨rb, 1, none⟩ = some (.bool ok) := by
  obtain ⟨v, h1, h2⟩ := h
  exact ⟨h1.frozen 1, h1.cell 1⟩

set_option maxRecDepth 100000 in
set_option maxHeartbeats 1000000 in
theorem tnext_any (rb : Nat) (l : List (List UInt8)) (ok : Bool) (w : World) (h : RdrT w rb l ok) :
    Calls Tryd.prog 49 #[.pointer (some ⟨rb, 0, none⟩)] w fun e w' => e = .returned (.string ⟨(l.headD []).toArray⟩) ∧ RdrT w' rb l.tail (ok && !l.isEmpty) ∧ w.grownBy w' (some rb) := by
  obtain ⟨v, hb, A, c, rfl, h1, h2, h3⟩ := h
  have c0 := hb.cell 0
  have z0 := hb.frozen 0
  have z1 := hb.frozen 1
  simp only [List.getElem?_toArray, List.getElem?_cons_zero] at c0
  have HB := Lib.hid hb
  go_enter Tryd.func49, Tryd.ntmps49
  cases l with
  | nil =>
    have c1 := hb.cell 1
    simp only [List.getElem?_toArray, List.getElem?_cons_zero, List.getElem?_cons_succ] at c1
    go_wp2_with fail
    go_ret
    refine ⟨rfl, ⟨_, ?_, A, c, rfl, h1, h2, fun h => absurd h (by simp)⟩, grownBy_set0 _ _ _ _⟩
    have := HB.out.set_ 1 (.bool false)
    show Blk _ rb _ #[.slice A 0 c, .bool (ok && false)]
    rw [Bool.and_false]
    exact this
  | cons p t =>
    obtain ⟨b, off, rfl, hb1, hb2, hc⟩ := h3 (by simp)
    have cp := hc 0 p rfl
    rw [Nat.add_zero] at cp
    obtain ⟨dp, hsl, hdp⟩ := cut_fromT (some ⟨b, off, none⟩) (p :: t).length c 1 (by simp) h1
    have HDP := Lib.hid (hdp)
    have HC := Lib.hid hc
    have H12 := Lib.hid (And.intro h1 h2)
    have hn0 : 0 < (p :: t).length := by simp
    clear hdp hc h3 hb
    generalize hn : (p :: t).length = n at *
    have HN := Lib.hid hn
    have hsl2 : ∀ w : World, (Instr.slice 25 (.slice (some ⟨b, off, none⟩) n c) (some (.int .i64 1)) none none).run Tryd.prog w = .ok (.slice dp (n - 1) (c - 1)) w := hsl
    clear hn h1 h2 hsl
    go_wp2_with fail
    go_ret
    have hn1 : n - 1 = t.length := by have := HN.out; simp at this; omega
    have hg : w.grownBy (w.setCell ⟨rb, 0, none⟩ (.slice dp (n - 1) (c - 1))) (some rb) := grownBy_set0 _ _ _ _
    refine ⟨rfl, ⟨.slice dp (n - 1) (c - 1), ?_, dp, c - 1, ?_, ?_, ?_, fun h => ?_⟩, hg⟩
    · have := HB.out.set_ 0 (.slice dp (n - 1) (c - 1))
      show Blk _ rb _ #[.slice dp (n - 1) (c - 1), .bool (ok && true)]
      rw [Bool.and_true]
      exact this
    · show Value.slice dp (n - 1) (c - 1) = .slice dp t.length (c - 1)
      rw [hn1]
    · have := H12.out; show t.length ≤ c - 1; omega
    · have := H12.out; omega
    · have h : 0 < t.length := h
      have e := HDP.out (by omega)
      simp only [Option.map_some] at e
      refine ⟨b, off + 1, by rw [e]; simp [Addr.add], hb1, by simpa using hb2, fun j s hj => ?_⟩
      have hx := HC.out (j + 1) s (by simpa using hj)
      rw [show off + 1 + j = off + (j + 1) by omega]
      exact hg.cell hx (by intro e; injection e with e; have e : b = rb := e; omega)
/-- A step of the reader's: it reads one part. -/
def RStep (w : World) (rb : Nat) (l : List (List UInt8)) (ok : Bool) (w' : World) : Prop := RdrT w' rb l ok ∧ w.grownBy w' (some rb)
theorem PT.step {w w' : World} {rb : Nat} (h : PT w) (hg : w.grownBy w' (some rb)) (hG : GT rb) (hl : rb < w.heap.size) : PT w' := h.grown hg (Nat.le_refl _) (Nat.le_of_lt hl) hG
theorem head_len {l : List (List UInt8)} (h : ∀ p ∈ l, p.length ≤ 1000000000) : (l.headD []).length ≤ 1000000000 := by
  cases l with
  | nil => simp
  | cons p t => exact h p (by simp)
theorem head_nameB (l : List (List UInt8)) (h : l = []) : nameB (l.headD []) = false := by subst h; rfl
set_option maxRecDepth 100000 in
set_option maxHeartbeats 1000000 in
theorem tname_rd (rb : Nat) (l : List (List UInt8)) (ok : Bool) (w : World) (h : RdrT w rb l ok) (hp : PT w) (hG : GT rb) (hl : ∀ p ∈ l, p.length ≤ 1000000000) :
    Calls Tryd.prog 32 #[.pointer (some ⟨rb, 0, none⟩)] w fun e w' => e = .returned (.string ⟨(l.headD []).toArray⟩) ∧ RStep w rb l.tail (ok && nameB (l.headD [])) w' := by
  have HLL := Lib.hid (head_len hl)
  have HEM : Hid (nameB (l.headD []) = true → l.isEmpty = false) := Lib.hid (fun h => by cases l with | nil => exact absurd h (by decide) | cons _ _ => rfl)
  have HP := Lib.hid hp
  have HG := Lib.hid hG
  have HLT := Lib.hid h.lt
  have H := Lib.hid h
  clear h hp hG hl
  generalize hs : l.headD [] = s at *
  have HS := Lib.hid hs
  clear hs
  go_enter Tryd.func32, Tryd.ntmps32
  go_wp2_with fail
  refine (tnext_any rb l ok w H.out).mono ?_
  rintro e w2 ⟨he, hr2, hg2⟩
  rw [HS.out] at he
  subst he
  have HR2 := Lib.hid hr2
  have HG2 := Lib.hid hg2
  have HP2 := Lib.hid (HP.out.step hg2 HG.out HLT.out)
  clear hr2 hg2
  go_wp2_with fail
  refine (tname_any s w2 HP2.out HLL.out).mono ?_
  rintro e w3 ⟨rfl, hb3⟩
  have HR3 := Lib.hid (HR2.out.keep hb3)
  have HG3 : Hid (w.grownBy w3 (some rb)) := Lib.hid (grownBy_trans HG2.out (below_grownT hb3 _))
  clear hb3
  cases hn : nameB s with
  | true =>
    have HN := Lib.hid hn
    clear hn
    go_wp2_with fail
    go_ret
    refine ⟨rfl, ?_, HG3.out⟩
    have := HR3.out
    rw [HEM.out HN.out] at this
    rw [HN.out]
    simpa using this
  | false =>
    have HN := Lib.hid hn
    clear hn
    obtain ⟨z1, c1⟩ := HR3.out.okCell
    go_wp2_with fail
    go_ret
    refine ⟨rfl, ?_, grownBy_trans HG3.out (grownBy_set0 _ _ _ _)⟩
    rw [HN.out, Bool.and_false]
    exact HR3.out.bad
set_option maxRecDepth 100000 in
set_option maxHeartbeats 2000000 in
theorem tnum_rd (rb : Nat) (l : List (List UInt8)) (ok : Bool) (w : World) (h : RdrT w rb l ok) (hp : PT w) (hG : GT rb) (hl : ∀ p ∈ l, p.length ≤ 1000000000) :
    Calls Tryd.prog 34 #[.pointer (some ⟨rb, 0, none⟩)] w fun e w' => ∃ v : Int, e = .returned (.int .i64 v) ∧ I64 v ∧ (∀ x, canonI (l.headD []) = some x → v = x) ∧ RStep w rb l.tail (ok && (canonI (l.headD [])).isSome) w' := by
  have HLL := Lib.hid (head_len hl)
  have HEM : Hid ((canonI (l.headD [])).isSome = true → l.isEmpty = false) := Lib.hid (fun h => by cases l with | nil => exact absurd h (by decide) | cons _ _ => rfl)
  have HP := Lib.hid hp
  have HG := Lib.hid hG
  have HLT := Lib.hid h.lt
  have H := Lib.hid h
  clear h hp hG hl
  generalize hs : l.headD [] = s at *
  have HS := Lib.hid hs
  clear hs
  go_enter Tryd.func34, Tryd.ntmps34
  go_wp2_with fail
  refine (tnext_any rb l ok w H.out).mono ?_
  rintro e w2 ⟨he, hr2, hg2⟩
  rw [HS.out] at he
  subst he
  have HR2 := Lib.hid hr2
  have HG2 := Lib.hid hg2
  have HP2 := Lib.hid (HP.out.step hg2 HG.out HLT.out)
  clear hr2 hg2
  by_cases hat : ∃ v, Lib.atoiAll s = .ok v
  · obtain ⟨v, hv⟩ := hat
    have HV : Hid (I64 v) := Lib.hid (atoi_range hv)
    have HA := Lib.hid hv
    clear hv
    go_wp2_with fail
    refine (pint_ok s v w2 HA.out HLL.out).mono ?_
    rintro e w3 ⟨rfl, hb3⟩
    have HR3 := Lib.hid (HR2.out.keep hb3)
    have HG3 : Hid (w.grownBy w3 (some rb)) := Lib.hid (grownBy_trans HG2.out (below_grownT hb3 _))
    have HP3 := Lib.hid (HP2.out.below hb3)
    clear hb3
    go_wp2_with fail
    refine (fint_any v w3 HV.out HP3.out.tab).mono ?_
    rintro e w4 ⟨rfl, hb4⟩
    have HR4 := Lib.hid (HR3.out.keep hb4)
    have HG4 : Hid (w.grownBy w4 (some rb)) := Lib.hid (grownBy_trans HG3.out (below_grownT hb4 _))
    clear hb4
    by_cases hc : Lib.itoa v = s
    · have HC : Hid (canonI s = some v) := Lib.hid (by unfold canonI; rw [HA.out]; simp [hc])
      have q0 : (Lib.itoa v == s) = true := by rw [beq_iff_eq]; exact hc
      generalize Lib.itoa v = tx at *
      clear hc
      go_wp2_with fail
      go_ret
      refine ⟨v, rfl, HV.out, fun x hx => ?_, ?_, HG4.out⟩
      · rw [HC.out] at hx; injection hx
      · have := HR4.out
        rw [HEM.out (by rw [HC.out]; rfl)] at this
        rw [HC.out]; exact this
    · have HC : Hid (canonI s = none) := Lib.hid (by unfold canonI; rw [HA.out]; simp [hc])
      have q0 : (Lib.itoa v == s) = false := by rw [beq_eq_false_iff_ne]; exact hc
      generalize Lib.itoa v = tx at *
      clear hc
      obtain ⟨z1, c1⟩ := HR4.out.okCell
      go_wp2_with fail
      go_ret
      refine ⟨v, rfl, HV.out, fun x hx => ?_, ?_, grownBy_trans HG4.out (grownBy_set0 _ _ _ _)⟩
      · rw [HC.out] at hx; cases hx
      · rw [HC.out]
        show RdrT _ _ _ (ok && false)
        rw [Bool.and_false]
        exact HR4.out.bad
  · have HA : Hid (∀ v, Lib.atoiAll s ≠ .ok v) := Lib.hid (fun v hv => hat ⟨v, hv⟩)
    have HC : Hid (canonI s = none) := Lib.hid (by
      unfold canonI
      cases e : Lib.atoiAll s with
      | ok v => exact absurd e (HA.out v)
      | _ => rfl)
    clear hat
    go_wp2_with fail
    refine (pint_bad s w2 HA.out HLL.out HP2.out).mono ?_
    rintro e w3 ⟨v, N, rfl, -, hv, hb3⟩
    have HV := Lib.hid hv
    have HR3 := Lib.hid (HR2.out.keep hb3)
    have HG3 : Hid (w.grownBy w3 (some rb)) := Lib.hid (grownBy_trans HG2.out (below_grownT hb3 _))
    clear hb3 hv
    obtain ⟨z1, c1⟩ := HR3.out.okCell
    go_wp2_with fail
    go_ret
    refine ⟨v, rfl, HV.out, fun x hx => ?_, ?_, grownBy_trans HG3.out (grownBy_set0 _ _ _ _)⟩
    · rw [HC.out] at hx; cases hx
    · rw [HC.out]
      show RdrT _ _ _ (ok && false)
      rw [Bool.and_false]
      exact HR3.out.bad
set_option maxRecDepth 100000 in
set_option maxHeartbeats 2000000 in
theorem tint_rd (rb : Nat) (l : List (List UInt8)) (ok : Bool) (w : World) (h : RdrT w rb l ok) (hp : PT w) (hG : GT rb) (hl : ∀ p ∈ l, p.length ≤ 1000000000) :
    Calls Tryd.prog 33 #[.pointer (some ⟨rb, 0, none⟩)] w fun e w' => ∃ v : Int, e = .returned (.int .i64 v) ∧ I64 v ∧ (∀ x, canonI (l.headD []) = some x → v = x) ∧ RStep w rb l.tail (ok && (canonI (l.headD [])).isSome) w' := by
  have HC := Lib.hid (tnum_rd rb l ok w h hp hG hl)
  clear h hp hG hl
  go_enter Tryd.func33, Tryd.ntmps33
  go_wp2_with fail
  refine HC.out.mono ?_
  rintro e w2 ⟨v, rfl, h1, h2, h3⟩
  have H1 := Lib.hid h1
  have H2 := Lib.hid h2
  have H3 := Lib.hid h3
  clear h1 h2 h3
  go_wp2_with fail
  go_ret
  exact ⟨v, rfl, H1.out, H2.out, H3.out⟩
theorem kindI_at {s : List UInt8} {j : Nat} (hj : kindsL[j]? = some s) (hn : s ∉ kindsL.take j) : kindI s = some (j + 1) := by
  unfold kindI
  have h : kindsL.findIdx? (· == s) = some j := by
    rw [List.findIdx?_eq_some_iff_getElem]
    obtain ⟨h1, h2⟩ := List.getElem?_eq_some_iff.1 hj
    refine ⟨h1, by rw [beq_iff_eq]; exact h2, fun i hi => ?_⟩
    intro e
    rw [beq_iff_eq] at e
    exact hn (by rw [← e]; exact List.mem_take_iff_getElem.2 ⟨i, by omega, rfl⟩)
  rw [h]; rfl
theorem kindI_none {s : List UInt8} (hn : s ∉ kindsL) : kindI s = none := by
  unfold kindI
  have h : kindsL.findIdx? (· == s) = none := by
    rw [List.findIdx?_eq_none_iff]
    intro x hx
    rw [beq_eq_false_iff_ne]
    intro e; exact hn (e ▸ hx)
  rw [h]; rfl
set_option maxRecDepth 100000 in
set_option maxHeartbeats 4000000 in
theorem tkind_rd (rb : Nat) (l : List (List UInt8)) (ok : Bool) (w : World) (h : RdrT w rb l ok) (hp : PT w) (hG : GT rb) :
    Calls Tryd.prog 52 #[.pointer (some ⟨rb, 0, none⟩)] w fun e w' => ∃ k : Nat, e = .returned (.int .i64 (k : Int)) ∧ k ≤ 23 ∧ (∀ x, kindI (l.headD []) = some x → k = x) ∧ RStep w rb l.tail (ok && (kindI (l.headD [])).isSome) w' := by
  have HEM : Hid ((kindI (l.headD [])).isSome = true → l.isEmpty = false) := Lib.hid (fun h => by cases l with | nil => exact absurd h (by decide) | cons _ _ => rfl)
  have HP := Lib.hid hp
  have HG := Lib.hid hG
  have HLT := Lib.hid h.lt
  have H := Lib.hid h
  have HKL : Hid (kindsL.length = 23) := Lib.hid rfl
  clear h hp hG
  generalize hs : l.headD [] = s at *
  have HS := Lib.hid hs
  clear hs
  go_enter Tryd.func52, Tryd.ntmps52
  go_wp2_with fail
  refine (tnext_any rb l ok w H.out).mono ?_
  rintro e w2 ⟨he, hr2, hg2⟩
  rw [HS.out] at he
  subst he
  have HR2 := Lib.hid hr2
  have HG2 := Lib.hid hg2
  have HP2 := Lib.hid (HP.out.step hg2 HG.out HLT.out)
  clear hr2 hg2
  go_wp2_with fail
  go_loopw [4] (fun i wr => ∃ j : Nat, j ≤ 23 ∧ i = .int .i64 ((j : Int) + 1) ∧ Hid (s ∉ kindsL.take j) ∧ wr = w2) (fun i _ => 24 - (intOf i).toNat)
  case atStart => exact ⟨0, by omega, rfl, Lib.hid (by simp), rfl⟩
  case round =>
    obtain ⟨j, hj, rfl, HNI, rfl⟩ := hrel
    by_cases hj2 : j < 23
    · obtain ⟨p, hp⟩ : ∃ p, kindsL[j]? = some p := ⟨_, List.getElem?_eq_getElem (by have := HKL.out; omega)⟩
      have hc := HP2.out.kd (j + 1) p (by rw [List.getElem?_cons_succ]; exact hp)
      have HPJ := Lib.hid hp
      clear hp
      by_cases hsp : p = s
      · have HK : Hid (kindI s = some (j + 1)) := Lib.hid (kindI_at (by rw [← hsp]; exact HPJ.out) HNI.out)
        have q0 : (p == s) = true := by rw [beq_iff_eq]; exact hsp
        clear hsp
        go_wp2_with fail
        go_ret
        refine ⟨j + 1, by simp, by omega, fun x hx => ?_, ?_, HG2.out⟩
        · rw [HK.out] at hx; injection hx
        · have := HR2.out
          rw [HEM.out (by rw [HK.out]; rfl)] at this
          rw [HK.out]; exact this
      · have q0 : (p == s) = false := by rw [beq_eq_false_iff_ne]; exact hsp
        have HN2 : Hid (s ∉ kindsL.take (j + 1)) := Lib.hid (contains_take HNI.out HPJ.out (fun e => hsp e.symm))
        clear hsp
        go_wp2_with fail
        go_roundw
        case rel => exact ⟨j + 1, by omega, by go_num, HN2, trivial⟩
        case measure => simp [intOf]; omega
    · obtain rfl : j = 23 := by omega
      have HK : Hid (kindI s = none) := Lib.hid (kindI_none (by
        have h := HNI.out
        rwa [List.take_of_length_le (by rw [HKL.out]; omega)] at h))
      obtain ⟨z1, c1⟩ := HR2.out.okCell
      go_wp2_with fail
      go_ret
      refine ⟨0, rfl, by omega, fun x hx => ?_, ?_, grownBy_trans HG2.out (grownBy_set0 _ _ _ _)⟩
      · rw [HK.out] at hx; cases hx
      · rw [HK.out]
        show RdrT _ _ _ (ok && false)
        rw [Bool.and_false]
        exact HR2.out.bad
end Go.Proofs.YtmnjmegejaejlaaDoor
