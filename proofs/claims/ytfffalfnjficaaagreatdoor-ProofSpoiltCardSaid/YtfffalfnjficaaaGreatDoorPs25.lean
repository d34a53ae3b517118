/-
  WALK: proof.Format.
-/
import Derived.Test.YtfffalfnjficaaaGreatDoorPs24
import Derived.Test.YtfffalfnjficaaaGreatDoorPs20
namespace Go.Proofs.YtfffalfnjficaaaGreatDoor
open Go.RowKit

set_option maxRecDepth 100000 in
set_option maxHeartbeats 2000000 in
theorem pformat_any (v : Value) (l : List Stp) (w : World) (hl : Stps w v l) (hT : Tab w) (hsz : l.length ≤ 1000000) (hsm : ∀ s ∈ l, s.lits.length ≤ 1000) :
    Calls Tryz.prog 16 #[v] w fun e w' => e = .returned (.string ⟨(stepsText l).toArray⟩) ∧ Below w.heap.size w w' := by
  obtain ⟨A, c, ps, hps, rfl, l1, l2, l3, l4⟩ := hl
  have hpl : ps.length = l.length := by rw [hps]; simp
  have HPS := Lib.hid hps
  have HPL := Lib.hid hpl
  have HR := Lib.hid l3
  have H4 := Lib.hid l4
  have HT := Lib.hid hT
  have HSM := Lib.hid hsm
  have HALL : Hid (∀ s ∈ l, s.ok ∧ (∀ x ∈ s.lits, I64 x) ∧ s.lits.length ≤ 1000) := fun s hs => by
    rw [hps] at hs
    obtain ⟨q, hq, rfl⟩ := List.mem_map.1 hs
    obtain ⟨hi, hk⟩ := l4 q hq
    obtain ⟨_, _, _, _, _, hx, _⟩ := hi
    exact ⟨hk, hx, hsm q.1 (by rw [hps]; exact List.mem_map.2 ⟨q, hq, rfl⟩)⟩
  unfold maxLen at l2
  have hpn : ps.length ≤ 1000000 := by omega
  have htl := HT.out.lt
  clear hps hpl l3 l4 hT hsm
  have hbf := Lib.fresh_isBuilder 87 5 w
  have hb1' : Below w.heap.size w (w.alloc (.cells #[.pointer none, .slice none 0 0] 87)) := (Below.refl _ _).alloc (Nat.le_refl _) _
  have hs1' : (w.alloc (.cells #[.pointer none, .slice none 0 0] 87)).heap.size = w.heap.size + 1 := by simp
  go_enter Tryz.func16, Tryz.ntmps16
  go_wp2_with fail
  generalize w.alloc (.cells #[.pointer none, .slice none 0 0] 87) = w1 at *
  have HBF := Lib.hid hbf
  have HBW := Lib.hid hb1'
  have hB1 : w.heap.size ≤ w1.heap.size := by omega
  have HS1 := Lib.hid hs1'
  clear hbf hb1' hs1'
  go_loopw [8] (fun i wr => ∃ k : Nat, k ≤ ps.length ∧ i = .int .i64 k ∧ Lib.IsBuilder 87 5 w.heap.size w.heap.size (Lib.byteCells (stepsText (l.take k))) wr ∧ Kept w.heap.size w.heap.size w1 wr) (fun i _ => ps.length - (intOf i).toNat)
  case atStart => exact ⟨0, by omega, rfl, HBF.out, Kept.refl _ _ _⟩
  case round =>
    obtain ⟨k, hk, rfl, hb, hkp⟩ := hrel
    have HBk := Lib.hid hb
    have HKk := Lib.hid hkp
    clear hb hkp
    have hBr : w.heap.size ≤ wr.heap.size := Nat.le_trans hB1 HKk.out.below.size
    have hBr1 : w.heap.size + 1 ≤ wr.heap.size := by have := HKk.out.below.size; have := HS1.out; omega
    have HBR := Lib.hid (HBW.out.trans (HKk.out.below) : Below w.heap.size w wr)
    by_cases hlt : k < ps.length
    · obtain ⟨⟨s, sv⟩, hp⟩ : ∃ p, ps[k]? = some p := ⟨_, List.getElem?_eq_getElem hlt⟩
      obtain ⟨b1, o1, rfl, hb1, t0, t1, t2, t3, t4, t5⟩ := Stps.at_ (HR.out.keep HBR.out) hp
      have HP := Lib.hid (H4.out (s, sv) (List.mem_of_getElem? hp))
      have HLK : Hid (l[k]? = some s) := by refine Lib.hid ?_; rw [HPS.out, List.getElem?_map, hp]; rfl
      obtain ⟨As, cs', hsv, -, -, -, -⟩ := HP.out.1
      simp only at hsv t0 t1 t2 t3 t4 t5
      subst hsv
      obtain ⟨hok1, hok2, hok3⟩ := HALL.out s (List.mem_of_getElem? HLK.out)
      obtain ⟨i1, i2, i3, i4, i5⟩ := hok1
      have HI1 := Lib.hid i1
      have HI2 := Lib.hid i2
      have HI3 := Lib.hid i3
      have HI4 := Lib.hid i4
      have HI5 := Lib.hid i5
      have HTL : Hid ((stepsText (l.take k)).length ≤ 30000000000) := by
        refine Lib.hid ?_
        have h1 := stepsText_len (l.take k) fun y hy => HALL.out y (List.mem_of_mem_take hy)
        have h2 := List.length_take_le k l
        have := HPL.out
        omega
      clear hp i1 i2 i3 i4 i5 hok2
      by_cases k1 : s.kind = 1
      · have e1 : (s.kind == 1) = true := by simp [k1]
        have HTX : Hid (stepText s = lineText wInput [s.index]) := by refine Lib.hid ?_; unfold stepText; rw [if_pos k1]
        clear k1
        go_wp2_with fail
        refine (pline_any w.heap.size w.heap.size (stepsText (l.take k)) wInput _ [s.index] _ ?hba ?hta htl ?hva ?hla ?hbwa).mono ?_
        case hba => exact isBuilder_keep HBk.out (by go_grown)
        case hta => exact (HT.out.keep HBR.out htl).keep (B := wr.heap.size) (by go_grown) (by omega)
        case hva =>
          intro w' hk
          refine ints_new (g := wr.heap.size + 1) (xs := [s.index]) hk ?_ (by omega) (by simp; exact HI2.out) (by simp [maxLen])
          have h := Blk.new (wr.alloc (.cells #[.int .i64 s.kind, .int .i64 s.index, .slice As s.lits.length cs', .int .i64 s.p, .int .i64 s.q, .int .i64 s.var] 53)) 3 #[.int .i64 s.index]
          simpa using h
        case hla =>
          have h1 := HTL.out
          have h3 : wInput.length ≤ 7 := by decide
          try simp only [List.length_cons, List.length_nil]
          omega
        case hbwa => first | omega | (simp; omega)
        rintro e w2 ⟨rfl, hb2, hk2⟩
        have HB2 := Lib.hid hb2
        have HK2 : Hid (Kept w.heap.size w.heap.size w1 w2) := (HKk.out.trans (Kept.of_below (by go_grown) hBr)).trans hk2
        clear hb2 hk2
        go_wp2_with fail
        go_roundw
        case rel => exact ⟨k + 1, by omega, by go_num, by rw [stepsText_succ HLK.out, HTX.out]; exact HB2.out, HK2.out⟩
        case measure => simp [intOf]; omega
      have e1 : (s.kind == 1) = false := by simp [k1]
      by_cases k2 : s.kind = 2
      · have e2 : (s.kind == 2) = true := by simp [k2]
        have HTX : Hid (stepText s = lineText wCycle s.lits) := by refine Lib.hid ?_; unfold stepText; rw [if_neg k1, if_pos k2]
        clear k1 k2
        go_wp2_with fail
        refine (pline_any w.heap.size w.heap.size (stepsText (l.take k)) wCycle _ s.lits _ ?hbb ?htb htl ?hvb ?hlb ?hbwb).mono ?_
        case hbb => exact isBuilder_keep HBk.out (by go_grown)
        case htb => exact (HT.out.keep HBR.out htl).keep (B := wr.heap.size) (by go_grown) (by omega)
        case hvb => exact fun w' hk => HP.out.1.keep (HBR.out.trans (Below.trans (by go_grown) (hk.below.mono (by omega))))
        case hlb =>
          have h1 := HTL.out
          have h3 : wCycle.length ≤ 7 := by decide
          try simp only [List.length_cons, List.length_nil]
          omega
        case hbwb => first | omega | (simp; omega)
        rintro e w2 ⟨rfl, hb2, hk2⟩
        have HB2 := Lib.hid hb2
        have HK2 : Hid (Kept w.heap.size w.heap.size w1 w2) := (HKk.out.trans (Kept.of_below (by go_grown) hBr)).trans hk2
        clear hb2 hk2
        go_wp2_with fail
        go_roundw
        case rel => exact ⟨k + 1, by omega, by go_num, by rw [stepsText_succ HLK.out, HTX.out]; exact HB2.out, HK2.out⟩
        case measure => simp [intOf]; omega
      have e2 : (s.kind == 2) = false := by simp [k2]
      by_cases k3 : s.kind = 3
      · have e3 : (s.kind == 3) = true := by simp [k3]
        have HTX : Hid (stepText s = lineText wResolve [s.p, s.q, s.var]) := by refine Lib.hid ?_; unfold stepText; rw [if_neg k1, if_neg k2, if_pos k3]
        clear k1 k2 k3
        go_wp2_with fail
        refine (pline_any w.heap.size w.heap.size (stepsText (l.take k)) wResolve _ [s.p, s.q, s.var] _ ?hbc ?htc htl ?hvc ?hlc ?hbwc).mono ?_
        case hbc => exact isBuilder_keep HBk.out (by go_grown)
        case htc => exact (HT.out.keep HBR.out htl).keep (B := wr.heap.size) (by go_grown) (by omega)
        case hvc =>
          intro w' hk
          refine ints_new (g := wr.heap.size + 1) (xs := [s.p, s.q, s.var]) hk ?_ (by omega) (by simp; exact ⟨HI3.out, HI4.out, HI5.out⟩) (by simp [maxLen])
          have h := Blk.new (wr.alloc (.cells #[.int .i64 s.kind, .int .i64 s.index, .slice As s.lits.length cs', .int .i64 s.p, .int .i64 s.q, .int .i64 s.var] 53)) 3 #[.int .i64 s.p, .int .i64 s.q, .int .i64 s.var]
          simpa using h
        case hlc =>
          have h1 := HTL.out
          have h3 : wResolve.length ≤ 7 := by decide
          try simp only [List.length_cons, List.length_nil]
          omega
        case hbwc => first | omega | (simp; omega)
        rintro e w2 ⟨rfl, hb2, hk2⟩
        have HB2 := Lib.hid hb2
        have HK2 : Hid (Kept w.heap.size w.heap.size w1 w2) := (HKk.out.trans (Kept.of_below (by go_grown) hBr)).trans hk2
        clear hb2 hk2
        go_wp2_with fail
        go_roundw
        case rel => exact ⟨k + 1, by omega, by go_num, by rw [stepsText_succ HLK.out, HTX.out]; exact HB2.out, HK2.out⟩
        case measure => simp [intOf]; omega
      have e3 : (s.kind == 3) = false := by simp [k3]
      have HTX : Hid (stepText s = lineText wStep [s.kind]) := by refine Lib.hid ?_; unfold stepText; rw [if_neg k1, if_neg k2, if_neg k3]
      clear k1 k2 k3
      go_wp2_with fail
      refine (pline_any w.heap.size w.heap.size (stepsText (l.take k)) wStep _ [s.kind] _ ?hbd ?htd htl ?hvd ?hld ?hbwd).mono ?_
      case hbd => exact isBuilder_keep HBk.out (by go_grown)
      case htd => exact (HT.out.keep HBR.out htl).keep (B := wr.heap.size) (by go_grown) (by omega)
      case hvd =>
        intro w' hk
        refine ints_new (g := wr.heap.size + 1) (xs := [s.kind]) hk ?_ (by omega) (by simp; exact HI1.out) (by simp [maxLen])
        have h := Blk.new (wr.alloc (.cells #[.int .i64 s.kind, .int .i64 s.index, .slice As s.lits.length cs', .int .i64 s.p, .int .i64 s.q, .int .i64 s.var] 53)) 3 #[.int .i64 s.kind]
        simpa using h
      case hld =>
        have h1 := HTL.out
        have h3 : wStep.length ≤ 7 := by decide
        try simp only [List.length_cons, List.length_nil]
        omega
      case hbwd => first | omega | (simp; omega)
      rintro e w2 ⟨rfl, hb2, hk2⟩
      have HB2 := Lib.hid hb2
      have HK2 : Hid (Kept w.heap.size w.heap.size w1 w2) := (HKk.out.trans (Kept.of_below (by go_grown) hBr)).trans hk2
      clear hb2 hk2
      go_wp2_with fail
      go_roundw
      case rel => exact ⟨k + 1, by omega, by go_num, by rw [stepsText_succ HLK.out, HTX.out]; exact HB2.out, HK2.out⟩
      case measure => simp [intOf]; omega
    · have HBC : Hid (Lib.IsBuilder 87 5 w.heap.size w.heap.size (Lib.byteCells (stepsText l)) wr) := by
        have h := HBk.out
        rwa [List.take_of_length_le (by have := HPL.out; omega)] at h
      go_wp2_with fail
      refine (Tryz.Builder_String_any _ _ (stepsText l) _ HBC.out hBr).mono ?_
      rintro e w3 ⟨rfl, hb3⟩
      have HB3 := Lib.hid hb3
      clear hb3
      go_wp2_with fail
      go_ret
      exact ⟨rfl, HBR.out.trans (HB3.out.mono (by omega))⟩
end Go.Proofs.YtfffalfnjficaaaGreatDoor
