/-
  WALK: interleaveref31.FormatSteps.
-/
import Derived.Test.YtfffalfnjficaaaGreatDoorPs25
import Derived.Test.YtfffalfnjficaaaGreatDoorPs26
namespace Go.Proofs.YtfffalfnjficaaaGreatDoor
open Go.RowKit

set_option maxRecDepth 100000 in
set_option maxHeartbeats 2000000 in
theorem rformatSteps_any (v : Value) (l : List Stp) (w : World) (hl : Stps w v l) (hT : Tab w) (hsz : l.length ≤ 1000000) (hsm : ∀ s ∈ l, s.lits.length ≤ 1000) :
    Calls Tryz.prog 6 #[v] w fun e w' => e = .returned (.string ⟨(stepsText l).toArray⟩) ∧ Below w.heap.size w w' := by
  obtain ⟨A, c, ps, hps, rfl, l1, l2, l3, l4⟩ := hl
  have hpl : ps.length = l.length := by rw [hps]; simp
  have HPS := Lib.hid hps
  have HPL := Lib.hid hpl
  have HR := Lib.hid l3
  have H4 := Lib.hid l4
  have HT := Lib.hid hT
  have HSM := Lib.hid hsm
  have HALL : Hid (∀ s ∈ l, s.ok ∧ (∀ x ∈ s.lits, I64 x) ∧ s.lits.length ≤ 1000) := fun s hs => by
    rw [hps] at hs
    obtain ⟨q, hq, rfl⟩ := List.mem_map.1 hs
    obtain ⟨hi, hk⟩ := l4 q hq
    obtain ⟨_, _, _, _, _, hx, _⟩ := hi
    exact ⟨hk, hx, hsm q.1 (by rw [hps]; exact List.mem_map.2 ⟨q, hq, rfl⟩)⟩
  unfold maxLen at l2
  have hpn : ps.length ≤ 1000000 := by omega
  have htl := HT.out.lt
  clear hps hpl l3 l4 hT hsm
  go_enter Tryz.func6, Tryz.ntmps6
  go_wp2_with fail
  go_loopw [3, 8] (fun t i wr => ∃ k : Nat, k ≤ ps.length ∧ i = .int .i64 k ∧ t = .string ⟨(stepsText (l.take k)).toArray⟩ ∧ Below w.heap.size w wr) (fun _ i _ => ps.length - (intOf i).toNat)
  case atStart => exact ⟨0, by omega, rfl, rfl, Below.refl _ _⟩
  case round =>
    obtain ⟨k, hk, rfl, rfl, hkp⟩ := hrel
    have HBR := Lib.hid hkp
    have hBr := hkp.size
    clear hkp
    by_cases hlt : k < ps.length
    · obtain ⟨⟨s, sv⟩, hp⟩ : ∃ p, ps[k]? = some p := ⟨_, List.getElem?_eq_getElem hlt⟩
      obtain ⟨b1, o1, rfl, hb1, t0, t1, t2, t3, t4, t5⟩ := Stps.at_ (HR.out.keep HBR.out) hp
      have HP := Lib.hid (H4.out (s, sv) (List.mem_of_getElem? hp))
      have HLK : Hid (l[k]? = some s) := by refine Lib.hid ?_; rw [HPS.out, List.getElem?_map, hp]; rfl
      obtain ⟨As, cs', hsv, -, -, -, -⟩ := HP.out.1
      simp only at hsv t0 t1 t2 t3 t4 t5
      subst hsv
      obtain ⟨hok1, hok2, hok3⟩ := HALL.out s (List.mem_of_getElem? HLK.out)
      obtain ⟨i1, i2, i3, i4, i5⟩ := hok1
      have HI1 := Lib.hid i1
      have HI2 := Lib.hid i2
      have HI3 := Lib.hid i3
      have HI4 := Lib.hid i4
      have HI5 := Lib.hid i5
      have HTL : Hid ((stepsText (l.take k)).length ≤ 30000000000) := by
        refine Lib.hid ?_
        have h1 := stepsText_len (l.take k) fun y hy => HALL.out y (List.mem_of_mem_take hy)
        have h2 := List.length_take_le k l
        have := HPL.out
        omega
      clear hp i1 i2 i3 i4 i5
      by_cases k1 : s.kind = 1
      · have e1 : (s.kind == 1) = true := by simp [k1]
        have HTX : Hid (stepText s = lineText wInput [s.index]) := by refine Lib.hid ?_; unfold stepText; rw [if_pos k1]
        clear k1 hok2
        have htx2 : (lineText wInput [s.index]).length ≤ 30000 := by
          have h1 := lineText_len wInput [s.index] (by simp; exact HI2.out)
          have h3 : wInput.length ≤ 7 := by decide
          try simp only [List.length_cons, List.length_nil] at h1
          omega
        have htl1 := HTL.out
        go_wp2_with fail
        refine (words_any wInput _ [s.index] _ ?hve ?hte ?hwe).mono ?_
        case hwe =>
          have h3 : wInput.length ≤ 7 := by decide
          try simp only [List.length_cons, List.length_nil]
          omega
        case hte => exact (HT.out.keep HBR.out htl).keep (B := wr.heap.size) (by go_grown) (by omega)
        case hve =>
          refine ints_lit (g := wr.heap.size + 1) (xs := [s.index]) ?_ (Below.refl _ _) (by simp; exact HI2.out) (by simp [maxLen])
          have h := Blk.new (wr.alloc (.cells #[.int .i64 s.kind, .int .i64 s.index, .slice As s.lits.length cs', .int .i64 s.p, .int .i64 s.q, .int .i64 s.var] 53)) 3 #[.int .i64 s.index]
          simpa using h
        rintro e w2 ⟨rfl, hb2⟩
        have HB2 : Hid (Below w.heap.size w w2) := HBR.out.trans (Below.trans (by go_grown) (hb2.mono (by simp; omega)))
        clear hb2
        go_wp2_with fail
        refine ⟨⟨k + 1, by omega, by go_num, ?_, HB2.out⟩, by simp [intOf]; omega⟩
        refine congrArg Value.string ?_
        rw [str_append, stepsText_succ HLK.out, HTX.out]
      have e1 : (s.kind == 1) = false := by simp [k1]
      by_cases k2 : s.kind = 2
      · have e2 : (s.kind == 2) = true := by simp [k2]
        have HTX : Hid (stepText s = lineText wCycle s.lits) := by refine Lib.hid ?_; unfold stepText; rw [if_neg k1, if_pos k2]
        clear k1 k2
        have htx2 : (lineText wCycle s.lits).length ≤ 30000 := by
          have h1 := lineText_len wCycle s.lits hok2
          have h3 : wCycle.length ≤ 7 := by decide
          try simp only [List.length_cons, List.length_nil] at h1
          omega
        clear hok2
        have htl1 := HTL.out
        go_wp2_with fail
        refine (words_any wCycle _ s.lits _ ?hvf ?htf ?hwf).mono ?_
        case hwf =>
          have h3 : wCycle.length ≤ 7 := by decide
          try simp only [List.length_cons, List.length_nil]
          omega
        case htf => exact (HT.out.keep HBR.out htl).keep (B := wr.heap.size) (by go_grown) (by omega)
        case hvf => exact HP.out.1.keep (HBR.out.trans (by go_grown))
        rintro e w2 ⟨rfl, hb2⟩
        have HB2 : Hid (Below w.heap.size w w2) := HBR.out.trans (Below.trans (by go_grown) (hb2.mono (by simp; omega)))
        clear hb2
        go_wp2_with fail
        refine ⟨⟨k + 1, by omega, by go_num, ?_, HB2.out⟩, by simp [intOf]; omega⟩
        refine congrArg Value.string ?_
        rw [str_append, stepsText_succ HLK.out, HTX.out]
      have e2 : (s.kind == 2) = false := by simp [k2]
      by_cases k3 : s.kind = 3
      · have e3 : (s.kind == 3) = true := by simp [k3]
        have HTX : Hid (stepText s = lineText wResolve [s.p, s.q, s.var]) := by refine Lib.hid ?_; unfold stepText; rw [if_neg k1, if_neg k2, if_pos k3]
        clear k1 k2 k3 hok2
        have htx2 : (lineText wResolve [s.p, s.q, s.var]).length ≤ 30000 := by
          have h1 := lineText_len wResolve [s.p, s.q, s.var] (by simp; exact ⟨HI3.out, HI4.out, HI5.out⟩)
          have h3 : wResolve.length ≤ 7 := by decide
          try simp only [List.length_cons, List.length_nil] at h1
          omega
        have htl1 := HTL.out
        go_wp2_with fail
        refine (words_any wResolve _ [s.p, s.q, s.var] _ ?hvg ?htg ?hwg).mono ?_
        case hwg =>
          have h3 : wResolve.length ≤ 7 := by decide
          try simp only [List.length_cons, List.length_nil]
          omega
        case htg => exact (HT.out.keep HBR.out htl).keep (B := wr.heap.size) (by go_grown) (by omega)
        case hvg =>
          refine ints_lit (g := wr.heap.size + 1) (xs := [s.p, s.q, s.var]) ?_ (Below.refl _ _) (by simp; exact ⟨HI3.out, HI4.out, HI5.out⟩) (by simp [maxLen])
          have h := Blk.new (wr.alloc (.cells #[.int .i64 s.kind, .int .i64 s.index, .slice As s.lits.length cs', .int .i64 s.p, .int .i64 s.q, .int .i64 s.var] 53)) 3 #[.int .i64 s.p, .int .i64 s.q, .int .i64 s.var]
          simpa using h
        rintro e w2 ⟨rfl, hb2⟩
        have HB2 : Hid (Below w.heap.size w w2) := HBR.out.trans (Below.trans (by go_grown) (hb2.mono (by simp; omega)))
        clear hb2
        go_wp2_with fail
        refine ⟨⟨k + 1, by omega, by go_num, ?_, HB2.out⟩, by simp [intOf]; omega⟩
        refine congrArg Value.string ?_
        rw [str_append, stepsText_succ HLK.out, HTX.out]
      have e3 : (s.kind == 3) = false := by simp [k3]
      have HTX : Hid (stepText s = lineText wStep [s.kind]) := by refine Lib.hid ?_; unfold stepText; rw [if_neg k1, if_neg k2, if_neg k3]
      clear k1 k2 k3 hok2
      have htx2 : (lineText wStep [s.kind]).length ≤ 30000 := by
        have h1 := lineText_len wStep [s.kind] (by simp; exact HI1.out)
        have h3 : wStep.length ≤ 7 := by decide
        try simp only [List.length_cons, List.length_nil] at h1
        omega
      have htl1 := HTL.out
      go_wp2_with fail
      refine (words_any wStep _ [s.kind] _ ?hvh ?hth ?hwh).mono ?_
      case hwh =>
        have h3 : wStep.length ≤ 7 := by decide
        try simp only [List.length_cons, List.length_nil]
        omega
      case hth => exact (HT.out.keep HBR.out htl).keep (B := wr.heap.size) (by go_grown) (by omega)
      case hvh =>
        refine ints_lit (g := wr.heap.size + 1) (xs := [s.kind]) ?_ (Below.refl _ _) (by simp; exact HI1.out) (by simp [maxLen])
        have h := Blk.new (wr.alloc (.cells #[.int .i64 s.kind, .int .i64 s.index, .slice As s.lits.length cs', .int .i64 s.p, .int .i64 s.q, .int .i64 s.var] 53)) 3 #[.int .i64 s.kind]
        simpa using h
      rintro e w2 ⟨rfl, hb2⟩
      have HB2 : Hid (Below w.heap.size w w2) := HBR.out.trans (Below.trans (by go_grown) (hb2.mono (by simp; omega)))
      clear hb2
      go_wp2_with fail
      refine ⟨⟨k + 1, by omega, by go_num, ?_, HB2.out⟩, by simp [intOf]; omega⟩
      refine congrArg Value.string ?_
      rw [str_append, stepsText_succ HLK.out, HTX.out]
    · have HC : Hid (l.take k = l) := List.take_of_length_le (by have := HPL.out; omega)
      go_wp2_with fail
      go_ret
      refine ⟨?_, HBR.out⟩
      rw [HC.out]
      rfl
end Go.Proofs.YtfffalfnjficaaaGreatDoor
