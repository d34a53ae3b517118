/-
  WALK: interleavelaw31.FormulaRoundTrip.
-/
import Derived.Test.YtfffalfnjficaaaDoorRParse
import Derived.Test.YtfffalfnjficaaaDoorRText
import Derived.Test.YtfffalfnjficaaaDoorSameF
import Derived.Test.YtfffalfnjficaaaDoorAwake31
import Derived.Test.YtfffalfnjficaaaDoorProblem
namespace Go.Proofs.YtfffalfnjficaaaDoor
open Go.RowKit

theorem sum_small (l : List (List Int)) (h : ∀ c ∈ l, c.length ≤ 4) : (l.map List.length).sum ≤ 4 * l.length := by
  induction l with
  | nil => simp
  | cons c r ih =>
    have h1 := h c (by simp)
    have h2 := ih fun y hy => h y (by simp [hy])
    simp only [List.map_cons, List.sum_cons, List.length_cons]; omega
theorem form_read {w : World} {v : Value} {f : Form} (hf : IsForm w v f) : ParseR (formText f) (.ok f) := by
  obtain ⟨av, cv, rfl, h1, h2, ⟨A, c, rfl, _, _, ha, _⟩, hM⟩ := hf
  obtain ⟨A', c', vs, rfl, _, _, hl, _, hci⟩ := hM
  have := text_read f h1 h2 ha (fun xs hxs => by
    obtain ⟨k, hk⟩ := List.getElem?_of_mem hxs
    obtain ⟨u, hu⟩ : ∃ u, vs[k]? = some u := ⟨_, List.getElem?_eq_getElem (by have := (List.getElem?_eq_some_iff.1 hk).1; omega)⟩
    obtain ⟨_, _, _, _, _, hx, _⟩ := hci k u xs hu hk
    exact hx)
  unfold formText headText
  rw [List.append_assoc]
  exact this
theorem form_len {w : World} {v : Value} {f : Form} (hf : IsForm w v f) (h1 : f.atoms.length ≤ 1000) (h2 : f.clauses.length ≤ 1000) (h3 : ∀ c ∈ f.clauses, c.length ≤ 4) : (formText f).length ≤ 1000000 := by
  obtain ⟨av, cv, rfl, g1, g2, ⟨A, c, rfl, _, _, ha, _⟩, hM⟩ := hf
  obtain ⟨A', c', vs, rfl, _, _, hl, _, hci⟩ := hM
  have hc : ∀ xs ∈ f.clauses, ∀ x ∈ xs, I64 x := fun xs hxs => by
    obtain ⟨k, hk⟩ := List.getElem?_of_mem hxs
    obtain ⟨u, hu⟩ : ∃ u, vs[k]? = some u := ⟨_, List.getElem?_eq_getElem (by have := (List.getElem?_eq_some_iff.1 hk).1; omega)⟩
    obtain ⟨_, _, _, _, _, hx, _⟩ := hci k u xs hu hk
    exact hx
  have e1 := headText_len f g1 g2
  have e2 := atomsText_len f.atoms ha
  have e3 := clausesText_len f.clauses hc
  have e4 := sum_small f.clauses h3
  unfold formText
  simp only [List.length_append]
  omega

set_option maxRecDepth 100000 in
set_option maxHeartbeats 4000000 in
theorem lawRoundTrip (pv : Value) (a b c : Int) (L : List Int) (w : World) (hp : IsProb w pv a b c L) (hpl : PL w) :
    Calls Tryd.prog 5 #[pv] w fun e w' => e = .returned (.bool true) ∧ Below w.heap.size w w' := by
  have HP := Lib.hid hp
  have HPL := Lib.hid hpl
  obtain ⟨nv, rfl, -, -, -, hL⟩ := hp
  obtain ⟨An, cn, rfl, -, -, -, -⟩ := hL
  have HB : Hid (Below w.heap.size w (w.alloc (.cells #[.int .u8 a, .int .u8 b, .int .u8 c, .slice An L.length cn] 35))) := (Below.refl _ _).alloc (Nat.le_refl _) _
  clear hpl
  go_enter Tryd.func5, Tryd.ntmps5
  go_wp2_with fail
  generalize w.alloc (.cells #[.int .u8 a, .int .u8 b, .int .u8 c, .slice An L.length cn] 35) = W at *
  refine (problem_any _ a b c L _ ?hp).mono ?_
  case hp => obtain ⟨nv, e1, e2⟩ := HP.out; exact ⟨_, rfl, e2.1, e2.2.1, e2.2.2.1, by injection e1 with e1; simp only [Array.mk.injEq, List.cons.injEq, and_true, true_and] at e1; rw [e1]; exact e2.2.2.2.keep HB.out⟩
  rintro e w2 ⟨fv, f, rfl, hf, hsm, hb2⟩
  have HB2 := Lib.hid (HB.out.trans (hb2.mono HB.out.size))
  have HF2 := Lib.hid hf
  have HSM := Lib.hid hsm
  have HV : Hid (validF f = 0) := Lib.hid hsm.valid
  obtain ⟨av, cv, rfl, -, -, hf3, hf4⟩ := hf
  obtain ⟨Aa, ca, rfl, -, -, -, -⟩ := hf3
  obtain ⟨Ac, cc, vs, rfl, -, -, -, -, -⟩ := hf4
  clear hb2 hsm
  have B1 := Blk.new w2 26 #[.int .i64 f.ints, .int .i64 f.bools, .slice Aa f.atoms.length ca, .slice Ac f.clauses.length cc]
  have hb3 : Below w2.heap.size w2 (w2.alloc (.cells #[.int .i64 f.ints, .int .i64 f.bools, .slice Aa f.atoms.length ca, .slice Ac f.clauses.length cc] 26)) := (Below.refl _ _).alloc (Nat.le_refl _) _
  go_wp2_with fail
  generalize w2.alloc (.cells #[.int .i64 f.ints, .int .i64 f.bools, .slice Aa f.atoms.length ca, .slice Ac f.clauses.length cc] 26) = w3 at *
  have HF3 := Lib.hid (HF2.out.keep hb3)
  have HB3 := Lib.hid (HB2.out.trans (hb3.mono HB2.out.size))
  have HB1 := Lib.hid B1
  have HP3 : Hid (PL w3) := Lib.hid (HPL.out.below HB3.out)
  clear B1 hb3
  refine (fformat_any _ f _ HF3.out HP3.out.tab ?sz).mono ?_
  case sz => obtain ⟨s1, s2, s3, s4, s5, s6⟩ := HSM.out; have := sum_small f.clauses (fun c hc => (s6 c hc).2.1); omega
  rintro e w4 ⟨rfl, hb4⟩
  have HRD : Hid (ParseR (formText f) (.ok f)) := Lib.hid (form_read HF3.out)
  have HLN : Hid ((formText f).length ≤ 1000000) := Lib.hid (by obtain ⟨s1, s2, s3, s4, s5, s6⟩ := HSM.out; exact form_len HF3.out (by omega) (by omega) (fun c hc => (s6 c hc).2.1))
  have HB4 := Lib.hid (HB3.out.trans (hb4.mono HB3.out.size))
  have HF4 := Lib.hid (HF3.out.keep hb4)
  have HK4 := Lib.hid (HB1.out.keep hb4)
  have HP4 : Hid (PL w4) := Lib.hid (HP3.out.below hb4)
  clear hb4
  go_wp2_with fail
  refine (parse_any (formText f) w4 HLN.out HP4.out).mono ?_
  rintro e w5 ⟨hb5, hres⟩
  obtain ⟨v, rfl, hv⟩ : ∃ v, e = .returned (.tuple #[v, .int .i64 0, .int .i64 0]) ∧ IsForm w5 v f := by
    rcases hres with ⟨g, v, h1, h2, h3, h4⟩ | ⟨g, h1, h2, _⟩ | ⟨k, h1, _⟩
    · have e1 := h1.fn HRD.out
      injection e1 with e1; subst e1
      exact ⟨v, h3, h4⟩
    · have e1 := h1.fn HRD.out
      injection e1 with e1; subst e1
      exact absurd HV.out h2
    · exact absurd (h1.fn HRD.out) (by intro e; cases e)
  have HB5 := Lib.hid (HB4.out.trans (hb5.mono HB4.out.size))
  have HF5 := Lib.hid (HF4.out.keep hb5)
  have hk5 := HK4.out.keep hb5
  have HP5 : Hid (PL w5) := Lib.hid (HP4.out.below hb5)
  have HG5 := Lib.hid hv
  clear hb5 hres
  obtain ⟨av2, cv2, rfl, -, -, hd2, hm2⟩ := hv
  obtain ⟨A2, c2, rfl, -, -, -, -⟩ := hd2
  obtain ⟨C2, cc2, vs2, rfl, -, -, -, -, -⟩ := hm2
  have hk6 := hk5.alloc (.cells #[.int .i64 f.ints, .int .i64 f.bools, .slice A2 f.atoms.length c2, .slice C2 f.clauses.length cc2] 26)
  have hb6 : Below w5.heap.size w5 (w5.alloc (.cells #[.int .i64 f.ints, .int .i64 f.bools, .slice A2 f.atoms.length c2, .slice C2 f.clauses.length cc2] 26)) := (Below.refl _ _).alloc (Nat.le_refl _) _
  have q0 := hk6.cell 0
  have q1 := hk6.cell 1
  have q2 := hk6.cell 2
  have q3 := hk6.cell 3
  simp only [List.getElem?_toArray, List.getElem?_cons_zero, List.getElem?_cons_succ] at q0 q1 q2 q3
  have HK6 := Lib.hid hk6
  have HB6 := Lib.hid hb6
  clear hk5 hk6 hb6
  go_wp2_with fail
  clear q0 q1 q2 q3
  generalize w5.alloc (.cells #[.int .i64 f.ints, .int .i64 f.bools, .slice A2 f.atoms.length c2, .slice C2 f.clauses.length cc2] 26) = w6 at *
  refine (samef_any _ _ f w6 (HF5.out.keep HB6.out) (HG5.out.keep HB6.out)).mono ?_
  rintro e w7 ⟨rfl, hb7⟩
  have HB7 := Lib.hid (HB6.out.trans (hb7.mono HB6.out.size))
  have hk7 := HK6.out.keep hb7
  have q0 := hk7.cell 0
  have q1 := hk7.cell 1
  have q2 := hk7.cell 2
  have q3 := hk7.cell 3
  simp only [List.getElem?_toArray, List.getElem?_cons_zero, List.getElem?_cons_succ] at q0 q1 q2 q3
  clear hb7 hk7
  go_wp2_with fail
  refine (fvalid_any f w7 _ (HF5.out.keep HB7.out)).mono ?_
  rintro e w8 ⟨rfl, hb8⟩
  have HB8 := Lib.hid (HB7.out.trans (hb8.mono HB7.out.size))
  clear hb8 q0 q1 q2 q3
  rw [HV.out]
  go_wp2_with fail
  refine (awake31 w8 (HP5.out.below HB8.out).tab).mono ?_
  rintro e w9 ⟨rfl, hb9⟩
  have HB9 := Lib.hid (HB5.out.trans ((HB8.out.trans (hb9.mono HB8.out.size)).mono HB5.out.size))
  clear hb9
  go_wp2_with fail
  go_ret
  exact ⟨rfl, HB9.out⟩
end Go.Proofs.YtfffalfnjficaaaDoor
