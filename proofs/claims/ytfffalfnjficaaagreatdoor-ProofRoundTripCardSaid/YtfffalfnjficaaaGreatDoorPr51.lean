/-
  WALK: interleavelaw33.ProofRoundTrip.
  HOW AN ARGUMENT'S READING GIVES THE WORDS: a problem; bytes.
-/
import Derived.Test.YtfffalfnjficaaaGreatDoorPr29
import Derived.Test.YtfffalfnjficaaaGreatDoorPr23
import Derived.Test.YtfffalfnjficaaaGreatDoorPr50
import Derived.Test.YtfffalfnjficaaaGreatDoorPr47
import Derived.Test.YtfffalfnjficaaaGreatDoorPr46
import Derived.Test.YtfffalfnjficaaaGreatDoorPr21
import Derived.Test.YtfffalfnjficaaaGreatDoorPr3
import Derived.Test.YtfffalfnjficaaaGreatDoorPr33
import Derived.Laws.IdiomArrays
namespace Go.Proofs.YtfffalfnjficaaaGreatDoor
open Go.RowKit

theorem Stps.okI {w : World} {v : Value} {l : List Stp} (h : Stps w v l) : ∀ s ∈ l, s.ok ∧ ∀ x ∈ s.lits, I64 x := by
  obtain ⟨A, c, ps, rfl, rfl, -, -, -, h4⟩ := h
  intro s hs
  obtain ⟨q, hq, rfl⟩ := List.mem_map.1 hs
  obtain ⟨_, _, _, _, _, hx, _⟩ := (h4 q hq).1
  exact ⟨(h4 q hq).2, hx⟩
theorem trim_plain {f : Form} {l : List Stp} (h : Refutes f l) : ∀ s ∈ trim l, s.plain := by
  obtain ⟨cs, hg, -, -⟩ := h
  intro s hs
  rw [trim_is hg.back hg.kinds] at hs
  obtain ⟨i, hi, rfl⟩ := List.mem_map.1 hs
  obtain ⟨h1, -⟩ := ndIx_mem hi
  have hk := hg.kinds i h1
  unfold bareR Stp.plain
  rcases hk with h | h | h
  · rw [if_pos h]; exact .inl ⟨h, rfl, rfl, rfl, rfl⟩
  · rw [if_neg (by omega), if_pos h]; exact .inr (.inl ⟨h, rfl, rfl, rfl, rfl⟩)
  · rw [if_neg (by omega), if_neg (by omega)]; exact .inr (.inr (.inl ⟨h, rfl, rfl⟩))
set_option maxRecDepth 100000 in
set_option maxHeartbeats 4000000 in
theorem lawPRoundTrip (pv : Value) (a b c : Int) (L : List Int) (w : World) (hp : IsProb w pv a b c L) (hpl : PL w) :
    Calls Tryz.prog 4 #[pv] w fun e w' => e = .returned (.bool true) ∧ Below w.heap.size w w' := by
  have HP := Lib.hid hp
  obtain ⟨nv, rfl, -, -, -, hL⟩ := hp
  obtain ⟨An, cn, rfl, -, -, -, -⟩ := hL
  have HB : Hid (Below w.heap.size w (w.alloc (.cells #[.int .u8 a, .int .u8 b, .int .u8 c, .slice An L.length cn] 25))) := (Below.refl _ _).alloc (Nat.le_refl _) _
  have HPL := Lib.hid hpl
  clear hpl
  go_enter Tryz.func4, Tryz.ntmps4
  go_wp2_with fail
  generalize w.alloc (.cells #[.int .u8 a, .int .u8 b, .int .u8 c, .slice An L.length cn] 25) = W at *
  refine (small_any _ a b c L _ ?hp).mono ?_
  case hp => obtain ⟨nv, e1, e2⟩ := HP.out; exact ⟨_, rfl, e2.1, e2.2.1, e2.2.2.1, by injection e1 with e1; simp only [Array.mk.injEq, List.cons.injEq, and_true, true_and] at e1; rw [e1]; exact e2.2.2.2.keep HB.out⟩
  rintro e w2 ⟨fv, f, rfl, hf, hsm, hb2⟩
  have HB2 := Lib.hid (HB.out.trans (hb2.mono HB.out.size))
  have HF2 := Lib.hid hf
  have HSM := Lib.hid hsm
  obtain ⟨av, cv, rfl, -, -, hf3, hf4⟩ := hf
  obtain ⟨Aa, ca, rfl, -, -, -, -⟩ := hf3
  obtain ⟨Ac, cc, vs, rfl, -, -, -, -, -⟩ := hf4
  clear hb2 hsm
  have B1 := Blk.new w2 35 #[.int .i64 f.ints, .int .i64 f.bools, .slice Aa f.atoms.length ca, .slice Ac f.clauses.length cc]
  have hb3 : Below w2.heap.size w2 (w2.alloc (.cells #[.int .i64 f.ints, .int .i64 f.bools, .slice Aa f.atoms.length ca, .slice Ac f.clauses.length cc] 35)) := (Below.refl _ _).alloc (Nat.le_refl _) _
  go_wp2_with fail
  generalize w2.alloc (.cells #[.int .i64 f.ints, .int .i64 f.bools, .slice Aa f.atoms.length ca, .slice Ac f.clauses.length cc] 35) = w3 at *
  have HBK := Lib.hid B1
  have HF3 := Lib.hid (HF2.out.keep hb3)
  have HB3 := Lib.hid (HB2.out.trans (hb3.mono HB2.out.size))
  clear B1 hb3
  refine (refuteAll_any _ f _ HF3.out HSM.out.q HSM.out.ten).mono ?_
  rintro e w4 ⟨hb4, ⟨lv, l, rfl, hl, hrf, hl1, hl2⟩ | ⟨bv, iv, bs, xs, rfl, hB, hX, hbl, hxl, hfit, hcls, hxb⟩⟩
  · have HF4 := Lib.hid (HF3.out.keep hb4)
    have HB4 := Lib.hid (HB3.out.trans (hb4.mono HB3.out.size))
    have HBK4 := Lib.hid (HBK.out.keep hb4)
    have HL := Lib.hid hl
    have HRF := Lib.hid hrf
    have HL1 := Lib.hid hl1
    have HL2 := Lib.hid hl2
    have hb5 : Below w4.heap.size w4 (w4.alloc (.cells #[.slice none 0 0, .slice none 0 0] 46)) := (Below.refl _ _).alloc (Nat.le_refl _) _
    have HF5 := Lib.hid (HF4.out.keep hb5)
    have HL5 := Lib.hid (HL.out.keep hb5)
    have HB5 := Lib.hid (HB4.out.trans (hb5.mono HB4.out.size))
    have HBK5 := Lib.hid (HBK4.out.keep hb5)
    clear hb4 hl hrf hl2 hb5
    have HAS : Hid (Asked f l) := Lib.hid (HSM.out.asked (by omega) (fun s hs => by have := HL2.out s hs; omega))
    obtain ⟨A, cl, ps, e1, e2, -, -, -, -⟩ := HL5.out
    have HPL2 : Hid (ps.length = l.length) := Lib.hid (by rw [e1]; simp)
    subst e2
    clear e1 hl1
    have q0 := HBK5.out.cell 0
    have q1 := HBK5.out.cell 1
    have q2 := HBK5.out.cell 2
    have q3 := HBK5.out.cell 3
    simp only [List.getElem?_toArray, List.getElem?_cons_zero, List.getElem?_cons_succ] at q0 q1 q2 q3
    go_wp2_with fail
    generalize w4.alloc (.cells #[.slice none 0 0, .slice none 0 0] 46) = w5 at *
    refine (trim_any _ _ f l _ HF5.out HL5.out HAS.out).mono ?_
    rintro e w6 ⟨hb6, ⟨-, v6, ps6, rfl, hps6, hos6⟩ | ⟨hno, -⟩⟩
    · have HB6 := Lib.hid (HB5.out.trans (hb6.mono HB5.out.size))
      have HS6 : Hid (Stps w6 v6 (trim l)) := Lib.hid (by rw [← hps6]; exact hos6.stps)
      have HTL : Hid ((trim l).length ≤ 20000) := Lib.hid (by have := (trim_refutes HRF.out).2; have := HL1.out; omega)
      have HTS := Lib.hid (trim_lits HRF.out HL2.out)
      have HTP := Lib.hid (trim_plain HRF.out)
      obtain ⟨A6, c6, e6, -, -, -⟩ := owns_rd hos6.1
      subst e6
      clear hb6 hps6 hos6 q0 q1 q2 q3
      go_wp2_with fail
      refine (pformat_any _ (trim l) _ HS6.out (HPL.out.below HB6.out).tab (by have := HTL.out; omega) HTS.out).mono ?_
      rintro e w7 ⟨rfl, hb7⟩
      have HB7 := Lib.hid (HB6.out.trans (hb7.mono HB6.out.size))
      have HS7 := Lib.hid (HS6.out.keep hb7)
      have HRD : Hid (RunP [] 1 (stepsText (trim l)) (.ok (trim l))) := Lib.hid (by
        have h := steps_read (trim l) (fun s hs => ⟨HTP.out s hs, HS6.out.okI s hs⟩) [] 1
        simpa using h)
      have HLN : Hid ((stepsText (trim l)).length ≤ 900000000) := Lib.hid (by
        have h := stepsText_len (trim l) (fun s hs => ⟨(HS6.out.okI s hs).1, (HS6.out.okI s hs).2, HTS.out s hs⟩)
        have := HTL.out; omega)
      clear hb7
      go_wp2_with fail
      refine (pparse_any (stepsText (trim l)) w7 HLN.out (HPL.out.below HB7.out)).mono ?_
      rintro e w8 ⟨hb8, hres⟩
      obtain ⟨v8, rfl, hv8⟩ : ∃ v, e = .returned (.tuple #[v, .int .i64 0, .int .i64 0]) ∧ Stps w8 v (trim l) := by
        rcases hres with ⟨l2, v, h1, h2, h3⟩ | ⟨k, h1, _⟩
        · have e1 := h1.fn HRD.out
          injection e1 with e1; subst e1
          exact ⟨v, h2, h3⟩
        · exact absurd (h1.fn HRD.out) (by intro e; cases e)
      have HB8 := Lib.hid (HB7.out.trans (hb8.mono HB7.out.size))
      have HS8 := Lib.hid (HS7.out.keep hb8)
      have HT8 := Lib.hid hv8
      obtain ⟨A8, c8, ps8, -, rfl, -, -, -, -⟩ := hv8
      clear hb8 hres
      have HCS := Lib.hid (sameSteps_any _ _ (trim l) _ HT8.out HS8.out)
      go_wp2_with fail
      refine HCS.out.mono ?_
      rintro e w9 ⟨rfl, hb9⟩
      have HB9 := Lib.hid (HB8.out.trans (hb9.mono HB8.out.size))
      clear hb9
      go_wp2_with fail
      refine (awake33 _).mono ?_
      rintro e wz ⟨rfl, hbz⟩
      have HBZ := Lib.hid (HB9.out.trans (hbz.mono HB9.out.size))
      clear hbz
      go_wp2_with fail
      go_ret
      exact ⟨rfl, HBZ.out⟩
    · exact absurd HRF.out hno
  · have HB4 := Lib.hid (HB3.out.trans (hb4.mono HB3.out.size))
    have HB5 : Hid (Below w.heap.size w (w4.alloc (.cells #[bv, iv] 46))) := Lib.hid (HB4.out.alloc HB4.out.size _)
    clear hb4 hbl hxl hfit hcls hxb
    obtain ⟨Ab, cb, rfl, -, -, -⟩ := hB
    obtain ⟨Ai, ci, rfl, -, -, -, -⟩ := hX
    go_wp2_with fail
    refine (awake33 _).mono ?_
    rintro e wz ⟨rfl, hbz⟩
    have HBZ := Lib.hid (HB5.out.trans (hbz.mono HB5.out.size))
    clear hbz
    go_wp2_with fail
    go_ret
    exact ⟨rfl, HBZ.out⟩
end Go.Proofs.YtfffalfnjficaaaGreatDoor

namespace Go.Proofs.YtfffalfnjficaaaGreatDoor
open Go.ChangeShapes Go.WideShapes Go.ChangeAt Go.RowKit Go.Deep Go.Joins

section
variable {H : Type} {enc : TypeId × Value → H} {P : Program} {w : World}

theorem u8_of_wf {n : Int} (h : (Lit.int .u8 n).wf = true) : 0 ≤ n ∧ n ≤ 255 := by
  simpa [Lit.wf, IntKind.min, IntKind.max, IntKind.signed, IntKind.bits] using h

theorem rd_byts {t e : TypeId} {fuel : Nat} {v : Value} {x : DataW H × List MemPlace} (ht : P.underlying t = some (.slice e)) (he : P.underlying e = some (.int .u8)) (hc : P.cellsOf e = 1)
    (h : DataW.trod enc P w 0 (fun _ => true) true fuel t [v] = some x) : ∃ xs, Byts w v xs := by
  obtain ⟨xs, A, c, D, rfl, h1, h2, h3, h4, _, _⟩ := open_sl (α := Int) (Q := fun a _ => 0 ≤ a ∧ a ≤ 255) (g := fun a => [.int .u8 a]) ht hc (by omega) (fun _ => rfl)
    (fun n cs y hy => by obtain ⟨a, rfl, _, hw⟩ := DataW.trod_int he hy; exact ⟨a, rfl, u8_of_wf hw⟩) h
  rw [flatMap_one] at h3
  refine ⟨xs, A, c, rfl, h1, h2, fun x hx => ?_, h3⟩
  obtain ⟨i, hi, rfl⟩ := List.getElem_of_mem hx
  exact h4 i _ (List.getElem?_eq_getElem hi)

set_option maxRecDepth 100000 in
theorem rd_prob {b0 : Nat} {W : World} {v : Value} {d : DataW H} {p : List MemPlace} (hv : Value.okWide Tryz.prog W .any b0 25 v) (h : DataW.Trod enc Tryz.prog W 0 (fun _ => true) true 25 v d p) :
    ∃ a b c L, IsProb W v a b c L := by
  obtain ⟨cs, rfl, hsz⟩ := okWide_struct Tryz.underlying25 hv
  rw [show Tryz.prog.cellsOf 25 = 4 by kernel_rfl] at hsz
  obtain ⟨c0, c1, c2, c3, rfl⟩ : ∃ c0 c1 c2 c3, cs = #[c0, c1, c2, c3] := by
    match cs, hsz with
    | ⟨[c0, c1, c2, c3]⟩, _ => exact ⟨c0, c1, c2, c3, rfl⟩
  obtain ⟨fuel, hf⟩ := h
  obtain ⟨y0, y1, n, _, _, h0, h1⟩ := trod_struct2 Tryz.underlying25 hf
  have h0' : DataW.trod enc Tryz.prog W 0 (fun _ => true) true n 22 [c0, c1, c2] = some y0 := by
    rw [show Tryz.prog.cellsOf 22 = 3 by kernel_rfl] at h0
    exact h0
  have h1' : DataW.trod enc Tryz.prog W 0 (fun _ => true) true n 23 [c3] = some y1 := by
    rw [show Tryz.prog.cellsOf 23 = 1 by kernel_rfl] at h1
    exact h1
  obtain ⟨z0, z1, z2, m, _, g0, g1, g2⟩ := trod_array3 Tryz.underlying22 (by kernel_rfl) h0'
  obtain ⟨a, ea, _, wa⟩ := DataW.trod_int Tryz.underlying5 g0
  obtain ⟨b, eb, _, wb⟩ := DataW.trod_int Tryz.underlying5 g1
  obtain ⟨c, ec, _, wc⟩ := DataW.trod_int Tryz.underlying5 g2
  injection ea with ea
  injection eb with eb
  injection ec with ec
  subst ea eb ec
  obtain ⟨L, hL⟩ := rd_byts Tryz.underlying23 Tryz.underlying5 (by kernel_rfl) h1'
  exact ⟨a, b, c, L, c3, rfl, u8_of_wf wa, u8_of_wf wb, u8_of_wf wc, hL⟩


end
/- HOW AN ARGUMENT'S READING GIVES THE WORDS: single numbers and booleans; small numbers. -/
open Go.ChangeShapes Go.WideShapes Go.ChangeAt Go.RowKit Go.Deep Go.Joins

/-- The value v is a slice of the small numbers xs. -/
def I8s (w : World) (v : Value) (xs : List Int) : Prop :=
  ∃ A c, v = .slice A xs.length c ∧ xs.length ≤ c ∧ c ≤ maxLen ∧ (∀ x ∈ xs, -128 ≤ x ∧ x ≤ 127) ∧ Rd w A (xs.map (Value.int .i8))
theorem I8s.keep {w w' : World} {v : Value} {xs : List Int} (h : I8s w v xs) (hb : Below w.heap.size w w') : I8s w' v xs := by
  obtain ⟨A, c, h1, h2, h3, h4, h5⟩ := h
  exact ⟨A, c, h1, h2, h3, h4, h5.keep hb⟩

section
variable {H : Type} {enc : TypeId × Value → H} {P : Program} {w : World}
theorem i8_of_wf {n : Int} (h : (Lit.int .i8 n).wf = true) : -128 ≤ n ∧ n ≤ 127 := by
  simpa [Lit.wf, IntKind.min, IntKind.max, IntKind.signed, IntKind.bits] using h
theorem rd_num {k : IntKind} {b0 : Nat} {t : TypeId} {v : Value} {d : DataW H} {p : List MemPlace} (ht : P.underlying t = some (.int k)) (hv : Value.okWide P w .any b0 t v) (h : DataW.Trod enc P w 0 (fun _ => true) true t v d p) : ∃ n, v = .int k n ∧ (Lit.int k n).wf = true := by
  obtain ⟨n, rfl⟩ := okWide_int ht hv
  obtain ⟨fuel, hf⟩ := h
  obtain ⟨m, e, _, hw⟩ := DataW.trod_int ht hf
  simp [Value.cells] at e
  subst e
  exact ⟨_, rfl, hw⟩
theorem rd_u8 {b0 : Nat} {t : TypeId} {v : Value} {d : DataW H} {p : List MemPlace} (ht : P.underlying t = some (.int .u8)) (hv : Value.okWide P w .any b0 t v) (h : DataW.Trod enc P w 0 (fun _ => true) true t v d p) : ∃ n, v = .int .u8 n ∧ 0 ≤ n ∧ n ≤ 255 := by
  obtain ⟨n, h1, h2⟩ := rd_num ht hv h
  exact ⟨n, h1, u8_of_wf h2⟩
theorem rd_i64 {b0 : Nat} {t : TypeId} {v : Value} {d : DataW H} {p : List MemPlace} (ht : P.underlying t = some (.int .i64)) (hv : Value.okWide P w .any b0 t v) (h : DataW.Trod enc P w 0 (fun _ => true) true t v d p) : ∃ n, v = .int .i64 n ∧ I64 n := by
  obtain ⟨n, h1, h2⟩ := rd_num ht hv h
  exact ⟨n, h1, i64_of_wf h2⟩
theorem rd_i8s {t e : TypeId} {fuel : Nat} {v : Value} {x : DataW H × List MemPlace} (ht : P.underlying t = some (.slice e)) (he : P.underlying e = some (.int .i8)) (hc : P.cellsOf e = 1)
    (h : DataW.trod enc P w 0 (fun _ => true) true fuel t [v] = some x) : ∃ xs, I8s w v xs := by
  obtain ⟨xs, A, c, D, rfl, h1, h2, h3, h4, _, _⟩ := open_sl (α := Int) (Q := fun a _ => -128 ≤ a ∧ a ≤ 127) (g := fun a => [.int .i8 a]) ht hc (by omega) (fun _ => rfl)
    (fun n cs y hy => by obtain ⟨a, rfl, _, hw⟩ := DataW.trod_int he hy; exact ⟨a, rfl, i8_of_wf hw⟩) h
  rw [flatMap_one] at h3
  refine ⟨xs, A, c, rfl, h1, h2, fun x hx => ?_, h3⟩
  obtain ⟨i, hi, rfl⟩ := List.getElem_of_mem hx
  exact h4 i _ (List.getElem?_eq_getElem hi)
end
end Go.Proofs.YtfffalfnjficaaaGreatDoor
