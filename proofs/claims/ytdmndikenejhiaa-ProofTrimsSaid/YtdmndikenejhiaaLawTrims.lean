/-
  WALK: interleavelaw33.ProofTrims.
-/
import Derived.Test.YtdmndikenejhiaaCore
import Derived.Test.YtdmndikenejhiaaLawTrimAgain
import Derived.Test.YtdmndikenejhiaaLawClauses2
namespace Go.Proofs.Ytdmndikenejhiaa
open Go.RowKit

/-- A formula with a refutation has no model. -/
theorem refutes_noT {f : Form} {l : List Stp} {bs : List Bool} {xs : List Int} (h : Refutes f l) (hf : Fits f.atoms bs xs) (hc : ∀ c ∈ f.clauses, c.any (holds bs) = true) : False := by
  obtain ⟨cs, hg, h0, hl⟩ := h
  have hlen := hg.len
  have hlt : l.length - 1 < cs.length := by omega
  have hm : cs.getD (l.length - 1) [] ∈ cs := by rw [List.getD_eq_getElem?_getD, List.getElem?_eq_getElem hlt]; exact List.getElem_mem hlt
  have := runS_holds hf hc hg (by simp) _ hm
  rw [hl] at this
  cases this
theorem stps_nilT (w : World) : Stps w (.slice none 0 0) [] := ⟨none, 0, [], rfl, rfl, Nat.le_refl _, by simp [maxLen], Rd.nil _ _, by simp⟩
theorem cells_lenT (ps : List (Stp × Value)) : (ps.flatMap Stp.cells).length = ps.length * 6 := by
  induction ps with
  | nil => rfl
  | cons p ps ih => rw [List.flatMap_cons, List.length_append, ih]; simp [Stp.cells]; omega
theorem cells_oneT {w : World} {ps : List (Stp × Value)} (h : ∀ p ∈ ps, Ints w p.2 p.1.lits ∧ p.1.ok) : ∀ u ∈ ps.flatMap Stp.cells, u.oneCell' = true := by
  intro u hu
  obtain ⟨p, hp, hu⟩ := List.mem_flatMap.1 hu
  obtain ⟨A, c, e, -⟩ := (h p hp).1
  simp only [Stp.cells, e, List.mem_cons, List.not_mem_nil, or_false] at hu
  rcases hu with rfl | rfl | rfl | rfl | rfl | rfl <;> rfl

theorem TrimRet.no {w w' : World} {f : Form} {l : List Stp} {e : Ending} (h : TrimRet w f l e w') (hn : ¬ Refutes f l) : Below w.heap.size w w' ∧ e = .returned (.tuple #[.slice none 0 0, .bool false]) := by
  obtain ⟨h1, ⟨h2, _⟩ | ⟨_, h2⟩⟩ := h
  · exact absurd h2 hn
  · exact ⟨h1, h2⟩

set_option maxRecDepth 100000 in
set_option maxHeartbeats 4000000 in
theorem lawTrims (pv tv : Value) (a b c : Int) (L : List Int) (xs : List (Int × Int × Int)) (n2 : Bool) (w : World) (hp : IsProb w pv a b c L) (ht : Trips w tv xs) :
    Calls Try.prog 10 #[pv, tv, .bool n2] w fun e w' => e = .returned (.bool true) ∧ Below w.heap.size w w' := by
  have HT := Lib.hid ht
  obtain ⟨At, ct, rfl, -, -, -, -⟩ := ht
  have HP := Lib.hid hp
  obtain ⟨nv, rfl, -, -, -, hL⟩ := hp
  obtain ⟨An, cn, rfl, -, -, -, -⟩ := hL
  have HB : Hid (Below w.heap.size w (w.alloc (.cells #[.int .u8 a, .int .u8 b, .int .u8 c, .slice An L.length cn] 25))) := (Below.refl _ _).alloc (Nat.le_refl _) _
  go_enter Try.func10, Try.ntmps10
  go_wp2_with fail
  generalize w.alloc (.cells #[.int .u8 a, .int .u8 b, .int .u8 c, .slice An L.length cn] 25) = W at *
  refine (small_any _ a b c L _ ?hp).mono ?_
  case hp => obtain ⟨nv, e1, e2⟩ := HP.out; exact ⟨_, rfl, e2.1, e2.2.1, e2.2.2.1, by injection e1 with e1; simp only [Array.mk.injEq, List.cons.injEq, and_true, true_and] at e1; rw [e1]; exact e2.2.2.2.keep HB.out⟩
  rintro e w2 ⟨fv, f, rfl, hf, hsm, hb2⟩
  have HB2 := Lib.hid (HB.out.trans (hb2.mono HB.out.size))
  have HF2 := Lib.hid hf
  have HSM := Lib.hid hsm
  obtain ⟨av, cv, rfl, -, -, hf3, hf4⟩ := hf
  obtain ⟨Aa, ca, rfl, -, -, -, -⟩ := hf3
  obtain ⟨Ac, cc, vs, rfl, -, -, -, -, -⟩ := hf4
  clear hb2 hsm
  have B1 := Blk.new w2 32 #[.int .i64 f.ints, .int .i64 f.bools, .slice Aa f.atoms.length ca, .slice Ac f.clauses.length cc]
  have hb3 : Below w2.heap.size w2 (w2.alloc (.cells #[.int .i64 f.ints, .int .i64 f.bools, .slice Aa f.atoms.length ca, .slice Ac f.clauses.length cc] 32)) := (Below.refl _ _).alloc (Nat.le_refl _) _
  go_wp2_with fail
  generalize w2.alloc (.cells #[.int .i64 f.ints, .int .i64 f.bools, .slice Aa f.atoms.length ca, .slice Ac f.clauses.length cc] 32) = w3 at *
  have HBK := Lib.hid B1
  have HF3 := Lib.hid (HF2.out.keep hb3)
  have HB3 := Lib.hid (HB2.out.trans (hb3.mono HB2.out.size))
  clear B1 hb3
  refine (refuteAll_any _ f _ HF3.out HSM.out.q HSM.out.ten).mono ?_
  rintro e w4 ⟨hb4, ⟨lv, l, rfl, hl, hrf, hl1, hl2⟩ | ⟨bv, iv, bs, ys, rfl, hB, hX, hbl, hxl, hfit, hcls, hxb⟩⟩
  · have HF4 := Lib.hid (HF3.out.keep hb4)
    have HB4 := Lib.hid (HB3.out.trans (hb4.mono HB3.out.size))
    have HBK4 := Lib.hid (HBK.out.keep hb4)
    have HL := Lib.hid hl
    have HRF := Lib.hid hrf
    have HL2 := Lib.hid hl2
    have hb5 : Below w4.heap.size w4 (w4.alloc (.cells #[.slice none 0 0, .slice none 0 0] 45)) := (Below.refl _ _).alloc (Nat.le_refl _) _
    have HF5 := Lib.hid (HF4.out.keep hb5)
    have HL5 := Lib.hid (HL.out.keep hb5)
    have HB5 := Lib.hid (HB4.out.trans (hb5.mono HB4.out.size))
    have HBK5 := Lib.hid (HBK4.out.keep hb5)
    clear hb4 hl hrf hl2 hb5
    go_upto_region 7 with fail
    generalize w4.alloc (.cells #[.slice none 0 0, .slice none 0 0] 45) = w5 at *
    obtain ⟨A, cl, ps, e1, e2, e3, e4, e5, e6⟩ := HL5.out
    subst e1 e2
    have HRD := Lib.hid e5
    have HIN := Lib.hid e6
    have hp0 : 0 < ps.length := by obtain ⟨_, _, h, _⟩ := HRF.out; simpa using h
    have hpl : ps.length ≤ 20000 := by simpa using hl1
    unfold maxLen at e4
    obtain ⟨iT, hiT, hzT0, hzT1, hzT2⟩ := info_parts info_step
    clear e5 e6 hl1
    cases n2 with
    | false =>
      have HSL : Hid (Stps w5 (.slice A ps.length cl) (ps.map (·.1))) := Lib.hid (HL5.out)
      have HAS : Hid (Asked f (ps.map (·.1))) := Lib.hid (HSM.out.asked (by simp; omega) (fun s hs => by have := HL2.out s hs; omega))
      have HLN : Hid ((ps.flatMap Stp.cells).length = ps.length * 6) := Lib.hid (by rw [cells_lenT])
      have HON := Lib.hid (cells_oneT (w := w5) (ps := ps) (fun p hp => HIN.out p hp))
      have HRD2 : Hid (Rd w5 A (ps.flatMap Stp.cells)) := Lib.hid (HRD.out)
      have H63 : Hid (0 + ps.length ≤ maxLen) := by refine Lib.hid ?_; unfold maxLen; omega
      have HBY : Hid ((0 + ps.length) * 64 ≤ 140737488355328) := by refine Lib.hid ?_; omega
      go_upto_region 9 with fail
      generalize hls : (ps.map (·.1)) = l2 at *
      have HLL : Hid ((ps.map (·.1)) = l2) := Lib.hid hls
      clear hls
      go_wp2_with (at_builtin; refine wpList_append_rd _ rfl _ _ 26 rfl w5.heap.size 50 iT zT 6 64 Try.underlying26 hiT hzT0 hzT1 hzT2 rfl (by decide) (.slice none 0 0) 0 [] rfl (World.ownsRow_nil _ _ _ _) A ps.length cl (ps.flatMap Stp.cells) rfl HLN.out HRD2.out HON.out H63.out HBY.out (Nat.le_refl _) ?_)
      intro v6 w6 hown hgrow hat
      have hb6 : Below w5.heap.size w5 w6 := grownBy_below hgrow (Nat.le_refl _) (fun k e => by cases e)
      have HB6 := Lib.hid (HB5.out.trans (hb6.mono HB5.out.size))
      have HF6 := Lib.hid (HF5.out.keep hb6)
      have HBK6 := Lib.hid (HBK5.out.keep hb6)
      have HSL6 := Lib.hid (HSL.out.keep hb6)
      obtain ⟨A6, c6, e6, e61, e62, e63⟩ := owns_rd hown
      subst e6
      have HSW6 : Hid (Stps w6 (.slice A6 ps.length c6) l2) := Lib.hid (by
        rw [← HLL.out]
        exact ⟨A6, c6, ps, rfl, by simp, by omega, e62, by simpa using e63, fun p hp => ⟨(HIN.out p hp).1.keep hb6, (HIN.out p hp).2⟩⟩)
      clear hown hgrow hat hb6 e61 e62 e63
      have q0 := HBK6.out.cell 0
      have q1 := HBK6.out.cell 1
      have q2 := HBK6.out.cell 2
      have q3 := HBK6.out.cell 3
      simp only [List.getElem?_toArray, List.getElem?_cons_zero, List.getElem?_cons_succ] at q0 q1 q2 q3
      go_wp2_with fail
      refine (trim_any _ _ f l2 _ HF6.out HSL6.out HAS.out).mono ?_
      rintro e w7 ⟨hb7, ⟨hr, va, pa, rfl, hpa, hoa⟩ | ⟨hr, rfl⟩⟩
      · have HR := Lib.hid hr
        have HB7 := Lib.hid (HB6.out.trans (hb7.mono HB6.out.size))
        have HF7 := Lib.hid (HF6.out.keep hb7)
        have HBK7 := Lib.hid (HBK6.out.keep hb7)
        have HSL7 := Lib.hid (HSL6.out.keep hb7)
        have HSW7 := Lib.hid (HSW6.out.keep hb7)
        have HA7 : Hid (Stps w7 va (trim l2)) := Lib.hid (by rw [← hpa]; exact hoa.stps)
        obtain ⟨Aa7, ca7, ea7, -, -, -⟩ := owns_rd hoa.1
        subst ea7
        clear hpa hoa hb7 q0 q1 q2 q3 hr
        have q0 := HBK7.out.cell 0
        have q1 := HBK7.out.cell 1
        have q2 := HBK7.out.cell 2
        have q3 := HBK7.out.cell 3
        simp only [List.getElem?_toArray, List.getElem?_cons_zero, List.getElem?_cons_succ] at q0 q1 q2 q3
        go_wp2_with fail
        refine (rtrim_any _ _ f l2 _ HF7.out HSL7.out HAS.out).mono ?_
        rintro e w8 ⟨hb8, ⟨-, v8, p8, rfl, hp8, ho8⟩ | ⟨hno, -⟩⟩
        · have HB8 := Lib.hid (HB7.out.trans (hb8.mono HB7.out.size))
          have HF8 := Lib.hid (HF7.out.keep hb8)
          have HBK8 := Lib.hid (HBK7.out.keep hb8)
          have HSL8 := Lib.hid (HSL7.out.keep hb8)
          have HSW8 := Lib.hid (HSW7.out.keep hb8)
          have HA8 := Lib.hid (HA7.out.keep hb8)
          have HC8 : Hid (Stps w8 v8 (trim l2)) := Lib.hid (by rw [← hp8]; exact ho8.stps)
          obtain ⟨Aa8, ca8, ea8, -, -, -⟩ := owns_rd ho8.1
          subst ea8
          clear hp8 ho8 hb8 q0 q1 q2 q3
          have q0 := HBK8.out.cell 0
          have q1 := HBK8.out.cell 1
          have q2 := HBK8.out.cell 2
          have q3 := HBK8.out.cell 3
          simp only [List.getElem?_toArray, List.getElem?_cons_zero, List.getElem?_cons_succ] at q0 q1 q2 q3
          go_wp2_with fail
          refine (core_any _ _ f l2 _ HF8.out HSL8.out HAS.out).mono ?_
          rintro e w9 ⟨hb9, ⟨-, v9, x9, rfl, hx9, hc9⟩ | ⟨hno, -⟩⟩
          · have HB9 := Lib.hid (HB8.out.trans (hb9.mono HB8.out.size))
            have HF9 := Lib.hid (HF8.out.keep hb9)
            have HBK9 := Lib.hid (HBK8.out.keep hb9)
            have HSL9 := Lib.hid (HSL8.out.keep hb9)
            have HSW9 := Lib.hid (HSW8.out.keep hb9)
            have HA9 := Lib.hid (HA8.out.keep hb9)
            have HC9 := Lib.hid (HC8.out.keep hb9)
            have HX9 := Lib.hid hx9
            have HO9 := Lib.hid hc9
            obtain ⟨Ax9, cx9, ex9, -, -, -, -⟩ := hx9
            subst ex9
            clear hc9 hb9 q0 q1 q2 q3
            have q0 := HBK9.out.cell 0
            have q1 := HBK9.out.cell 1
            have q2 := HBK9.out.cell 2
            have q3 := HBK9.out.cell 3
            simp only [List.getElem?_toArray, List.getElem?_cons_zero, List.getElem?_cons_succ] at q0 q1 q2 q3
            go_wp2_with fail
            refine (rcore_any _ _ f l2 _ HF9.out HSL9.out HAS.out).mono ?_
            rintro e w10 ⟨hb10, ⟨-, v10, x10, rfl, hx10, hc10⟩ | ⟨hno, -⟩⟩
            · have HB10 := Lib.hid (HB9.out.trans (hb10.mono HB9.out.size))
              have HSL10 := Lib.hid (HSL9.out.keep hb10)
              have HSW10 := Lib.hid (HSW9.out.keep hb10)
              have HA10 := Lib.hid (HA9.out.keep hb10)
              have HC10 := Lib.hid (HC9.out.keep hb10)
              have HX10 := Lib.hid (HX9.out.keep hb10)
              have heq : x10 = x9 := hc10.eq HO9.out
              rw [heq] at hx10
              have HY10 := Lib.hid hx10
              obtain ⟨Ax10, cx10, ex10, -, -, -, -⟩ := hx10
              subst ex10
              clear hc10 hb10 heq q0 q1 q2 q3
              have HC11 := Lib.hid (sameSteps_any _ _ (trim l2) w10 HA10.out HC10.out)
              go_wp2_with fail
              refine HC11.out.mono ?_
              rintro e w11 ⟨rfl, hb11⟩
              have HB11 := Lib.hid (HB10.out.trans (hb11.mono HB10.out.size))
              have HSL11 := Lib.hid (HSL10.out.keep hb11)
              have HSW11 := Lib.hid (HSW10.out.keep hb11)
              have HC12 : Hid _ := Lib.hid (same_any _ _ x9 x9 w11 (HX10.out.keep hb11) (HY10.out.keep hb11))
              rw [show decide (x9 = x9) = true by simp] at HC12
              clear hb11
              go_wp2_with fail
              refine HC12.out.mono ?_
              rintro e w12 ⟨rfl, n12, rfl⟩
              have HB12 := Lib.hid (bdrew HB11.out n12)
              have HC13 := Lib.hid (sameSteps_any _ _ l2 (w11.drewN n12) (HSL11.out.keep (bdrew (Below.refl _ _) n12)) (HSW11.out.keep (bdrew (Below.refl _ _) n12)))
              go_wp2_with fail
              refine HC13.out.mono ?_
              rintro e w13 ⟨rfl, hb13⟩
              have HB13 := Lib.hid (HB12.out.trans (hb13.mono HB12.out.size))
              clear hb13
              go_wp2_with fail
              refine (awake33 _).mono ?_
              rintro e wz ⟨rfl, hbz⟩
              have HBZ := Lib.hid (HB13.out.trans (hbz.mono HB13.out.size))
              clear hbz
              go_wp2_with fail
              go_ret
              exact ⟨rfl, HBZ.out⟩
            · exact absurd HR.out hno
          · exact absurd HR.out hno
        · exact absurd HR.out hno
      · have HR := Lib.hid hr
        have HB7 := Lib.hid (HB6.out.trans (hb7.mono HB6.out.size))
        have HF7 := Lib.hid (HF6.out.keep hb7)
        have HBK7 := Lib.hid (HBK6.out.keep hb7)
        have HSL7 := Lib.hid (HSL6.out.keep hb7)
        have HSW7 := Lib.hid (HSW6.out.keep hb7)
        clear hb7 q0 q1 q2 q3 hr
        have q0 := HBK7.out.cell 0
        have q1 := HBK7.out.cell 1
        have q2 := HBK7.out.cell 2
        have q3 := HBK7.out.cell 3
        simp only [List.getElem?_toArray, List.getElem?_cons_zero, List.getElem?_cons_succ] at q0 q1 q2 q3
        go_wp2_with fail
        refine (rtrim_any _ _ f l2 _ HF7.out HSL7.out HAS.out).mono ?_
        rintro e w8 ⟨hb8, ⟨hyes, -⟩ | ⟨-, rfl⟩⟩
        · exact absurd hyes HR.out
        · have HB8 := Lib.hid (HB7.out.trans (hb8.mono HB7.out.size))
          have HF8 := Lib.hid (HF7.out.keep hb8)
          have HBK8 := Lib.hid (HBK7.out.keep hb8)
          have HSL8 := Lib.hid (HSL7.out.keep hb8)
          have HSW8 := Lib.hid (HSW7.out.keep hb8)
          clear hb8 q0 q1 q2 q3
          have q0 := HBK8.out.cell 0
          have q1 := HBK8.out.cell 1
          have q2 := HBK8.out.cell 2
          have q3 := HBK8.out.cell 3
          simp only [List.getElem?_toArray, List.getElem?_cons_zero, List.getElem?_cons_succ] at q0 q1 q2 q3
          go_wp2_with fail
          refine (core_any _ _ f l2 _ HF8.out HSL8.out HAS.out).mono ?_
          rintro e w9 ⟨hb9, ⟨hyes, -⟩ | ⟨-, rfl⟩⟩
          · exact absurd hyes HR.out
          · have HB9 := Lib.hid (HB8.out.trans (hb9.mono HB8.out.size))
            have HF9 := Lib.hid (HF8.out.keep hb9)
            have HBK9 := Lib.hid (HBK8.out.keep hb9)
            have HSL9 := Lib.hid (HSL8.out.keep hb9)
            have HSW9 := Lib.hid (HSW8.out.keep hb9)
            clear hb9 q0 q1 q2 q3
            have q0 := HBK9.out.cell 0
            have q1 := HBK9.out.cell 1
            have q2 := HBK9.out.cell 2
            have q3 := HBK9.out.cell 3
            simp only [List.getElem?_toArray, List.getElem?_cons_zero, List.getElem?_cons_succ] at q0 q1 q2 q3
            go_wp2_with fail
            refine (rcore_any _ _ f l2 _ HF9.out HSL9.out HAS.out).mono ?_
            rintro e w10 ⟨hb10, ⟨hyes, -⟩ | ⟨-, rfl⟩⟩
            · exact absurd hyes HR.out
            · have HB10 := Lib.hid (HB9.out.trans (hb10.mono HB9.out.size))
              have HSL10 := Lib.hid (HSL9.out.keep hb10)
              have HSW10 := Lib.hid (HSW9.out.keep hb10)
              clear hb10 q0 q1 q2 q3
              have HC11 := Lib.hid (sameSteps_any _ _ [] w10 (stps_nilT _) (stps_nilT _))
              go_wp2_with fail
              refine HC11.out.mono ?_
              rintro e w11 ⟨rfl, hb11⟩
              have HB11 := Lib.hid (HB10.out.trans (hb11.mono HB10.out.size))
              have HSL11 := Lib.hid (HSL10.out.keep hb11)
              have HSW11 := Lib.hid (HSW10.out.keep hb11)
              have HC12 : Hid _ := Lib.hid (same_any _ _ [] [] w11 (Ints.nil _) (Ints.nil _))
              rw [show decide ([] = []) = true by simp] at HC12
              clear hb11
              go_wp2_with fail
              refine HC12.out.mono ?_
              rintro e w12 ⟨rfl, n12, rfl⟩
              have HB12 := Lib.hid (bdrew HB11.out n12)
              have HC13 := Lib.hid (sameSteps_any _ _ l2 (w11.drewN n12) (HSL11.out.keep (bdrew (Below.refl _ _) n12)) (HSW11.out.keep (bdrew (Below.refl _ _) n12)))
              go_wp2_with fail
              refine HC13.out.mono ?_
              rintro e w13 ⟨rfl, hb13⟩
              have HB13 := Lib.hid (HB12.out.trans (hb13.mono HB12.out.size))
              clear hb13
              go_wp2_with fail
              refine (awake33 _).mono ?_
              rintro e wz ⟨rfl, hbz⟩
              have HBZ := Lib.hid (HB13.out.trans (hbz.mono HB13.out.size))
              clear hbz
              go_wp2_with fail
              go_ret
              exact ⟨rfl, HBZ.out⟩
    | true =>
      have HSL : Hid (Stps w5 (.slice A (ps.length - 1) cl) ((ps.take (ps.length - 1)).map (·.1))) := Lib.hid (by rw [List.map_take]; exact HL5.out.take (by omega))
      have HAS : Hid (Asked f ((ps.take (ps.length - 1)).map (·.1))) := Lib.hid (HSM.out.asked (by simp; omega) (fun s hs => by have := HL2.out s (by rw [List.map_take] at hs; exact List.mem_of_mem_take hs); omega))
      have HLN : Hid (((ps.take (ps.length - 1)).flatMap Stp.cells).length = (ps.length - 1) * 6) := Lib.hid (by rw [cells_lenT]; simp)
      have HON := Lib.hid (cells_oneT (w := w5) (ps := (ps.take (ps.length - 1))) (fun p hp => HIN.out p (List.mem_of_mem_take hp)))
      have HRD2 : Hid (Rd w5 A ((ps.take (ps.length - 1)).flatMap Stp.cells)) := Lib.hid (by have h := HRD.out; rw [← List.take_append_drop (ps.length - 1) ps, List.flatMap_append] at h; exact h.pre)
      have H63 : Hid (0 + (ps.length - 1) ≤ maxLen) := by refine Lib.hid ?_; unfold maxLen; omega
      have HBY : Hid ((0 + (ps.length - 1)) * 64 ≤ 140737488355328) := by refine Lib.hid ?_; omega
      have hn1 : ((ps.length : Int) - 1) = ((ps.length - 1 : Nat) : Int) := by omega
      have k0 : (0 : Int) ≤ (ps.length : Int) - 1 := by omega
      have k1 : (ps.length : Int) - 1 ≤ (cl : Int) := by omega
      clear hn1
      go_upto_region 9 with fail
      generalize hls : ((ps.take (ps.length - 1)).map (·.1)) = l2 at *
      have HLL : Hid (((ps.take (ps.length - 1)).map (·.1)) = l2) := Lib.hid hls
      clear hls
      go_wp2_with (at_builtin; refine wpList_append_rd _ rfl _ _ 26 rfl w5.heap.size 50 iT zT 6 64 Try.underlying26 hiT hzT0 hzT1 hzT2 rfl (by decide) (.slice none 0 0) 0 [] rfl (World.ownsRow_nil _ _ _ _) A (ps.length - 1) cl ((ps.take (ps.length - 1)).flatMap Stp.cells) rfl HLN.out HRD2.out HON.out H63.out HBY.out (Nat.le_refl _) ?_)
      intro v6 w6 hown hgrow hat
      have hb6 : Below w5.heap.size w5 w6 := grownBy_below hgrow (Nat.le_refl _) (fun k e => by cases e)
      have HB6 := Lib.hid (HB5.out.trans (hb6.mono HB5.out.size))
      have HF6 := Lib.hid (HF5.out.keep hb6)
      have HBK6 := Lib.hid (HBK5.out.keep hb6)
      have HSL6 := Lib.hid (HSL.out.keep hb6)
      obtain ⟨A6, c6, e6, e61, e62, e63⟩ := owns_rd hown
      subst e6
      have HSW6 : Hid (Stps w6 (.slice A6 (ps.length - 1) c6) l2) := Lib.hid (by
        rw [← HLL.out]
        exact ⟨A6, c6, (ps.take (ps.length - 1)), rfl, by simp, by simp; omega, e62, by simpa using e63, fun p hp => ⟨(HIN.out p (List.mem_of_mem_take hp)).1.keep hb6, (HIN.out p (List.mem_of_mem_take hp)).2⟩⟩)
      clear hown hgrow hat hb6 e61 e62 e63
      have q0 := HBK6.out.cell 0
      have q1 := HBK6.out.cell 1
      have q2 := HBK6.out.cell 2
      have q3 := HBK6.out.cell 3
      simp only [List.getElem?_toArray, List.getElem?_cons_zero, List.getElem?_cons_succ] at q0 q1 q2 q3
      go_wp2_with fail
      refine (trim_any _ _ f l2 _ HF6.out HSL6.out HAS.out).mono ?_
      rintro e w7 ⟨hb7, ⟨hr, va, pa, rfl, hpa, hoa⟩ | ⟨hr, rfl⟩⟩
      · have HR := Lib.hid hr
        have HB7 := Lib.hid (HB6.out.trans (hb7.mono HB6.out.size))
        have HF7 := Lib.hid (HF6.out.keep hb7)
        have HBK7 := Lib.hid (HBK6.out.keep hb7)
        have HSL7 := Lib.hid (HSL6.out.keep hb7)
        have HSW7 := Lib.hid (HSW6.out.keep hb7)
        have HA7 : Hid (Stps w7 va (trim l2)) := Lib.hid (by rw [← hpa]; exact hoa.stps)
        obtain ⟨Aa7, ca7, ea7, -, -, -⟩ := owns_rd hoa.1
        subst ea7
        clear hpa hoa hb7 q0 q1 q2 q3 hr
        have q0 := HBK7.out.cell 0
        have q1 := HBK7.out.cell 1
        have q2 := HBK7.out.cell 2
        have q3 := HBK7.out.cell 3
        simp only [List.getElem?_toArray, List.getElem?_cons_zero, List.getElem?_cons_succ] at q0 q1 q2 q3
        go_wp2_with fail
        refine (rtrim_any _ _ f l2 _ HF7.out HSL7.out HAS.out).mono ?_
        rintro e w8 ⟨hb8, ⟨-, v8, p8, rfl, hp8, ho8⟩ | ⟨hno, -⟩⟩
        · have HB8 := Lib.hid (HB7.out.trans (hb8.mono HB7.out.size))
          have HF8 := Lib.hid (HF7.out.keep hb8)
          have HBK8 := Lib.hid (HBK7.out.keep hb8)
          have HSL8 := Lib.hid (HSL7.out.keep hb8)
          have HSW8 := Lib.hid (HSW7.out.keep hb8)
          have HA8 := Lib.hid (HA7.out.keep hb8)
          have HC8 : Hid (Stps w8 v8 (trim l2)) := Lib.hid (by rw [← hp8]; exact ho8.stps)
          obtain ⟨Aa8, ca8, ea8, -, -, -⟩ := owns_rd ho8.1
          subst ea8
          clear hp8 ho8 hb8 q0 q1 q2 q3
          have q0 := HBK8.out.cell 0
          have q1 := HBK8.out.cell 1
          have q2 := HBK8.out.cell 2
          have q3 := HBK8.out.cell 3
          simp only [List.getElem?_toArray, List.getElem?_cons_zero, List.getElem?_cons_succ] at q0 q1 q2 q3
          go_wp2_with fail
          refine (core_any _ _ f l2 _ HF8.out HSL8.out HAS.out).mono ?_
          rintro e w9 ⟨hb9, ⟨-, v9, x9, rfl, hx9, hc9⟩ | ⟨hno, -⟩⟩
          · have HB9 := Lib.hid (HB8.out.trans (hb9.mono HB8.out.size))
            have HF9 := Lib.hid (HF8.out.keep hb9)
            have HBK9 := Lib.hid (HBK8.out.keep hb9)
            have HSL9 := Lib.hid (HSL8.out.keep hb9)
            have HSW9 := Lib.hid (HSW8.out.keep hb9)
            have HA9 := Lib.hid (HA8.out.keep hb9)
            have HC9 := Lib.hid (HC8.out.keep hb9)
            have HX9 := Lib.hid hx9
            have HO9 := Lib.hid hc9
            obtain ⟨Ax9, cx9, ex9, -, -, -, -⟩ := hx9
            subst ex9
            clear hc9 hb9 q0 q1 q2 q3
            have q0 := HBK9.out.cell 0
            have q1 := HBK9.out.cell 1
            have q2 := HBK9.out.cell 2
            have q3 := HBK9.out.cell 3
            simp only [List.getElem?_toArray, List.getElem?_cons_zero, List.getElem?_cons_succ] at q0 q1 q2 q3
            go_wp2_with fail
            refine (rcore_any _ _ f l2 _ HF9.out HSL9.out HAS.out).mono ?_
            rintro e w10 ⟨hb10, ⟨-, v10, x10, rfl, hx10, hc10⟩ | ⟨hno, -⟩⟩
            · have HB10 := Lib.hid (HB9.out.trans (hb10.mono HB9.out.size))
              have HSL10 := Lib.hid (HSL9.out.keep hb10)
              have HSW10 := Lib.hid (HSW9.out.keep hb10)
              have HA10 := Lib.hid (HA9.out.keep hb10)
              have HC10 := Lib.hid (HC9.out.keep hb10)
              have HX10 := Lib.hid (HX9.out.keep hb10)
              have heq : x10 = x9 := hc10.eq HO9.out
              rw [heq] at hx10
              have HY10 := Lib.hid hx10
              obtain ⟨Ax10, cx10, ex10, -, -, -, -⟩ := hx10
              subst ex10
              clear hc10 hb10 heq q0 q1 q2 q3
              have HC11 := Lib.hid (sameSteps_any _ _ (trim l2) w10 HA10.out HC10.out)
              go_wp2_with fail
              refine HC11.out.mono ?_
              rintro e w11 ⟨rfl, hb11⟩
              have HB11 := Lib.hid (HB10.out.trans (hb11.mono HB10.out.size))
              have HSL11 := Lib.hid (HSL10.out.keep hb11)
              have HSW11 := Lib.hid (HSW10.out.keep hb11)
              have HC12 : Hid _ := Lib.hid (same_any _ _ x9 x9 w11 (HX10.out.keep hb11) (HY10.out.keep hb11))
              rw [show decide (x9 = x9) = true by simp] at HC12
              clear hb11
              go_wp2_with fail
              refine HC12.out.mono ?_
              rintro e w12 ⟨rfl, n12, rfl⟩
              have HB12 := Lib.hid (bdrew HB11.out n12)
              have HC13 := Lib.hid (sameSteps_any _ _ l2 (w11.drewN n12) (HSL11.out.keep (bdrew (Below.refl _ _) n12)) (HSW11.out.keep (bdrew (Below.refl _ _) n12)))
              go_wp2_with fail
              refine HC13.out.mono ?_
              rintro e w13 ⟨rfl, hb13⟩
              have HB13 := Lib.hid (HB12.out.trans (hb13.mono HB12.out.size))
              clear hb13
              go_wp2_with fail
              refine (awake33 _).mono ?_
              rintro e wz ⟨rfl, hbz⟩
              have HBZ := Lib.hid (HB13.out.trans (hbz.mono HB13.out.size))
              clear hbz
              go_wp2_with fail
              go_ret
              exact ⟨rfl, HBZ.out⟩
            · exact absurd HR.out hno
          · exact absurd HR.out hno
        · exact absurd HR.out hno
      · have HR := Lib.hid hr
        have HB7 := Lib.hid (HB6.out.trans (hb7.mono HB6.out.size))
        have HF7 := Lib.hid (HF6.out.keep hb7)
        have HBK7 := Lib.hid (HBK6.out.keep hb7)
        have HSL7 := Lib.hid (HSL6.out.keep hb7)
        have HSW7 := Lib.hid (HSW6.out.keep hb7)
        clear hb7 q0 q1 q2 q3 hr
        have q0 := HBK7.out.cell 0
        have q1 := HBK7.out.cell 1
        have q2 := HBK7.out.cell 2
        have q3 := HBK7.out.cell 3
        simp only [List.getElem?_toArray, List.getElem?_cons_zero, List.getElem?_cons_succ] at q0 q1 q2 q3
        go_wp2_with fail
        refine (rtrim_any _ _ f l2 _ HF7.out HSL7.out HAS.out).mono ?_
        rintro e w8 ⟨hb8, ⟨hyes, -⟩ | ⟨-, rfl⟩⟩
        · exact absurd hyes HR.out
        · have HB8 := Lib.hid (HB7.out.trans (hb8.mono HB7.out.size))
          have HF8 := Lib.hid (HF7.out.keep hb8)
          have HBK8 := Lib.hid (HBK7.out.keep hb8)
          have HSL8 := Lib.hid (HSL7.out.keep hb8)
          have HSW8 := Lib.hid (HSW7.out.keep hb8)
          clear hb8 q0 q1 q2 q3
          have q0 := HBK8.out.cell 0
          have q1 := HBK8.out.cell 1
          have q2 := HBK8.out.cell 2
          have q3 := HBK8.out.cell 3
          simp only [List.getElem?_toArray, List.getElem?_cons_zero, List.getElem?_cons_succ] at q0 q1 q2 q3
          go_wp2_with fail
          refine (core_any _ _ f l2 _ HF8.out HSL8.out HAS.out).mono ?_
          rintro e w9 ⟨hb9, ⟨hyes, -⟩ | ⟨-, rfl⟩⟩
          · exact absurd hyes HR.out
          · have HB9 := Lib.hid (HB8.out.trans (hb9.mono HB8.out.size))
            have HF9 := Lib.hid (HF8.out.keep hb9)
            have HBK9 := Lib.hid (HBK8.out.keep hb9)
            have HSL9 := Lib.hid (HSL8.out.keep hb9)
            have HSW9 := Lib.hid (HSW8.out.keep hb9)
            clear hb9 q0 q1 q2 q3
            have q0 := HBK9.out.cell 0
            have q1 := HBK9.out.cell 1
            have q2 := HBK9.out.cell 2
            have q3 := HBK9.out.cell 3
            simp only [List.getElem?_toArray, List.getElem?_cons_zero, List.getElem?_cons_succ] at q0 q1 q2 q3
            go_wp2_with fail
            refine (rcore_any _ _ f l2 _ HF9.out HSL9.out HAS.out).mono ?_
            rintro e w10 ⟨hb10, ⟨hyes, -⟩ | ⟨-, rfl⟩⟩
            · exact absurd hyes HR.out
            · have HB10 := Lib.hid (HB9.out.trans (hb10.mono HB9.out.size))
              have HSL10 := Lib.hid (HSL9.out.keep hb10)
              have HSW10 := Lib.hid (HSW9.out.keep hb10)
              clear hb10 q0 q1 q2 q3
              have HC11 := Lib.hid (sameSteps_any _ _ [] w10 (stps_nilT _) (stps_nilT _))
              go_wp2_with fail
              refine HC11.out.mono ?_
              rintro e w11 ⟨rfl, hb11⟩
              have HB11 := Lib.hid (HB10.out.trans (hb11.mono HB10.out.size))
              have HSL11 := Lib.hid (HSL10.out.keep hb11)
              have HSW11 := Lib.hid (HSW10.out.keep hb11)
              have HC12 : Hid _ := Lib.hid (same_any _ _ [] [] w11 (Ints.nil _) (Ints.nil _))
              rw [show decide ([] = []) = true by simp] at HC12
              clear hb11
              go_wp2_with fail
              refine HC12.out.mono ?_
              rintro e w12 ⟨rfl, n12, rfl⟩
              have HB12 := Lib.hid (bdrew HB11.out n12)
              have HC13 := Lib.hid (sameSteps_any _ _ l2 (w11.drewN n12) (HSL11.out.keep (bdrew (Below.refl _ _) n12)) (HSW11.out.keep (bdrew (Below.refl _ _) n12)))
              go_wp2_with fail
              refine HC13.out.mono ?_
              rintro e w13 ⟨rfl, hb13⟩
              have HB13 := Lib.hid (HB12.out.trans (hb13.mono HB12.out.size))
              clear hb13
              go_wp2_with fail
              refine (awake33 _).mono ?_
              rintro e wz ⟨rfl, hbz⟩
              have HBZ := Lib.hid (HB13.out.trans (hbz.mono HB13.out.size))
              clear hbz
              go_wp2_with fail
              go_ret
              exact ⟨rfl, HBZ.out⟩
  · have HF4 := Lib.hid (HF3.out.keep hb4)
    have HB4 := Lib.hid (HB3.out.trans (hb4.mono HB3.out.size))
    have HBK4 := Lib.hid (HBK.out.keep hb4)
    have HNOR : Hid (∀ la, ¬ Refutes f la) := Lib.hid fun la h => refutes_noT h hfit hcls
    obtain ⟨Ab, cb, rfl, -, -, -⟩ := hB
    obtain ⟨Ai, ci, rfl, -, -, -, -⟩ := hX
    have hb5 : Below w4.heap.size w4 (w4.alloc (.cells #[.slice Ab bs.length cb, .slice Ai ys.length ci] 45)) := (Below.refl _ _).alloc (Nat.le_refl _) _
    have HF5 := Lib.hid (HF4.out.keep hb5)
    have HB5 := Lib.hid (HB4.out.trans (hb5.mono HB4.out.size))
    have HBK5 := Lib.hid (HBK4.out.keep hb5)
    clear hb4 hb5 hfit hcls hxb hbl hxl
    go_upto_region 4 with fail
    generalize w4.alloc (.cells #[.slice Ab bs.length cb, .slice Ai ys.length ci] 45) = w5 at *
    have hlt := HBK5.out.lt
    have q0 := HBK5.out.cell 0
    have q1 := HBK5.out.cell 1
    have q2 := HBK5.out.cell 2
    have q3 := HBK5.out.cell 3
    simp only [List.getElem?_toArray, List.getElem?_cons_zero, List.getElem?_cons_succ] at q0 q1 q2 q3
    have HSOF : Hid (∀ w', Below w5.heap.size w5 w' → w'.cell? ⟨w2.heap.size, 0, none⟩ = some (.int .i64 f.ints) ∧ w'.cell? ⟨w2.heap.size, 1, none⟩ = some (.int .i64 f.bools) ∧ w'.cell? ⟨w2.heap.size, 2, none⟩ = some (.slice Aa f.atoms.length ca) ∧ w'.cell? ⟨w2.heap.size, 3, none⟩ = some (.slice Ac f.clauses.length cc) ∧ Below w5.heap.size w5 w') :=
      fun w' h => ⟨(h.cell (p := ⟨w2.heap.size, 0, none⟩) hlt).trans q0, (h.cell (p := ⟨w2.heap.size, 1, none⟩) hlt).trans q1, (h.cell (p := ⟨w2.heap.size, 2, none⟩) hlt).trans q2, (h.cell (p := ⟨w2.heap.size, 3, none⟩) hlt).trans q3, h⟩
    clear q0 q1 q2 q3 hlt
    go_region_held3 (fun w' => w'.cell? ⟨w2.heap.size, 0, none⟩ = some (.int .i64 f.ints) ∧ w'.cell? ⟨w2.heap.size, 1, none⟩ = some (.int .i64 f.bools) ∧ w'.cell? ⟨w2.heap.size, 2, none⟩ = some (.slice Aa f.atoms.length ca) ∧ w'.cell? ⟨w2.heap.size, 3, none⟩ = some (.slice Ac f.clauses.length cc) ∧ Below w5.heap.size w5 w') (first | assumption | exact HSOF.out _ (Below.refl _ _).drew) (first
      | (go_at_call 18; refine (steps_any _ _ f xs _ (HF5.out.keep (Below.refl _ _).drew) (HT.out.keep HB5.out.drew) HSM.out.valid (fun x hx => by have := (HSM.out.2.2.2.2.2 x hx).2.1; omega) HSM.out.pos.1 HSM.out.pos.2).mono ?_; rintro e wa ⟨lva, la, rfl, hla, hla1, hla2, hba⟩; have hsa := HSOF.out wa (Below.trans (Below.refl _ _).drew hba); have HLA := Lib.hid hla; have HASA : Hid (Asked f la) := HSM.out.asked (by omega) (fun s hs => by have := hla2 s hs; omega); clear hla hla1 hla2)
      | (go_at_call 25; refine (trim_any _ _ f la _ (HF5.out.keep hsa.2.2.2.2) HLA.out HASA.out).mono ?_; rintro e wb hcl; obtain ⟨hbb, rfl⟩ := hcl.no (HNOR.out la); have hsb := HSOF.out wb (hsa.2.2.2.2.trans (hbb.mono hsa.2.2.2.2.size))))
    have HB6 := Lib.hid (HB5.out.trans (hsb.2.2.2.2.mono HB5.out.size))
    have HF6 := Lib.hid (HF5.out.keep hsb.2.2.2.2)
    have HBK6 := Lib.hid (HBK5.out.keep hsb.2.2.2.2)
    clear hsa hsb hba hbb hcl HSOF HLA HASA
    go_upto_region 5 with fail
    have hlt := HBK6.out.lt
    have q0 := HBK6.out.cell 0
    have q1 := HBK6.out.cell 1
    have q2 := HBK6.out.cell 2
    have q3 := HBK6.out.cell 3
    simp only [List.getElem?_toArray, List.getElem?_cons_zero, List.getElem?_cons_succ] at q0 q1 q2 q3
    have HSOF : Hid (∀ w', Below wb.heap.size wb w' → w'.cell? ⟨w2.heap.size, 0, none⟩ = some (.int .i64 f.ints) ∧ w'.cell? ⟨w2.heap.size, 1, none⟩ = some (.int .i64 f.bools) ∧ w'.cell? ⟨w2.heap.size, 2, none⟩ = some (.slice Aa f.atoms.length ca) ∧ w'.cell? ⟨w2.heap.size, 3, none⟩ = some (.slice Ac f.clauses.length cc) ∧ Below wb.heap.size wb w') :=
      fun w' h => ⟨(h.cell (p := ⟨w2.heap.size, 0, none⟩) hlt).trans q0, (h.cell (p := ⟨w2.heap.size, 1, none⟩) hlt).trans q1, (h.cell (p := ⟨w2.heap.size, 2, none⟩) hlt).trans q2, (h.cell (p := ⟨w2.heap.size, 3, none⟩) hlt).trans q3, h⟩
    clear q0 q1 q2 q3 hlt
    go_region_held3 (fun w' => w'.cell? ⟨w2.heap.size, 0, none⟩ = some (.int .i64 f.ints) ∧ w'.cell? ⟨w2.heap.size, 1, none⟩ = some (.int .i64 f.bools) ∧ w'.cell? ⟨w2.heap.size, 2, none⟩ = some (.slice Aa f.atoms.length ca) ∧ w'.cell? ⟨w2.heap.size, 3, none⟩ = some (.slice Ac f.clauses.length cc) ∧ Below wb.heap.size wb w') (first | assumption | exact HSOF.out _ (Below.refl _ _).drew) (first
      | (go_at_call 18; refine (steps_any _ _ f xs _ (HF6.out.keep (Below.refl _ _).drew) (HT.out.keep HB6.out.drew) HSM.out.valid (fun x hx => by have := (HSM.out.2.2.2.2.2 x hx).2.1; omega) HSM.out.pos.1 HSM.out.pos.2).mono ?_; rintro e wa ⟨lva, la, rfl, hla, hla1, hla2, hba⟩; have hsa := HSOF.out wa (Below.trans (Below.refl _ _).drew hba); have HLA := Lib.hid hla; have HASA : Hid (Asked f la) := HSM.out.asked (by omega) (fun s hs => by have := hla2 s hs; omega); clear hla hla1 hla2)
      | (go_at_call 27; refine (rtrim_any _ _ f la _ (HF6.out.keep hsa.2.2.2.2) HLA.out HASA.out).mono ?_; rintro e wd hcl; obtain ⟨hbb, rfl⟩ := hcl.no (HNOR.out la); have hsb := HSOF.out wd (hsa.2.2.2.2.trans (hbb.mono hsa.2.2.2.2.size))))
    have HB7 := Lib.hid (HB6.out.trans (hsb.2.2.2.2.mono HB6.out.size))
    clear hsa hsb hba hbb hcl HSOF HLA HASA
    have HC7 := Lib.hid (sameSteps_any _ _ [] wd (stps_nilT _) (stps_nilT _))
    go_wp2_with fail
    refine HC7.out.mono ?_
    rintro e we ⟨rfl, hbe⟩
    have HB8 := Lib.hid (HB7.out.trans (hbe.mono HB7.out.size))
    clear hbe
    go_wp2_with fail
    refine (awake33 _).mono ?_
    rintro e wz ⟨rfl, hbz⟩
    have HBZ := Lib.hid (HB8.out.trans (hbz.mono HB8.out.size))
    clear hbz
    go_wp2_with fail
    go_ret
    exact ⟨rfl, HBZ.out⟩
end Go.Proofs.Ytdmndikenejhiaa
