/-
  WALK: interleaveref31.Trim.
-/
import Derived.Test.YtdmndikenejhiaaTrimP
import Derived.Test.YtdmndikenejhiaaBase33
import Derived.Deep.RegionHeld3
namespace Go.Proofs.Ytdmndikenejhiaa
open Go.RowKit

set_option maxRecDepth 100000 in
set_option maxHeartbeats 4000000 in
theorem rtrim_any (fv lv : Value) (f : Form) (l : List Stp) (w : World) (hf : IsForm w fv f) (hl : Stps w lv l) (hq : Asked f l) :
    Calls Try.prog 27 #[fv, lv] w (TrimRet w f l) := by
  have HF := Lib.hid hf
  have HQ := Lib.hid hq
  have HL := Lib.hid hl
  obtain ⟨av, cv, rfl, -, -, hf3, hf4⟩ := hf
  obtain ⟨Aa, ca, rfl, -, -, -, -⟩ := hf3
  obtain ⟨Ac, cc, vs, rfl, -, -, -, -, -⟩ := hf4
  obtain ⟨A, c, ps, hps, rfl, l1, l2, l3, l4⟩ := hl
  have hpl : ps.length = l.length := by rw [hps]; simp
  have HPS := Lib.hid hps
  have HPL := Lib.hid hpl
  have HR := Lib.hid l3
  have H4 := Lib.hid l4
  unfold maxLen at l2
  have hpn : ps.length ≤ 100000 := by have := hq.2.2.1; omega
  have HB0 : Hid (Below w.heap.size w (w.alloc (.cells #[.int .i64 f.ints, .int .i64 f.bools, .slice Aa f.atoms.length ca, .slice Ac f.clauses.length cc] 32))) := (Below.refl _ _).alloc (Nat.le_refl _) _
  clear hq hps hpl l3 l4
  go_enter Try.func27, Try.ntmps27
  go_wp2_with fail
  generalize w.alloc (.cells #[.int .i64 f.ints, .int .i64 f.bools, .slice Aa f.atoms.length ca, .slice Ac f.clauses.length cc] 32) = W at *
  refine (rcheck_any _ _ f l _ (HF.out.keep HB0.out) (HL.out.keep HB0.out) HQ.out).mono ?_
  rintro e w1 ⟨rfl, hb1⟩
  have HB1 := Lib.hid (HB0.out.trans (hb1.mono HB0.out.size))
  clear hb1
  by_cases hrf : Refutes f l
  · have HRF := Lib.hid hrf
    rw [hrf.chk]
    obtain ⟨cs, hg, h0, hlast⟩ := hrf
    have HBK := Lib.hid hg.back
    have HKD := Lib.hid hg.kinds
    have hp0 : 0 < ps.length := by have := HPL.out; omega
    have mkb := mk_bools ps.length (by omega)
    clear hg hlast h0
    go_upto_region 5 with fail
    have HN0 : Hid (TN w1 (w1.alloc (.cells (rowB (List.replicate ps.length false)) 4)) w1.heap.size (List.replicate ps.length false)) := ⟨Blk.new _ _ _, Nat.le_refl _, (Below.refl _ _).alloc (Nat.le_refl _) _⟩
    generalize w1.alloc (.cells (rowB (List.replicate ps.length false)) 4) = W1 at *
    obtain ⟨gn, hgn⟩ : ∃ gn, gn = w1.heap.size := ⟨_, rfl⟩
    rw [← hgn] at HN0 ⊢
    have c1 := HN0.out.n.cell (ps.length - 1)
    rw [rowB_at (x := false) (by rw [List.getElem?_replicate, if_pos (by omega)])] at c1
    have z1 := HN0.out.n.frozen (ps.length - 1)
    have HN1 := Lib.hid (HN0.out.set_ (ps.length - 1) true)
    have HE0 : Hid ((List.replicate ps.length false).set (ps.length - 1) true = ndFrom l 0) := Lib.hid (by rw [ndFrom, HPL.out])
    rw [HE0.out] at HN1
    clear hgn mkb
    go_upto_region 6 with fail
    generalize W1.setCell ⟨gn, ps.length - 1, none⟩ (.bool true) = W2 at *
    clear c1 z1 HN0 HE0
    go_wp2_with fail
    go_loopw [9] (fun i wr => ∃ j : Nat, j ≤ ps.length ∧ i = .int .i64 ((ps.length : Int) - 1 - j) ∧ TN w1 wr gn (ndFrom l j)) (fun i _ => (intOf i + 1).toNat)
    case atStart => exact ⟨0, by omega, by simp, HN1.out⟩
    case round =>
      obtain ⟨j, hj, rfl, htn⟩ := hrel
      have HT := Lib.hid htn
      clear htn HN1
      by_cases hjl : j < ps.length
      · obtain ⟨k, hk⟩ : ∃ k : Nat, ps.length = k + 1 + j := ⟨ps.length - 1 - j, by omega⟩
        have hkl : k < ps.length := by omega
        have hki : (ps.length : Int) - 1 - (j : Int) = (k : Int) := by omega
        obtain ⟨⟨s, sv⟩, hp⟩ : ∃ p, ps[k]? = some p := ⟨_, List.getElem?_eq_getElem hkl⟩
        have HSG : Hid (l.getD k s0 = s) := Lib.hid (by rw [HPS.out, List.getD_eq_getElem?_getD, List.getElem?_map, hp]; rfl)
        obtain ⟨b1, o1, rfl, hb1, t0, t1, t2, t3, t4, t5⟩ := Stps.at_ ((HR.out.keep HB1.out).keep HT.out.bl) hp
        simp only at t0 t1 t2 t3 t4 t5
        obtain ⟨nv, hnv⟩ : ∃ nv, (ndFrom l j)[k]? = some nv := ⟨_, List.getElem?_eq_getElem (by rw [ndFrom_len]; have := HPL.out; omega)⟩
        have c1 := HT.out.n.cell k
        rw [rowB_at hnv] at c1
        have HNV : Hid ((ndFrom l j).getD k false = nv) := Lib.hid (by rw [List.getD_eq_getElem?_getD, hnv]; rfl)
        have HKE : Hid (l.length - 1 - j = k) := Lib.hid (by have := HPL.out; omega)
        rw [hki]
        have HKI := Lib.hid hki
        have HPK := Lib.hid hp
        clear hp hnv hk hki
        cases nv with
        | false =>
          have HN2 : Hid (ndFrom l (j + 1) = ndFrom l j) := Lib.hid (by rw [ndFrom, HKE.out, ndStep, if_neg]; rw [HNV.out]; simp)
          go_wp2_with fail
          go_roundw
          case rel => exact ⟨j + 1, by omega, by have := HKI.out; exact ret_i (by omega), by rw [HN2.out]; exact HT.out⟩
          case measure => simp [intOf]
        | true =>
          by_cases h3 : s.kind = 3
          · have hbk := HBK.out k (by have := HPL.out; omega) (by rw [HSG.out]; exact h3)
            rw [HSG.out] at hbk
            obtain ⟨p0, p1, q0, q1⟩ := hbk
            obtain ⟨X, hX⟩ : ∃ X : Nat, s.p = X := ⟨s.p.toNat, by omega⟩
            obtain ⟨Y, hY⟩ : ∃ Y : Nat, s.q = Y := ⟨s.q.toNat, by omega⟩
            have X1 : X < ps.length := by omega
            have Y1 : Y < ps.length := by omega
            rw [hX] at t3
            rw [hY] at t4
            rw [h3] at t0
            have HN2 : Hid (ndFrom l (j + 1) = ((ndFrom l j).set X true).set Y true) := Lib.hid (by rw [ndFrom, HKE.out, ndStep, if_pos ⟨HNV.out, by rw [HSG.out]; exact h3⟩, HSG.out, hX, hY]; rfl)
            have HT3 : Hid (TN w1 ((wr.drew.setCell ⟨gn, X, none⟩ (.bool true)).setCell ⟨gn, Y, none⟩ (.bool true)) gn (((ndFrom l j).set X true).set Y true)) := Lib.hid ((TN.set_ ⟨HT.out.n.drew, HT.out.lo, HT.out.bl.drew⟩ X true).set_ Y true)
            obtain ⟨xv, hxv⟩ : ∃ xv, (ndFrom l j)[X]? = some xv := ⟨_, List.getElem?_eq_getElem (by rw [ndFrom_len]; have := HPL.out; omega)⟩
            have c2 := HT.out.n.cell X
            rw [rowB_at hxv] at c2
            have z2 := HT.out.n.frozen X
            obtain ⟨yv, hyv⟩ : ∃ yv, ((ndFrom l j).set X true)[Y]? = some yv := ⟨_, List.getElem?_eq_getElem (by rw [List.length_set, ndFrom_len]; have := HPL.out; omega)⟩
            have c3 := (HT.out.set_ X true).n.cell Y
            rw [rowB_at hyv] at c3
            have z3 := (HT.out.set_ X true).n.frozen Y
            have i1 : (0 : Int) ≤ (X : Int) := by omega
            have i2 : (X : Int) < (ps.length : Int) := by omega
            have i3 : (0 : Int) ≤ (Y : Int) := by omega
            have i4 : (Y : Int) < (ps.length : Int) := by omega
            have i5 : (0 : Int) ≤ (k : Int) := by omega
            have i6 : (k : Int) < (ps.length : Int) := by omega
            have HX := Lib.hid hX
            have HY := Lib.hid hY
            clear p0 p1 q0 q1 hX hY h3 hxv hyv
            have HSOF : Hid (∀ w', Below w1.heap.size w1 w' → w'.cell? ⟨b1, o1 + k * 6 + 3, none⟩ = some (.int .i64 (X : Int)) ∧ w'.cell? ⟨b1, o1 + k * 6 + 4, none⟩ = some (.int .i64 (Y : Int))) := Lib.hid fun w' hw => by
              obtain ⟨b2, o2, e2, hb2, -, -, -, g3, g4, -⟩ := Stps.at_ ((HR.out.keep HB1.out).keep hw) HPK.out
              injection e2 with e2
              injection e2 with e2 e3 _
              subst e2 e3
              simp only at g3 g4
              rw [HX.out] at g3
              rw [HY.out] at g4
              exact ⟨g3, g4⟩
            go_upto_region 10 with fail
            clear t0 t1 t2 t5
            go_region_held3 (fun w' => w'.cell? ⟨b1, o1 + k * 6 + 3, none⟩ = some (.int .i64 (X : Int)) ∧ w'.cell? ⟨b1, o1 + k * 6 + 4, none⟩ = some (.int .i64 (Y : Int))) (first | assumption | exact HSOF.out _ HT.out.bl.drew | exact HSOF.out _ (HT.out.set_ X true).bl.drew | exact HSOF.out _ HT3.out.bl) (fail)
            all_goals
              go_wp2_with fail
              go_roundw
              case rel => exact ⟨j + 1, by omega, by have := HKI.out; exact ret_i (by omega), by rw [HN2.out]; exact HT3.out⟩
              case measure => simp [intOf]
          · have HN2 : Hid (ndFrom l (j + 1) = ndFrom l j) := Lib.hid (by rw [ndFrom, HKE.out, ndStep, if_neg]; rw [HSG.out]; exact fun h => h3 h.2)
            have d3 : (s.kind == 3) = false := by simp [h3]
            clear h3
            go_wp2_with fail
            go_roundw
            case rel => exact ⟨j + 1, by omega, by have := HKI.out; exact ret_i (by omega), by rw [HN2.out]; exact HT.out⟩
            case measure => simp [intOf]
      · have HND : Hid (TN w1 wr gn (nd l)) := Lib.hid (by
          have h := HT.out
          rw [show j = l.length by have := HPL.out; omega] at h
          exact h)
        have hjn : (ps.length : Int) - 1 - (j : Int) = -1 := by omega
        rw [hjn]
        have mk := mk_ints ps.length (by omega)
        have HTR : Hid (TR w1 (wr.alloc (.cells (rowI (List.replicate ps.length 0)) 3)) gn wr.heap.size (nd l) (List.replicate ps.length 0) (.slice none 0 0) []) := Lib.hid ⟨HND.out.n.alloc _, Blk.new _ _ _, OwnStps.nil _ _ _, HND.out.lo, HND.out.n.lt, by simp, HND.out.bl.alloc HND.out.bl.size _⟩
        clear hjn
        go_upto_region 12 with fail
        generalize wr.alloc (.cells (rowI (List.replicate ps.length 0)) 3) = W3 at *
        obtain ⟨gp, hgp⟩ : ∃ gp, gp = wr.heap.size := ⟨_, rfl⟩
        rw [← hgp] at HTR ⊢
        clear mk hgp
        obtain ⟨iT, hiT, hzT0, hzT1, hzT2⟩ := info_parts info_step
        go_wp2_with fail
        go_loopw [11, 69] (fun o i wr => ∃ (k : Nat) (qs : List (Stp × Value)), k ≤ ps.length ∧ i = .int .i64 k ∧ qs.map (·.1) = (trTo l (nd l) k).2 ∧ TR w1 wr gn gp (nd l) (trTo l (nd l) k).1 o qs) (fun _ i _ => ps.length - (intOf i).toNat)
        case atStart => exact ⟨0, [], by omega, rfl, rfl, by rw [trTo, ← HPL.out]; exact HTR.out⟩
        case round =>
          obtain ⟨k, qs, hk, rfl, hqs, htr⟩ := hrel
          have HQS := Lib.hid hqs
          have HT2 := Lib.hid htr
          obtain ⟨Ao, co, eo, -, -, -⟩ := owns_rd htr.os.1
          subst eo
          have hql : qs.length ≤ k := by have h1 := congrArg List.length hqs; have h2 := (trTo_small l (nd l) k).1; simp at h1; omega
          clear hqs htr HTR
          by_cases hkl : k < ps.length
          · obtain ⟨⟨s, sv⟩, hp⟩ : ∃ p, ps[k]? = some p := ⟨_, List.getElem?_eq_getElem hkl⟩
            have HSG : Hid (l.getD k s0 = s) := Lib.hid (by rw [HPS.out, List.getD_eq_getElem?_getD, List.getElem?_map, hp]; rfl)
            obtain ⟨b1, o1, rfl, hb1, t0, t1, t2, t3, t4, t5⟩ := Stps.at_ ((HR.out.keep HB1.out).keep HT2.out.bl) hp
            have HP4 := Lib.hid (H4.out (s, sv) (List.mem_of_getElem? hp))
            obtain ⟨As, cs', hsv, -, -, -, -⟩ := HP4.out.1
            simp only at t0 t1 t2 t3 t4 t5 hsv
            subst hsv
            obtain ⟨nv, hnv⟩ : ∃ nv, (nd l)[k]? = some nv := ⟨_, List.getElem?_eq_getElem (by unfold nd; rw [ndFrom_len]; have := HPL.out; omega)⟩
            have HNV : Hid ((nd l).getD k false = nv) := Lib.hid (by rw [List.getD_eq_getElem?_getD, hnv]; rfl)
            have hb3 : Below wr.heap.size wr (wr.alloc (.cells #[.int .i64 s.kind, .int .i64 s.index, .slice As s.lits.length cs', .int .i64 s.p, .int .i64 s.q, .int .i64 s.var] 50)) := (Below.refl _ _).alloc (Nat.le_refl _) _
            have HT3 := Lib.hid (HT2.out.keep hb3)
            have HBX := Lib.hid (Blk.new wr 50 #[.int .i64 s.kind, .int .i64 s.index, .slice As s.lits.length cs', .int .i64 s.p, .int .i64 s.q, .int .i64 s.var])
            have HNW := Lib.hid hnv
            clear hp hnv hb3
            go_upto_region 16 with fail
            generalize wr.alloc (.cells #[.int .i64 s.kind, .int .i64 s.index, .slice As s.lits.length cs', .int .i64 s.p, .int .i64 s.q, .int .i64 s.var] 50) = W4 at *
            clear t0 t1 t2 t3 t4 t5
            have c1 := HT3.out.n.cell k
            rw [rowB_at HNW.out] at c1
            cases nv with
            | false =>
              have HE : Hid (trTo l (nd l) (k + 1) = trTo l (nd l) k) := Lib.hid (by rw [trTo, if_neg (by rw [HNV.out]; simp)])
              go_wp2_with fail
              go_roundw
              case rel => exact ⟨k + 1, qs, by omega, by go_num, by rw [HE.out]; exact HQS.out, by rw [HE.out]; exact HT3.out⟩
              case measure => simp [intOf]; omega
            | true =>
              have HE : Hid (trTo l (nd l) (k + 1) = ((trTo l (nd l) k).1.set k (qs.length : Int), (trTo l (nd l) k).2 ++ [bareS s ((trTo l (nd l) k).1.set k (qs.length : Int))])) := Lib.hid (by
                have h1 := congrArg List.length HQS.out
                rw [trTo, if_pos HNV.out, HSG.out, ← h1, List.length_map])
              have HSM : Hid (∀ x ∈ (trTo l (nd l) k).1.set k (qs.length : Int), I64 x) := Lib.hid (fun x hx => by
                rcases List.mem_or_eq_of_mem_set hx with h | rfl
                · have := (trTo_small l (nd l) k).2 x h; constructor <;> omega
                · constructor <;> omega)
              have HPLN : Hid (((trTo l (nd l) k).1.set k (qs.length : Int)).length = ps.length) := Lib.hid (by rw [List.length_set, trTo_len, HPL.out])
              have HKB : Hid (s.kind = 1 ∨ s.kind = 2 ∨ (s.kind = 3 ∧ 0 ≤ s.p ∧ s.p < (k : Int) ∧ 0 ≤ s.q ∧ s.q < (k : Int))) := Lib.hid (by
                have h1 := HKD.out k (by have := HPL.out; omega)
                have h2 := HBK.out k (by have := HPL.out; omega)
                rw [HSG.out] at h1 h2
                rcases h1 with h | h | h
                · exact .inl h
                · exact .inr (.inl h)
                · exact .inr (.inr ⟨h, h2 h⟩))
              obtain ⟨x0, hx0⟩ : ∃ x0, (trTo l (nd l) k).1[k]? = some x0 := ⟨_, List.getElem?_eq_getElem (by rw [trTo_len]; have := HPL.out; omega)⟩
              have c2 := HT3.out.p.cell k
              rw [rowI_at hx0] at c2
              have z2 := HT3.out.p.frozen k
              have HT4 := Lib.hid (HT3.out.setP k (qs.length : Int))
              have hgpl : gp < wr.heap.size := HT2.out.p.lt
              have HBX4 := Lib.hid (HBX.out.grown (grownBy_set0 W4 gp k (.int .i64 (qs.length : Int))) (by simp; omega))
              generalize (trTo l (nd l) k).1.set k (qs.length : Int) = pl2 at *
              clear hx0 hgpl
              go_upto_region 18 with fail
              generalize W4.setCell ⟨gp, k, none⟩ (.int .i64 (qs.length : Int)) = W5 at *
              clear c1 c2 z2
              have r0 := HBX4.out.cell 0
              simp only [List.getElem?_toArray, List.getElem?_cons_zero] at r0
              have hb5 : Below W5.heap.size W5 (W5.alloc (.cells #[.int .i64 s.kind, .int .i64 0, .slice none 0 0, .int .i64 0, .int .i64 0, .int .i64 0] 50)) := (Below.refl _ _).alloc (Nat.le_refl _) _
              have HT5 := Lib.hid (HT4.out.keep hb5)
              have HBX5 := Lib.hid (HBX4.out.keep hb5)
              have HY5 := Lib.hid (Blk.new W5 50 #[.int .i64 s.kind, .int .i64 0, .slice none 0 0, .int .i64 0, .int .i64 0, .int .i64 0])
              have HLI : Hid (s.lits.length ≤ 1000000) := Lib.hid (HQ.out.2.2.2 s (by rw [← HSG.out, List.getD_eq_getElem?_getD, List.getElem?_eq_getElem (show k < l.length by have := HPL.out; omega)]; exact List.getElem_mem _))
              have HSI : Hid (Ints W5 (.slice As s.lits.length cs') s.lits) := Lib.hid ((HP4.out.1.keep HB1.out).keep HT4.out.bl)
              have h5b := hb5
              clear hb5
              go_upto_region 19 with fail
              generalize W5.alloc (.cells #[.int .i64 s.kind, .int .i64 0, .slice none 0 0, .int .i64 0, .int .i64 0, .int .i64 0] 50) = W6 at *
              have HB56 := Lib.hid h5b
              have hgy := HY5.out.lt
              have hgw : wr.heap.size < W5.heap.size := HBX4.out.lt
              clear r0 h5b
              have r0 := HBX5.out.cell 0
              have r1 := HBX5.out.cell 1
              have r2 := HBX5.out.cell 2
              have r3 := HBX5.out.cell 3
              have r4 := HBX5.out.cell 4
              have r5 := HBX5.out.cell 5
              simp only [List.getElem?_toArray, List.getElem?_cons_zero, List.getElem?_cons_succ] at r0 r1 r2 r3 r4 r5
              have y0 := HY5.out.cell 0
              have y1 := HY5.out.cell 1
              have y2 := HY5.out.cell 2
              have y3 := HY5.out.cell 3
              have y4 := HY5.out.cell 4
              have y5 := HY5.out.cell 5
              simp only [List.getElem?_toArray, List.getElem?_cons_zero, List.getElem?_cons_succ] at y0 y1 y2 y3 y4 y5
              rcases HKB.out with hkd | hkd | ⟨hkd, hp0', hp1', hq0', hq1'⟩
              · have HE2 : Hid (trTo l (nd l) (k + 1) = (pl2, (trTo l (nd l) k).2 ++ [⟨1, s.index, [], 0, 0, 0⟩])) := Lib.hid (by rw [HE.out, bareS, if_pos hkd, hkd])
                rw [hkd] at r0 y0
                have z1 := HY5.out.frozen 1
                have hset : W6.grownBy (W6.setCell ⟨W5.heap.size, 1, none⟩ (.int .i64 s.index)) (some W5.heap.size) := grownBy_set0 _ _ _ _
                have HT6 := Lib.hid (HT4.out.keep (HB56.out.grown hset HB56.out.size fun g e => by injection e with e; omega))
                have HY7 : Hid (Blk (W6.setCell ⟨W5.heap.size, 1, none⟩ (.int .i64 s.index)) W5.heap.size 50 #[.int .i64 1, .int .i64 s.index, .slice none 0 0, .int .i64 0, .int .i64 0, .int .i64 0]) := Lib.hid (by have h := HY5.out.set_ 1 (.int .i64 s.index); rw [hkd] at h; exact h)
                clear hkd hset
                go_upto_region 25 with fail
                generalize W6.setCell ⟨W5.heap.size, 1, none⟩ (.int .i64 s.index) = W7 at *
                clear r0 r1 r2 r3 r4 r5 y0 y1 y2 y3 y4 y5 z1
                have HSO : Hid ((⟨1, s.index, [], 0, 0, 0⟩ : Stp).ok) := Lib.hid (⟨⟨by simp, by simp⟩, HP4.out.2.2.1, ⟨by simp, by simp⟩, ⟨by simp, by simp⟩, ⟨by simp, by simp⟩⟩)
                have y0 := HY7.out.cell 0
                have y1 := HY7.out.cell 1
                have y2 := HY7.out.cell 2
                have y3 := HY7.out.cell 3
                have y4 := HY7.out.cell 4
                have y5 := HY7.out.cell 5
                simp only [List.getElem?_toArray, List.getElem?_cons_zero, List.getElem?_cons_succ] at y0 y1 y2 y3 y4 y5
                have HO : Hid (∀ u ∈ ([.int .i64 1, .int .i64 s.index, .slice none 0 0, .int .i64 0, .int .i64 0, .int .i64 0] : List Value), u.oneCell' = true) := by
                  refine Lib.hid ?_
                  intro u hu; simp at hu; rcases hu with rfl | rfl | rfl | rfl | rfl | rfl <;> rfl
                have H63 : Hid (qs.length + 1 ≤ maxLen) := by refine Lib.hid ?_; unfold maxLen; omega
                have HBY : Hid ((qs.length + 1) * 64 ≤ 140737488355328) := by refine Lib.hid ?_; omega
                have HBA : Hid (gp + 1 ≤ (W7.alloc (.cells ([.int .i64 1, .int .i64 s.index, .slice none 0 0, .int .i64 0, .int .i64 0, .int .i64 0] : List Value).toArray 50)).heap.size) := by refine Lib.hid ?_; have := HT6.out.hi; simp; omega
                go_wp2_with (at_builtin; refine wpList_append_own_at _ rfl _ _ 26 rfl (gp + 1) 50 iT zT 6 64 Try.underlying26 hiT hzT0 hzT1 hzT2 rfl (by decide) _ _ _ rfl (HT6.out.os.1.alloc _) ⟨W7.heap.size, 0, none⟩ 1 1 [.int .i64 1, .int .i64 s.index, .slice none 0 0, .int .i64 0, .int .i64 0, .int .i64 0] rfl rfl (cells_at W7 _ [.int .i64 1, .int .i64 s.index, .slice none 0 0, .int .i64 0, .int .i64 0, .int .i64 0] rfl) HO.out H63.out HBY.out HBA.out ?_)
                intro v7 w7 hown hgrow _ hat
                have HT7 := Lib.hid (HT6.out.push (s := (⟨1, s.index, [], 0, 0, 0⟩ : Stp)) (lv := .slice none 0 0) (intsO_nil _ _) HSO.out hown hgrow (by simpa using hat))
                obtain ⟨A7, c7, e7, -, -, -⟩ := owns_rd hown
                subst e7
                clear hown hgrow hat HO H63 HBY HBA y0 y1 y2 y3 y4 y5
                go_wp2_with fail
                go_roundw
                case rel => exact ⟨k + 1, qs ++ [((⟨1, s.index, [], 0, 0, 0⟩ : Stp), .slice none 0 0)], by omega, by go_num, by rw [HE2.out, List.map_append, HQS.out]; rfl, by rw [HE2.out]; exact HT7.out⟩
                case measure => simp [intOf]; omega
              · have HE2 : Hid (trTo l (nd l) (k + 1) = (pl2, (trTo l (nd l) k).2 ++ [⟨2, 0, s.lits, 0, 0, 0⟩])) := Lib.hid (by rw [HE.out, bareS, if_neg (by omega), if_pos hkd, hkd])
                rw [hkd] at r0 y0
                obtain ⟨iI, hiI, hzI0, hzI1, hzI2⟩ := info_parts info_int
                obtain ⟨As', cs2, ee, el1, el2, el3, el4⟩ := HSI.out.keep HB56.out
                injection ee with e1 _ e2
                subst e1 e2
                have HR7 := Lib.hid el4
                have HE3 := Lib.hid el3
                have hli := HLI.out
                have HLN2 : Hid ((s.lits.map (Value.int .i64)).length = s.lits.length * 1) := Lib.hid (by simp)
                have HON2 : Hid (∀ u ∈ s.lits.map (Value.int .i64), u.oneCell' = true) := Lib.hid (fun u hu => by obtain ⟨x, _, rfl⟩ := List.mem_map.1 hu; rfl)
                have H632 : Hid (0 + s.lits.length ≤ maxLen) := by refine Lib.hid ?_; unfold maxLen; omega
                have HBY2 : Hid ((0 + s.lits.length) * 8 ≤ 140737488355328) := by refine Lib.hid ?_; omega
                have HYK := Lib.hid (show Blk W6 W5.heap.size 50 #[.int .i64 2, .int .i64 0, .slice none 0 0, .int .i64 0, .int .i64 0, .int .i64 0] from by have h := HY5.out; rw [hkd] at h; exact h)
                clear hkd el1 el2 el3 el4
                go_wp2_with (at_builtin; refine wpList_append_rd _ rfl _ _ 43 rfl W6.heap.size 3 iI (.int .i64 0) 1 8 Try.underlying43 hiI hzI0 hzI1 hzI2 rfl (by decide) (.slice none 0 0) 0 [] rfl (World.ownsRow_nil _ _ _ _) As s.lits.length cs' (s.lits.map (Value.int .i64)) rfl HLN2.out HR7.out HON2.out H632.out HBY2.out (Nat.le_refl _) ?_)
                intro v8 W8 hown hgrow _
                have HO8 : Hid (Own W8 W6.heap.size v8 s.lits) := ⟨by simpa using hown, HE3.out⟩
                have hb8 : Below W6.heap.size W6 W8 := grownBy_below hgrow (Nat.le_refl _) (fun k e => by cases e)
                have HB58 := Lib.hid (HB56.out.trans (hb8.mono HB56.out.size))
                have HY8 := Lib.hid (HYK.out.keep hb8)
                have hs8 := hb8.size
                obtain ⟨A8, c8, e8, -, -, -⟩ := owns_rd HO8.out.1
                subst e8
                clear hown hgrow hb8 r0 r1 r2 r3 r4 r5 y0 y1 y2 y3 y4 y5
                have y2 := HY8.out.cell 2
                have z2 := HY8.out.frozen 2
                simp only [List.getElem?_toArray, List.getElem?_cons_zero, List.getElem?_cons_succ] at y2
                have hset : W8.grownBy (W8.setCell ⟨W5.heap.size, 2, none⟩ (.slice A8 s.lits.length c8)) (some W5.heap.size) := grownBy_set0 _ _ _ _
                have HT6 := Lib.hid (HT4.out.keep (HB58.out.grown hset HB58.out.size fun g e => by injection e with e; omega))
                have HY7 : Hid (Blk (W8.setCell ⟨W5.heap.size, 2, none⟩ (.slice A8 s.lits.length c8)) W5.heap.size 50 #[.int .i64 2, .int .i64 0, .slice A8 s.lits.length c8, .int .i64 0, .int .i64 0, .int .i64 0]) := Lib.hid (HY8.out.set_ 2 _)
                have HI7 : Hid (IntsO (W8.setCell ⟨W5.heap.size, 2, none⟩ (.slice A8 s.lits.length c8)) (fun b => gp + 1 ≤ b ∧ some b ≠ (Value.slice Ao qs.length co).ownBlock) (.slice A8 s.lits.length c8) s.lits) := Lib.hid (((HO8.out.intsO (P := fun b => W6.heap.size ≤ b) fun b h1 _ _ => h1).grown hset fun b hb e => by injection e with e; omega).mono fun b _ hb => ⟨by have := HT5.out.hi; omega, fun e => by have := (HT5.out.os.1.lt b e.symm).2; omega⟩)
                clear hset
                go_upto_region 25 with fail
                generalize W8.setCell ⟨W5.heap.size, 2, none⟩ (.slice A8 s.lits.length c8) = W7 at *
                clear y2 z2
                have HSO : Hid ((⟨2, 0, s.lits, 0, 0, 0⟩ : Stp).ok) := Lib.hid (⟨⟨by simp, by simp⟩, ⟨by simp, by simp⟩, ⟨by simp, by simp⟩, ⟨by simp, by simp⟩, ⟨by simp, by simp⟩⟩)
                have y0 := HY7.out.cell 0
                have y1 := HY7.out.cell 1
                have y2 := HY7.out.cell 2
                have y3 := HY7.out.cell 3
                have y4 := HY7.out.cell 4
                have y5 := HY7.out.cell 5
                simp only [List.getElem?_toArray, List.getElem?_cons_zero, List.getElem?_cons_succ] at y0 y1 y2 y3 y4 y5
                have HO : Hid (∀ u ∈ ([.int .i64 2, .int .i64 0, .slice A8 s.lits.length c8, .int .i64 0, .int .i64 0, .int .i64 0] : List Value), u.oneCell' = true) := by
                  refine Lib.hid ?_
                  intro u hu; simp at hu; rcases hu with rfl | rfl | rfl | rfl | rfl | rfl <;> rfl
                have H63 : Hid (qs.length + 1 ≤ maxLen) := by refine Lib.hid ?_; unfold maxLen; omega
                have HBY : Hid ((qs.length + 1) * 64 ≤ 140737488355328) := by refine Lib.hid ?_; omega
                have HBA : Hid (gp + 1 ≤ (W7.alloc (.cells ([.int .i64 2, .int .i64 0, .slice A8 s.lits.length c8, .int .i64 0, .int .i64 0, .int .i64 0] : List Value).toArray 50)).heap.size) := by refine Lib.hid ?_; have := HT6.out.hi; simp; omega
                go_wp2_with (at_builtin; refine wpList_append_own_at _ rfl _ _ 26 rfl (gp + 1) 50 iT zT 6 64 Try.underlying26 hiT hzT0 hzT1 hzT2 rfl (by decide) _ _ _ rfl (HT6.out.os.1.alloc _) ⟨W7.heap.size, 0, none⟩ 1 1 [.int .i64 2, .int .i64 0, .slice A8 s.lits.length c8, .int .i64 0, .int .i64 0, .int .i64 0] rfl rfl (cells_at W7 _ [.int .i64 2, .int .i64 0, .slice A8 s.lits.length c8, .int .i64 0, .int .i64 0, .int .i64 0] rfl) HO.out H63.out HBY.out HBA.out ?_)
                intro v7 w7 hown hgrow _ hat
                have HT7 := Lib.hid (HT6.out.push (s := (⟨2, 0, s.lits, 0, 0, 0⟩ : Stp)) (lv := .slice A8 s.lits.length c8) HI7.out HSO.out hown hgrow (by simpa using hat))
                obtain ⟨A7, c7, e7, -, -, -⟩ := owns_rd hown
                subst e7
                clear hown hgrow hat HO H63 HBY HBA y0 y1 y2 y3 y4 y5
                go_wp2_with fail
                go_roundw
                case rel => exact ⟨k + 1, qs ++ [((⟨2, 0, s.lits, 0, 0, 0⟩ : Stp), .slice A8 s.lits.length c8)], by omega, by go_num, by rw [HE2.out, List.map_append, HQS.out]; rfl, by rw [HE2.out]; exact HT7.out⟩
                case measure => simp [intOf]; omega
              · obtain ⟨P, hP⟩ : ∃ P : Nat, s.p = P := ⟨s.p.toNat, by omega⟩
                obtain ⟨Q, hQ'⟩ : ∃ Q : Nat, s.q = Q := ⟨s.q.toNat, by omega⟩
                have hPl : P < ps.length := by omega
                have hQl : Q < ps.length := by omega
                obtain ⟨x, hx⟩ : ∃ x, pl2[P]? = some x := ⟨_, List.getElem?_eq_getElem (by rw [HPLN.out]; exact hPl)⟩
                obtain ⟨y, hy⟩ : ∃ y, pl2[Q]? = some y := ⟨_, List.getElem?_eq_getElem (by rw [HPLN.out]; exact hQl)⟩
                have HE2 : Hid (trTo l (nd l) (k + 1) = (pl2, (trTo l (nd l) k).2 ++ [⟨3, 0, [], x, y, s.var⟩])) := Lib.hid (by
                  have gx : gi pl2 s.p = x := by unfold gi; rw [hP, Int.toNat_natCast, List.getD_eq_getElem?_getD, hx]; rfl
                  have gy : gi pl2 s.q = y := by unfold gi; rw [hQ', Int.toNat_natCast, List.getD_eq_getElem?_getD, hy]; rfl
                  rw [HE.out, bareS, if_neg (by omega), if_neg (by omega), gx, gy, hkd])
                have HXO := Lib.hid (HSM.out x (List.mem_of_getElem? hx))
                have HYO := Lib.hid (HSM.out y (List.mem_of_getElem? hy))
                have x1 := HT5.out.p.cell P
                have x2 := HT5.out.p.cell Q
                rw [rowI_at hx] at x1
                rw [rowI_at hy] at x2
                rw [hkd] at r0 y0
                rw [hP] at r3
                rw [hQ'] at r4
                have z3 := HY5.out.frozen 3
                have z4 := HY5.out.frozen 4
                have z5 := HY5.out.frozen 5
                have hset : W6.grownBy (((W6.drew.setCell ⟨W5.heap.size, 3, none⟩ (.int .i64 x)).setCell ⟨W5.heap.size, 4, none⟩ (.int .i64 y)).setCell ⟨W5.heap.size, 5, none⟩ (.int .i64 s.var)) (some W5.heap.size) := grownBy_trans (grownBy_drew _ _) (grownBy_trans (grownBy_trans (grownBy_set0 _ _ _ _) (grownBy_set0 _ _ _ _)) (grownBy_set0 _ _ _ _))
                have HT6 := Lib.hid (HT4.out.keep (HB56.out.grown hset HB56.out.size fun g e => by injection e with e; omega))
                have HY7 : Hid (Blk (((W6.drew.setCell ⟨W5.heap.size, 3, none⟩ (.int .i64 x)).setCell ⟨W5.heap.size, 4, none⟩ (.int .i64 y)).setCell ⟨W5.heap.size, 5, none⟩ (.int .i64 s.var)) W5.heap.size 50 #[.int .i64 3, .int .i64 0, .slice none 0 0, .int .i64 x, .int .i64 y, .int .i64 s.var]) := Lib.hid (by have h := ((HY5.out.drew.set_ 3 (.int .i64 x)).set_ 4 (.int .i64 y)).set_ 5 (.int .i64 s.var); rw [hkd] at h; exact h)
                have i1 : (0 : Int) ≤ (P : Int) := by omega
                have i2 : (P : Int) < (ps.length : Int) := by omega
                have i3 : (0 : Int) ≤ (Q : Int) := by omega
                have i4 : (Q : Int) < (ps.length : Int) := by omega
                have HBS1 : Hid (Below W5.heap.size W5 (W6.drew.setCell ⟨W5.heap.size, 3, none⟩ (.int .i64 x))) := Lib.hid (HB56.out.drew.grown (grownBy_set0 _ _ _ _) HB56.out.size fun g e => by injection e with e; omega)
                have HBS2 : Hid (Below W5.heap.size W5 ((W6.drew.setCell ⟨W5.heap.size, 3, none⟩ (.int .i64 x)).setCell ⟨W5.heap.size, 4, none⟩ (.int .i64 y))) := Lib.hid (HBS1.out.grown (grownBy_set0 _ _ _ _) HBS1.out.size fun g e => by injection e with e; omega)
                have HBS3 : Hid (Below W5.heap.size W5 (((W6.drew.setCell ⟨W5.heap.size, 3, none⟩ (.int .i64 x)).setCell ⟨W5.heap.size, 4, none⟩ (.int .i64 y)).setCell ⟨W5.heap.size, 5, none⟩ (.int .i64 s.var))) := Lib.hid (HBS2.out.grown (grownBy_set0 _ _ _ _) HBS2.out.size fun g e => by injection e with e; omega)
                have HP' := Lib.hid hP
                have HQ2 := Lib.hid hQ'
                have HXP := Lib.hid hx
                have HYP := Lib.hid hy
                clear hkd hset hx hy hP hQ' hp0' hp1' hq0' hq1'
                have HSOF : Hid (∀ w', Below W5.heap.size W5 w' → w'.cell? ⟨wr.heap.size, 3, none⟩ = some (.int .i64 (P : Int)) ∧ w'.cell? ⟨wr.heap.size, 4, none⟩ = some (.int .i64 (Q : Int)) ∧ w'.cell? ⟨wr.heap.size, 5, none⟩ = some (.int .i64 s.var) ∧ w'.cell? ⟨gp, P, none⟩ = some (.int .i64 x) ∧ w'.cell? ⟨gp, Q, none⟩ = some (.int .i64 y)) := Lib.hid fun w' hw => by
                  have b4 := HBX4.out.keep hw
                  have g3 := b4.cell 3
                  have g4 := b4.cell 4
                  have g5 := b4.cell 5
                  simp only [List.getElem?_toArray, List.getElem?_cons_zero, List.getElem?_cons_succ] at g3 g4 g5
                  rw [HP'.out] at g3
                  rw [HQ2.out] at g4
                  have k1 := (HT4.out.keep hw).p.cell P
                  have k2 := (HT4.out.keep hw).p.cell Q
                  rw [rowI_at HXP.out] at k1
                  rw [rowI_at HYP.out] at k2
                  exact ⟨g3, g4, g5, k1, k2⟩
                go_upto_region 20 with fail
                clear r0 r1 r2 y0 y1 y2
                go_region_held3 (fun w' => w'.cell? ⟨wr.heap.size, 3, none⟩ = some (.int .i64 (P : Int)) ∧ w'.cell? ⟨wr.heap.size, 4, none⟩ = some (.int .i64 (Q : Int)) ∧ w'.cell? ⟨wr.heap.size, 5, none⟩ = some (.int .i64 s.var) ∧ w'.cell? ⟨gp, P, none⟩ = some (.int .i64 x) ∧ w'.cell? ⟨gp, Q, none⟩ = some (.int .i64 y)) (first | assumption | exact HSOF.out _ HB56.out.drew | exact HSOF.out _ HBS1.out | exact HSOF.out _ HBS2.out | exact HSOF.out _ HBS3.out) (fail)
                have HT9 : Hid (TR w1 (((W6.setCell ⟨W5.heap.size, 3, none⟩ (.int .i64 x)).setCell ⟨W5.heap.size, 4, none⟩ (.int .i64 y)).setCell ⟨W5.heap.size, 5, none⟩ (.int .i64 s.var)).drew gn gp (nd l) pl2 (.slice Ao qs.length co) qs) := HT6
                have HY9 : Hid (Blk (((W6.setCell ⟨W5.heap.size, 3, none⟩ (.int .i64 x)).setCell ⟨W5.heap.size, 4, none⟩ (.int .i64 y)).setCell ⟨W5.heap.size, 5, none⟩ (.int .i64 s.var)).drew W5.heap.size 50 #[.int .i64 3, .int .i64 0, .slice none 0 0, .int .i64 x, .int .i64 y, .int .i64 s.var]) := HY7
                clear HT6 HY7
                generalize (((W6.setCell ⟨W5.heap.size, 3, none⟩ (.int .i64 x)).setCell ⟨W5.heap.size, 4, none⟩ (.int .i64 y)).setCell ⟨W5.heap.size, 5, none⟩ (.int .i64 s.var)).drew = W7 at *
                have HY7 := HY9
                clear r3 r4 r5 y3 y4 y5 z3 z4 z5 x1 x2 HBS1 HBS2 HBS3 HSOF
                have HSO : Hid ((⟨3, 0, [], x, y, s.var⟩ : Stp).ok) := Lib.hid (⟨⟨by simp, by simp⟩, ⟨by simp, by simp⟩, HXO.out, HYO.out, HP4.out.2.2.2.2.2⟩)
                have y0 := HY7.out.cell 0
                have y1 := HY7.out.cell 1
                have y2 := HY7.out.cell 2
                have y3 := HY7.out.cell 3
                have y4 := HY7.out.cell 4
                have y5 := HY7.out.cell 5
                simp only [List.getElem?_toArray, List.getElem?_cons_zero, List.getElem?_cons_succ] at y0 y1 y2 y3 y4 y5
                have HO : Hid (∀ u ∈ ([.int .i64 3, .int .i64 0, .slice none 0 0, .int .i64 x, .int .i64 y, .int .i64 s.var] : List Value), u.oneCell' = true) := by
                  refine Lib.hid ?_
                  intro u hu; simp at hu; rcases hu with rfl | rfl | rfl | rfl | rfl | rfl <;> rfl
                have H63 : Hid (qs.length + 1 ≤ maxLen) := by refine Lib.hid ?_; unfold maxLen; omega
                have HBY : Hid ((qs.length + 1) * 64 ≤ 140737488355328) := by refine Lib.hid ?_; omega
                have HBA : Hid (gp + 1 ≤ (W7.alloc (.cells ([.int .i64 3, .int .i64 0, .slice none 0 0, .int .i64 x, .int .i64 y, .int .i64 s.var] : List Value).toArray 50)).heap.size) := by refine Lib.hid ?_; have := HT9.out.hi; simp; omega
                go_wp2_with (at_builtin; refine wpList_append_own_at _ rfl _ _ 26 rfl (gp + 1) 50 iT zT 6 64 Try.underlying26 hiT hzT0 hzT1 hzT2 rfl (by decide) _ _ _ rfl (HT9.out.os.1.alloc _) ⟨W7.heap.size, 0, none⟩ 1 1 [.int .i64 3, .int .i64 0, .slice none 0 0, .int .i64 x, .int .i64 y, .int .i64 s.var] rfl rfl (cells_at W7 _ [.int .i64 3, .int .i64 0, .slice none 0 0, .int .i64 x, .int .i64 y, .int .i64 s.var] rfl) HO.out H63.out HBY.out HBA.out ?_)
                intro v7 w7 hown hgrow _ hat
                have HT7 := Lib.hid (HT9.out.push (s := (⟨3, 0, [], x, y, s.var⟩ : Stp)) (lv := .slice none 0 0) (intsO_nil _ _) HSO.out hown hgrow (by simpa using hat))
                obtain ⟨A7, c7, e7, -, -, -⟩ := owns_rd hown
                subst e7
                clear hown hgrow hat HO H63 HBY HBA y0 y1 y2 y3 y4 y5
                go_wp2_with fail
                go_roundw
                case rel => exact ⟨k + 1, qs ++ [((⟨3, 0, [], x, y, s.var⟩ : Stp), .slice none 0 0)], by omega, by go_num, by rw [HE2.out, List.map_append, HQS.out]; rfl, by rw [HE2.out]; exact HT7.out⟩
                case measure => simp [intOf]; omega
          · have HE : Hid (qs.map (·.1) = trim l) := Lib.hid (by rw [HQS.out, show k = l.length by have := HPL.out; omega]; rfl)
            have hlo := HT2.out.lo
            have hlt := HT2.out.lt
            have hW1 := HB1.out.size
            go_wp2_with fail
            go_ret2
            refine ⟨HB1.out.trans (HT2.out.bl.mono HB1.out.size), .inl ⟨HRF.out, _, qs, rfl, HE.out, ?_⟩⟩
            exact ⟨owns_base6 HT2.out.os.1 (by omega), fun q hq => ⟨(HT2.out.os.2 q hq).1.mono fun b _ hb => ⟨by have := hb.1; omega, hb.2⟩, (HT2.out.os.2 q hq).2⟩⟩
  · have HNR := Lib.hid hrf
    have hne : (chk (runS f [] l) l.length).2 ≠ 0 := fun h => HNR.out (chk_refutes h)
    generalize chk (runS f [] l) l.length = ck at *
    have dne : (ck.2 != 0) = true := by simpa using hne
    clear hne hrf
    go_wp2_with fail
    go_ret2
    exact ⟨HB1.out, .inr ⟨HNR.out, rfl⟩⟩
end Go.Proofs.Ytdmndikenejhiaa
