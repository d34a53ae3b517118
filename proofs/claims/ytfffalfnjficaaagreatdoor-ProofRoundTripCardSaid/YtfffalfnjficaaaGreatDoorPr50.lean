/-
  WALK: proof.Trim.
-/
import Derived.Test.YtfffalfnjficaaaGreatDoorPr48
import Derived.Test.YtfffalfnjficaaaGreatDoorPr49
namespace Go.Proofs.YtfffalfnjficaaaGreatDoor
open Go.RowKit

/-- What Trim returns: the needed steps of a refutation. -/
def TrimRet (w : World) (f : Form) (l : List Stp) (e : Ending) (w' : World) : Prop :=
  Below w.heap.size w w' ∧ ((Refutes f l ∧ ∃ v ps, e = .returned (.tuple #[v, .bool true]) ∧ ps.map (·.1) = trim l ∧ OwnStps w' w.heap.size (fun b => w.heap.size ≤ b) v ps) ∨ (¬ Refutes f l ∧ e = .returned (.tuple #[.slice none 0 0, .bool false])))

/-- The row of needed steps under way. -/
structure TN (w1 wr : World) (gn : Nat) (n : List Bool) : Prop where
  n : Blk wr gn 4 (rowB n)
  lo : w1.heap.size ≤ gn
  bl : Below w1.heap.size w1 wr
theorem TN.set_ {w1 wr : World} {gn : Nat} {n : List Bool} (h : TN w1 wr gn n) (k : Nat) (a : Bool) : TN w1 (wr.setCell ⟨gn, k, none⟩ (.bool a)) gn (n.set k a) :=
  ⟨h.n.setB k a, h.lo, h.bl.grown (grownBy_set0 _ _ _ _) h.bl.size fun g e => by injection e with e; have := h.lo; omega⟩
/-- The rows of Trim's second loop. -/
structure TR (w1 wr : World) (gn gp : Nat) (n : List Bool) (pl : List Int) (v : Value) (ps : List (Stp × Value)) : Prop where
  n : Blk wr gn 4 (rowB n)
  p : Blk wr gp 3 (rowI pl)
  os : OwnStps wr (gp + 1) (fun b => gp + 1 ≤ b) v ps
  lo : w1.heap.size ≤ gn
  lt : gn < gp
  hi : gp + 1 ≤ wr.heap.size
  bl : Below w1.heap.size w1 wr
section
variable {w1 wr w' : World} {gn gp : Nat} {n : List Bool} {pl : List Int} {v : Value} {ps : List (Stp × Value)}
theorem TR.keep (h : TR w1 wr gn gp n pl v ps) (hb : Below wr.heap.size wr w') : TR w1 w' gn gp n pl v ps := ⟨h.n.keep hb, h.p.keep hb, h.os.keep hb, h.lo, h.lt, Nat.le_trans h.hi hb.size, h.bl.trans (hb.mono h.bl.size)⟩
theorem TR.setP (h : TR w1 wr gn gp n pl v ps) (k : Nat) (a : Int) : TR w1 (wr.setCell ⟨gp, k, none⟩ (.int .i64 a)) gn gp n (pl.set k a) v ps := by
  have hs : wr.grownBy (wr.setCell ⟨gp, k, none⟩ (.int .i64 a)) (some gp) := grownBy_set0 _ _ _ _
  have lt := h.lt
  exact ⟨h.n.grown hs (by simp; omega), h.p.setI k a, h.os.grown hs (own_ne h.os.1 (by omega)) fun b hb => by simp; omega, h.lo, h.lt, by simpa using h.hi, h.bl.grown hs h.bl.size fun g e => by injection e with e; have := h.lo; omega⟩
theorem TR.push {v' lv : Value} {s : Stp} {o : Obj} (h : TR w1 wr gn gp n pl v ps) (hu : IntsO wr (fun b => gp + 1 ≤ b ∧ some b ≠ v.ownBlock) lv s.lits) (hs : s.ok)
    (ho : w'.ownsRow (gp + 1) 53 6 v' (ps.length + 1) (ps.flatMap Stp.cells ++ Stp.cells (s, lv))) (hg : (wr.alloc o).grownBy w' v.ownBlock) (hat : v'.ownBlock = v.ownBlock ∨ v'.ownBlock = some (wr.alloc o).heap.size) : TR w1 w' gn gp n pl v' (ps ++ [(s, lv)]) := by
  have hlt : ∀ k, v.ownBlock = some k → gp + 1 ≤ k ∧ k < wr.heap.size := fun k e => h.os.1.lt k e
  have lt := h.lt
  have lo := h.lo
  refine ⟨(h.n.alloc o).grown hg fun e => by have := hlt _ e.symm; omega, (h.p.alloc o).grown hg fun e => by have := hlt _ e.symm; omega, h.os.push hu hs ho hg hat, h.lo, h.lt, ?_, (h.bl.alloc h.bl.size o).grown hg (by have := h.bl.size; simp; omega) fun k e => by have := hlt k e; omega⟩
  have h1 := hg.size; have h2 := h.hi; simp at h1; omega
end

theorem trTo_small (l : List Stp) (n : List Bool) (k : Nat) : (trTo l n k).2.length ≤ k ∧ ∀ x ∈ (trTo l n k).1, 0 ≤ x ∧ x ≤ (k : Int) := by
  induction k with
  | zero => exact ⟨by simp [trTo], fun x hx => by rw [trTo] at hx; rw [List.eq_of_mem_replicate hx]; simp⟩
  | succ k ih =>
    rw [trTo]
    split
    · refine ⟨by simp; exact ih.1, fun x hx => ?_⟩
      rcases List.mem_or_eq_of_mem_set hx with h | rfl
      · have := ih.2 x h; omega
      · have := ih.1; omega
    · exact ⟨by have := ih.1; omega, fun x hx => by have := ih.2 x hx; omega⟩
theorem bareS_ok {s : Stp} {pl : List Int} (hs : s.ok) (hp : ∀ x ∈ pl, I64 x) : (bareS s pl).ok := by
  have h0 : I64 0 := by constructor <;> omega
  have hg : ∀ i, I64 (gi pl i) := fun i => by
    unfold gi
    rw [List.getD_eq_getElem?_getD]
    cases e : pl[i.toNat]? with
    | none => exact h0
    | some x => exact hp x (List.mem_of_getElem? e)
  obtain ⟨h1, h2, h3, h4, h5⟩ := hs
  unfold bareS
  split
  · exact ⟨h1, h2, h0, h0, h0⟩
  · split
    · exact ⟨h1, h0, h0, h0, h0⟩
    · exact ⟨h1, h0, hg _, hg _, h5⟩

theorem owns_base6 {w : World} {base base' n k : Nat} {e : TypeId} {v : Value} {xs : List Value} (h : w.ownsRow base e k v n xs) (hb : base' ≤ base) : w.ownsRow base' e k v n xs := by
  refine ⟨h.1, ?_⟩
  rcases h.2 with hn | ⟨g, cap, cur, rfl, hg, rest⟩
  · exact .inl hn
  · exact .inr ⟨g, cap, cur, rfl, by omega, rest⟩
theorem ret_i {a b : Int} (h : a = b) : Value.int .i64 a = .int .i64 b := by rw [h]

set_option maxRecDepth 100000 in
set_option maxHeartbeats 4000000 in
theorem trim_any (fv lv : Value) (f : Form) (l : List Stp) (w : World) (hf : IsForm w fv f) (hl : Stps w lv l) (hq : Asked f l) :
    Calls Tryz.prog 15 #[fv, lv] w (TrimRet w f l) := by
  have HF := Lib.hid hf
  have HQ := Lib.hid hq
  have HL := Lib.hid hl
  obtain ⟨av, cv, rfl, -, -, hf3, hf4⟩ := hf
  obtain ⟨Aa, ca, rfl, -, -, -, -⟩ := hf3
  obtain ⟨Ac, cc, vs, rfl, -, -, -, -, -⟩ := hf4
  obtain ⟨A, c, ps, hps, rfl, l1, l2, l3, l4⟩ := hl
  have hpl : ps.length = l.length := by rw [hps]; simp
  have HPS := Lib.hid hps
  have HPL := Lib.hid hpl
  have HR := Lib.hid l3
  have H4 := Lib.hid l4
  unfold maxLen at l2
  have hpn : ps.length ≤ 100000 := by have := hq.2.2.1; omega
  have HB0 : Hid (Below w.heap.size w (w.alloc (.cells #[.int .i64 f.ints, .int .i64 f.bools, .slice Aa f.atoms.length ca, .slice Ac f.clauses.length cc] 35))) := (Below.refl _ _).alloc (Nat.le_refl _) _
  clear hq hps hpl l3 l4
  go_enter Tryz.func15, Tryz.ntmps15
  go_wp2_with fail
  generalize w.alloc (.cells #[.int .i64 f.ints, .int .i64 f.bools, .slice Aa f.atoms.length ca, .slice Ac f.clauses.length cc] 35) = W at *
  refine (pcheck_any _ _ f l _ (HF.out.keep HB0.out) (HL.out.keep HB0.out) HQ.out).mono ?_
  rintro e w1 ⟨rfl, hb1⟩
  have HB1 := Lib.hid (HB0.out.trans (hb1.mono HB0.out.size))
  clear hb1
  by_cases hrf : Refutes f l
  · have HRF := Lib.hid hrf
    rw [hrf.chk]
    obtain ⟨cs, hg, h0, hlast⟩ := hrf
    have HBK := Lib.hid hg.back
    have HKD := Lib.hid hg.kinds
    have hp0 : 0 < ps.length := by have := HPL.out; omega
    have mkb := mk_bools ps.length (by omega)
    clear hg hlast h0
    go_upto_region 5 with fail
    have HN0 : Hid (TN w1 (w1.alloc (.cells (rowB (List.replicate ps.length false)) 4)) w1.heap.size (List.replicate ps.length false)) := ⟨Blk.new _ _ _, Nat.le_refl _, (Below.refl _ _).alloc (Nat.le_refl _) _⟩
    generalize w1.alloc (.cells (rowB (List.replicate ps.length false)) 4) = W1 at *
    obtain ⟨gn, hgn⟩ : ∃ gn, gn = w1.heap.size := ⟨_, rfl⟩
    rw [← hgn] at HN0 ⊢
    have c1 := HN0.out.n.cell (ps.length - 1)
    rw [rowB_at (x := false) (by rw [List.getElem?_replicate, if_pos (by omega)])] at c1
    have z1 := HN0.out.n.frozen (ps.length - 1)
    have HN1 := Lib.hid (HN0.out.set_ (ps.length - 1) true)
    have HE0 : Hid ((List.replicate ps.length false).set (ps.length - 1) true = ndFrom l 0) := Lib.hid (by rw [ndFrom, HPL.out])
    rw [HE0.out] at HN1
    clear hgn mkb
    go_upto_region 6 with fail
    generalize W1.setCell ⟨gn, ps.length - 1, none⟩ (.bool true) = W2 at *
    clear c1 z1 HN0 HE0
    go_wp2_with fail
    go_loopw [9] (fun i wr => ∃ j : Nat, j ≤ ps.length ∧ i = .int .i64 ((ps.length : Int) - 1 - j) ∧ TN w1 wr gn (ndFrom l j)) (fun i _ => (intOf i + 1).toNat)
    case atStart => exact ⟨0, by omega, by simp, HN1.out⟩
    case round =>
      obtain ⟨j, hj, rfl, htn⟩ := hrel
      have HT := Lib.hid htn
      clear htn HN1
      by_cases hjl : j < ps.length
      · obtain ⟨k, hk⟩ : ∃ k : Nat, ps.length = k + 1 + j := ⟨ps.length - 1 - j, by omega⟩
        have hkl : k < ps.length := by omega
        have hki : (ps.length : Int) - 1 - (j : Int) = (k : Int) := by omega
        obtain ⟨⟨s, sv⟩, hp⟩ : ∃ p, ps[k]? = some p := ⟨_, List.getElem?_eq_getElem hkl⟩
        have HSG : Hid (l.getD k s0 = s) := Lib.hid (by rw [HPS.out, List.getD_eq_getElem?_getD, List.getElem?_map, hp]; rfl)
        obtain ⟨b1, o1, rfl, hb1, t0, t1, t2, t3, t4, t5⟩ := Stps.at_ ((HR.out.keep HB1.out).keep HT.out.bl) hp
        simp only at t0 t1 t2 t3 t4 t5
        obtain ⟨nv, hnv⟩ : ∃ nv, (ndFrom l j)[k]? = some nv := ⟨_, List.getElem?_eq_getElem (by rw [ndFrom_len]; have := HPL.out; omega)⟩
        have c1 := HT.out.n.cell k
        rw [rowB_at hnv] at c1
        have HNV : Hid ((ndFrom l j).getD k false = nv) := Lib.hid (by rw [List.getD_eq_getElem?_getD, hnv]; rfl)
        have HKE : Hid (l.length - 1 - j = k) := Lib.hid (by have := HPL.out; omega)
        rw [hki]
        have HKI := Lib.hid hki
        have HPK := Lib.hid hp
        clear hp hnv hk hki
        cases nv with
        | false =>
          have HN2 : Hid (ndFrom l (j + 1) = ndFrom l j) := Lib.hid (by rw [ndFrom, HKE.out, ndStep, if_neg]; rw [HNV.out]; simp)
          go_wp2_with fail
          go_roundw
          case rel => exact ⟨j + 1, by omega, by have := HKI.out; exact ret_i (by omega), by rw [HN2.out]; exact HT.out⟩
          case measure => simp [intOf]
        | true =>
          by_cases h3 : s.kind = 3
          · have hbk := HBK.out k (by have := HPL.out; omega) (by rw [HSG.out]; exact h3)
            rw [HSG.out] at hbk
            obtain ⟨p0, p1, q0, q1⟩ := hbk
            obtain ⟨X, hX⟩ : ∃ X : Nat, s.p = X := ⟨s.p.toNat, by omega⟩
            obtain ⟨Y, hY⟩ : ∃ Y : Nat, s.q = Y := ⟨s.q.toNat, by omega⟩
            have X1 : X < ps.length := by omega
            have Y1 : Y < ps.length := by omega
            rw [hX] at t3
            rw [hY] at t4
            rw [h3] at t0
            have HN2 : Hid (ndFrom l (j + 1) = ((ndFrom l j).set X true).set Y true) := Lib.hid (by rw [ndFrom, HKE.out, ndStep, if_pos ⟨HNV.out, by rw [HSG.out]; exact h3⟩, HSG.out, hX, hY]; rfl)
            have HT2 := Lib.hid (HT.out.set_ X true)
            have HT3 := Lib.hid (HT2.out.set_ Y true)
            obtain ⟨xv, hxv⟩ : ∃ xv, (ndFrom l j)[X]? = some xv := ⟨_, List.getElem?_eq_getElem (by rw [ndFrom_len]; have := HPL.out; omega)⟩
            have c2 := HT.out.n.cell X
            rw [rowB_at hxv] at c2
            have z2 := HT.out.n.frozen X
            obtain ⟨yv, hyv⟩ : ∃ yv, ((ndFrom l j).set X true)[Y]? = some yv := ⟨_, List.getElem?_eq_getElem (by rw [List.length_set, ndFrom_len]; have := HPL.out; omega)⟩
            have c3 := HT2.out.n.cell Y
            rw [rowB_at hyv] at c3
            have z3 := HT2.out.n.frozen Y
            have HY := Lib.hid hY
            clear p0 p1 q0 q1 hX hY h3 hxv hyv
            go_upto_region 11 with fail
            generalize wr.setCell ⟨gn, X, none⟩ (.bool true) = W3 at *
            clear t0 t1 t2 t3 t4 t5 c1 c2 z2
            obtain ⟨b2, o2, e2, hb2, -, -, -, -, t4, -⟩ := Stps.at_ ((HR.out.keep HB1.out).keep HT2.out.bl) HPK.out
            injection e2 with e2
            injection e2 with e2 e3 _
            subst e2 e3
            simp only at t4
            rw [HY.out] at t4
            go_wp2_with fail
            go_roundw
            case rel => exact ⟨j + 1, by omega, by have := HKI.out; exact ret_i (by omega), by rw [HN2.out]; exact HT3.out⟩
            case measure => simp [intOf]
          · have HN2 : Hid (ndFrom l (j + 1) = ndFrom l j) := Lib.hid (by rw [ndFrom, HKE.out, ndStep, if_neg]; rw [HSG.out]; exact fun h => h3 h.2)
            have d3 : (s.kind == 3) = false := by simp [h3]
            clear h3
            go_wp2_with fail
            go_roundw
            case rel => exact ⟨j + 1, by omega, by have := HKI.out; exact ret_i (by omega), by rw [HN2.out]; exact HT.out⟩
            case measure => simp [intOf]
      · have HND : Hid (TN w1 wr gn (nd l)) := Lib.hid (by
          have h := HT.out
          rw [show j = l.length by have := HPL.out; omega] at h
          exact h)
        have hjn : (ps.length : Int) - 1 - (j : Int) = -1 := by omega
        rw [hjn]
        have mk := mk_ints ps.length (by omega)
        have HTR : Hid (TR w1 (wr.alloc (.cells (rowI (List.replicate ps.length 0)) 3)) gn wr.heap.size (nd l) (List.replicate ps.length 0) (.slice none 0 0) []) := Lib.hid ⟨HND.out.n.alloc _, Blk.new _ _ _, OwnStps.nil _ _ _, HND.out.lo, HND.out.n.lt, by simp, HND.out.bl.alloc HND.out.bl.size _⟩
        clear hjn
        go_upto_region 13 with fail
        generalize wr.alloc (.cells (rowI (List.replicate ps.length 0)) 3) = W3 at *
        obtain ⟨gp, hgp⟩ : ∃ gp, gp = wr.heap.size := ⟨_, rfl⟩
        rw [← hgp] at HTR ⊢
        clear mk hgp
        obtain ⟨iT, hiT, hzT0, hzT1, hzT2⟩ := info_parts info_step
        go_wp2_with fail
        go_loopw [11, 68] (fun o i wr => ∃ (k : Nat) (qs : List (Stp × Value)), k ≤ ps.length ∧ i = .int .i64 k ∧ qs.map (·.1) = (trTo l (nd l) k).2 ∧ TR w1 wr gn gp (nd l) (trTo l (nd l) k).1 o qs) (fun _ i _ => ps.length - (intOf i).toNat)
        case atStart => exact ⟨0, [], by omega, rfl, rfl, by rw [trTo, ← HPL.out]; exact HTR.out⟩
        case round =>
          obtain ⟨k, qs, hk, rfl, hqs, htr⟩ := hrel
          have HQS := Lib.hid hqs
          have HT2 := Lib.hid htr
          obtain ⟨Ao, co, eo, -, -, -⟩ := owns_rd htr.os.1
          subst eo
          have hql : qs.length ≤ k := by have h1 := congrArg List.length hqs; have h2 := (trTo_small l (nd l) k).1; simp at h1; omega
          clear hqs htr HTR
          by_cases hkl : k < ps.length
          · obtain ⟨⟨s, sv⟩, hp⟩ : ∃ p, ps[k]? = some p := ⟨_, List.getElem?_eq_getElem hkl⟩
            have HSG : Hid (l.getD k s0 = s) := Lib.hid (by rw [HPS.out, List.getD_eq_getElem?_getD, List.getElem?_map, hp]; rfl)
            obtain ⟨b1, o1, rfl, hb1, t0, t1, t2, t3, t4, t5⟩ := Stps.at_ ((HR.out.keep HB1.out).keep HT2.out.bl) hp
            have HP4 := Lib.hid (H4.out (s, sv) (List.mem_of_getElem? hp))
            obtain ⟨As, cs', hsv, -, -, -, -⟩ := HP4.out.1
            simp only at t0 t1 t2 t3 t4 t5 hsv
            subst hsv
            obtain ⟨nv, hnv⟩ : ∃ nv, (nd l)[k]? = some nv := ⟨_, List.getElem?_eq_getElem (by unfold nd; rw [ndFrom_len]; have := HPL.out; omega)⟩
            have HNV : Hid ((nd l).getD k false = nv) := Lib.hid (by rw [List.getD_eq_getElem?_getD, hnv]; rfl)
            have hb3 : Below wr.heap.size wr (wr.alloc (.cells #[.int .i64 s.kind, .int .i64 s.index, .slice As s.lits.length cs', .int .i64 s.p, .int .i64 s.q, .int .i64 s.var] 53)) := (Below.refl _ _).alloc (Nat.le_refl _) _
            have HT3 := Lib.hid (HT2.out.keep hb3)
            have HBX := Lib.hid (Blk.new wr 53 #[.int .i64 s.kind, .int .i64 s.index, .slice As s.lits.length cs', .int .i64 s.p, .int .i64 s.q, .int .i64 s.var])
            have HNW := Lib.hid hnv
            clear hp hnv hb3
            go_upto_region 17 with fail
            generalize wr.alloc (.cells #[.int .i64 s.kind, .int .i64 s.index, .slice As s.lits.length cs', .int .i64 s.p, .int .i64 s.q, .int .i64 s.var] 53) = W4 at *
            clear t0 t1 t2 t3 t4 t5
            have c1 := HT3.out.n.cell k
            rw [rowB_at HNW.out] at c1
            cases nv with
            | false =>
              have HE : Hid (trTo l (nd l) (k + 1) = trTo l (nd l) k) := Lib.hid (by rw [trTo, if_neg (by rw [HNV.out]; simp)])
              go_wp2_with fail
              go_roundw
              case rel => exact ⟨k + 1, qs, by omega, by go_num, by rw [HE.out]; exact HQS.out, by rw [HE.out]; exact HT3.out⟩
              case measure => simp [intOf]; omega
            | true =>
              have HE : Hid (trTo l (nd l) (k + 1) = ((trTo l (nd l) k).1.set k (qs.length : Int), (trTo l (nd l) k).2 ++ [bareS s ((trTo l (nd l) k).1.set k (qs.length : Int))])) := Lib.hid (by
                have h1 := congrArg List.length HQS.out
                rw [trTo, if_pos HNV.out, HSG.out, ← h1, List.length_map])
              have HSM : Hid (∀ x ∈ (trTo l (nd l) k).1.set k (qs.length : Int), I64 x) := Lib.hid (fun x hx => by
                rcases List.mem_or_eq_of_mem_set hx with h | rfl
                · have := (trTo_small l (nd l) k).2 x h; constructor <;> omega
                · constructor <;> omega)
              have HPLN : Hid (((trTo l (nd l) k).1.set k (qs.length : Int)).length = ps.length) := Lib.hid (by rw [List.length_set, trTo_len, HPL.out])
              have HKB : Hid (s.kind = 1 ∨ s.kind = 2 ∨ (s.kind = 3 ∧ 0 ≤ s.p ∧ s.p < (k : Int) ∧ 0 ≤ s.q ∧ s.q < (k : Int))) := Lib.hid (by
                have h1 := HKD.out k (by have := HPL.out; omega)
                have h2 := HBK.out k (by have := HPL.out; omega)
                rw [HSG.out] at h1 h2
                rcases h1 with h | h | h
                · exact .inl h
                · exact .inr (.inl h)
                · exact .inr (.inr ⟨h, h2 h⟩))
              obtain ⟨x0, hx0⟩ : ∃ x0, (trTo l (nd l) k).1[k]? = some x0 := ⟨_, List.getElem?_eq_getElem (by rw [trTo_len]; have := HPL.out; omega)⟩
              have c2 := HT3.out.p.cell k
              rw [rowI_at hx0] at c2
              have z2 := HT3.out.p.frozen k
              have HT4 := Lib.hid (HT3.out.setP k (qs.length : Int))
              have hgpl : gp < wr.heap.size := HT2.out.p.lt
              have HBX4 := Lib.hid (HBX.out.grown (grownBy_set0 W4 gp k (.int .i64 (qs.length : Int))) (by simp; omega))
              generalize (trTo l (nd l) k).1.set k (qs.length : Int) = pl2 at *
              clear hx0 hgpl
              go_upto_region 19 with fail
              generalize W4.setCell ⟨gp, k, none⟩ (.int .i64 (qs.length : Int)) = W5 at *
              clear c1 c2 z2
              have r0 := HBX4.out.cell 0
              have r1 := HBX4.out.cell 1
              have r2 := HBX4.out.cell 2
              have r3 := HBX4.out.cell 3
              have r4 := HBX4.out.cell 4
              have r5 := HBX4.out.cell 5
              simp only [List.getElem?_toArray, List.getElem?_cons_zero, List.getElem?_cons_succ] at r0 r1 r2 r3 r4 r5
              have HPI : Hid (Ints W5 (.slice (some ⟨gp, 0, none⟩) ps.length ps.length) pl2) := Lib.hid (by
                have h := Blk.ints HT4.out.p HSM.out (by rw [HPLN.out]; unfold maxLen; omega)
                rw [HPLN.out] at h
                exact h)
              have HCALL : Hid (Calls Tryz.prog 31 #[.agg #[.int .i64 s.kind, .int .i64 s.index, .slice As s.lits.length cs', .int .i64 s.p, .int .i64 s.q, .int .i64 s.var], .slice (some ⟨gp, 0, none⟩) ps.length ps.length] W5 (BareRet W5 (bareS s pl2))) :=
                Lib.hid (bare_any s (.slice As s.lits.length cs') _ pl2 W5 ((HP4.out.1.keep HB1.out).keep HT4.out.bl) HPI.out (by have := HQ.out.2.2.2 s (by rw [← HSG.out, List.getD_eq_getElem?_getD, List.getElem?_eq_getElem (show k < l.length by have := HPL.out; omega)]; exact List.getElem_mem _); omega) (by rw [HPLN.out]; rcases HKB.out with h | h | ⟨h1, h2, h3, h4, h5⟩; exact .inl h; exact .inr (.inl h); exact .inr (.inr ⟨h1, h2, by omega, h4, by omega⟩)))
              have HSO : Hid ((bareS s pl2).ok) := Lib.hid (bareS_ok HP4.out.2 HSM.out)
              have HBL : Hid ((bareS s pl2).lits.length ≤ 1000000 ∧ (bareS s pl2).lits.length ≤ 1000000) := Lib.hid (by
                have h : s.lits.length ≤ 1000000 := by have := HQ.out.2.2.2 s (by rw [← HSG.out, List.getD_eq_getElem?_getD, List.getElem?_eq_getElem (show k < l.length by have := HPL.out; omega)]; exact List.getElem_mem _); omega
                have : (bareS s pl2).lits.length ≤ 1000000 := by unfold bareS; split; simp; split; exact h; simp
                exact ⟨this, this⟩)
              generalize bareS s pl2 = s2 at *
              go_wp2_with fail
              refine HCALL.out.mono ?_
              rintro e w6 ⟨A6, c6, rfl, hi6, hb6⟩
              have HT6 := Lib.hid (HT4.out.keep hb6)
              have HI6 : Hid (IntsO w6 (fun b => gp + 1 ≤ b ∧ some b ≠ (Value.slice Ao qs.length co).ownBlock) (.slice A6 s2.lits.length c6) s2.lits) := Lib.hid (hi6.mono fun b _ hb => ⟨by have := HT4.out.hi; omega, fun e => by have := (HT4.out.os.1.lt b e.symm).2; omega⟩)
              clear hi6 hb6 r0 r1 r2 r3 r4 r5 HCALL HBX4
              rw [show Stp.val s2 (.slice A6 s2.lits.length c6) = .agg #[.int .i64 s2.kind, .int .i64 s2.index, .slice A6 s2.lits.length c6, .int .i64 s2.p, .int .i64 s2.q, .int .i64 s2.var] from rfl]
              have HO : Hid (∀ u ∈ ([.int .i64 s2.kind, .int .i64 s2.index, .slice A6 s2.lits.length c6, .int .i64 s2.p, .int .i64 s2.q, .int .i64 s2.var] : List Value), u.oneCell' = true) := by
                refine Lib.hid ?_
                intro u hu; simp at hu; rcases hu with rfl | rfl | rfl | rfl | rfl | rfl <;> rfl
              have H63 : Hid (qs.length + 1 ≤ maxLen) := by refine Lib.hid ?_; unfold maxLen; omega
              have HBY : Hid ((qs.length + 1) * 64 ≤ 140737488355328) := by refine Lib.hid ?_; omega
              have HBA : Hid (gp + 1 ≤ (w6.alloc (.cells #[.int .i64 s2.kind, .int .i64 s2.index, .slice A6 s2.lits.length c6, .int .i64 s2.p, .int .i64 s2.q, .int .i64 s2.var] 53)).heap.size) := by refine Lib.hid ?_; have := HT6.out.hi; simp; omega
              go_wp2_with (at_builtin; refine wpList_append_own_at _ rfl _ _ 30 rfl (gp + 1) 53 iT zT 6 64 Tryz.underlying30 hiT hzT0 hzT1 hzT2 rfl (by decide) _ _ _ rfl (HT6.out.os.1.alloc _) ⟨w6.heap.size, 0, none⟩ 1 1 [.int .i64 s2.kind, .int .i64 s2.index, .slice A6 s2.lits.length c6, .int .i64 s2.p, .int .i64 s2.q, .int .i64 s2.var] rfl rfl (cells_at w6 _ [.int .i64 s2.kind, .int .i64 s2.index, .slice A6 s2.lits.length c6, .int .i64 s2.p, .int .i64 s2.q, .int .i64 s2.var] rfl) HO.out H63.out HBY.out HBA.out ?_)
              intro v7 w7 hown hgrow _ hat
              have HT7 := Lib.hid (HT6.out.push (s := s2) (lv := .slice A6 s2.lits.length c6) HI6.out HSO.out hown hgrow (by simpa using hat))
              obtain ⟨A7, c7, e7, -, -, -⟩ := owns_rd hown
              subst e7
              clear hown hgrow hat HO H63 HBY HBA
              go_wp2_with fail
              go_roundw
              case rel => exact ⟨k + 1, qs ++ [(s2, .slice A6 s2.lits.length c6)], by omega, by go_num, by rw [HE.out, List.map_append, HQS.out]; rfl, by rw [HE.out]; exact HT7.out⟩
              case measure => simp [intOf]; omega
          · have HE : Hid (qs.map (·.1) = trim l) := Lib.hid (by rw [HQS.out, show k = l.length by have := HPL.out; omega]; rfl)
            have hlo := HT2.out.lo
            have hlt := HT2.out.lt
            have hW1 := HB1.out.size
            go_wp2_with fail
            go_ret2
            refine ⟨HB1.out.trans (HT2.out.bl.mono HB1.out.size), .inl ⟨HRF.out, _, qs, rfl, HE.out, ?_⟩⟩
            exact ⟨owns_base6 HT2.out.os.1 (by omega), fun q hq => ⟨(HT2.out.os.2 q hq).1.mono fun b _ hb => ⟨by have := hb.1; omega, hb.2⟩, (HT2.out.os.2 q hq).2⟩⟩
  · have HNR := Lib.hid hrf
    have hne : (chk (runS f [] l) l.length).2 ≠ 0 := fun h => HNR.out (chk_refutes h)
    generalize chk (runS f [] l) l.length = ck at *
    have dne : (ck.2 != 0) = true := by simpa using hne
    clear hne hrf
    go_wp2_with fail
    go_ret2
    exact ⟨HB1.out, .inr ⟨HNR.out, rfl⟩⟩
end Go.Proofs.YtfffalfnjficaaaGreatDoor
