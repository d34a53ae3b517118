/-
  WALK: interleavelaw33.ProofCores.
-/
import Derived.Test.YtdmndikenejhiaaCoreLaw
import Derived.Test.YtdmndikenejhiaaLawTrimAgain
import Derived.Test.YtdmndikenejhiaaLawChecks
import Derived.Deep.RegionLaw
namespace Go.Proofs.Ytdmndikenejhiaa
open Go.RowKit

/-- The formula of the core under way. -/
structure CG (w7 wr : World) (gg : Nat) (f : Form) (fa gc : Value) (us : List Value) : Prop where
  b : Blk wr gg 32 #[.int .i64 f.ints, .int .i64 f.bools, fa, gc]
  ow : wr.ownsRow (gg + 1) 43 1 gc us.length us
  lo : w7.heap.size ≤ gg
  hi : gg + 1 ≤ wr.heap.size
  bl : Below w7.heap.size w7 wr
theorem CG.push {w7 wr w' : World} {gg : Nat} {f : Form} {fa gc gc' u : Value} {us : List Value} {o : Obj} (h : CG w7 wr gg f fa gc us) (ho : w'.ownsRow (gg + 1) 43 1 gc' (us.length + 1) (us ++ [u])) (hg : (wr.alloc o).grownBy w' gc.ownBlock) :
    CG w7 (w'.setCell ⟨gg, 3, none⟩ gc') gg f fa gc' (us ++ [u]) ∧ Blk w' gg 32 #[.int .i64 f.ints, .int .i64 f.bools, fa, gc] := by
  have hlt : ∀ k, gc.ownBlock = some k → gg + 1 ≤ k ∧ k < wr.heap.size := fun k e => h.ow.lt k e
  have lo := h.lo
  have hb2 : Blk w' gg 32 #[.int .i64 f.ints, .int .i64 f.bools, fa, gc] := (h.b.alloc o).grown hg fun e => by have := hlt _ e.symm; omega
  have hset : w'.grownBy (w'.setCell ⟨gg, 3, none⟩ gc') (some gg) := grownBy_set0 _ _ _ _
  refine ⟨⟨hb2.set_ 3 gc', by rw [List.length_append]; exact ho.kept hset (own_ne ho (by omega)), h.lo, ?_, ?_⟩, hb2⟩
  · have h1 := hg.size; have h2 := h.hi; simp at h1 ⊢; omega
  · exact ((h.bl.alloc h.bl.size o).grown hg (by have := h.bl.size; simp; omega) fun k e => by have := hlt k e; omega).grown hset (by have h1 := hg.size; have h2 := h.bl.size; simp at h1; omega) fun k e => by injection e with e; omega

def mapTo (c : List Int) (i : Nat) (ps : List (Stp × Value)) : List (Stp × Value) := ((ps.take i).map fun p => (remap c p.1, p.2)) ++ ps.drop i
theorem mapTo_at {c : List Int} {i : Nat} {ps : List (Stp × Value)} {p : Stp × Value} (h : ps[i]? = some p) : (mapTo c i ps)[i]? = some p ∧ mapTo c (i + 1) ps = (mapTo c i ps).set i (remap c p.1, p.2) := by
  have hi := (List.getElem?_eq_some_iff.1 h).1
  have hl : ((ps.take i).map fun p => (remap c p.1, p.2)).length = i := by rw [List.length_map, List.length_take]; omega
  constructor
  · unfold mapTo
    rw [List.getElem?_append_right (by omega), hl, Nat.sub_self, List.getElem?_drop]
    exact h
  · unfold mapTo
    rw [List.set_append_right _ _ (by omega), hl, Nat.sub_self, take_succ_of h, List.map_append, List.append_assoc]
    refine congrArg _ ?_
    have e : ps.drop i = p :: ps.drop (i + 1) := by rw [List.drop_eq_getElem_cons hi, (List.getElem?_eq_some_iff.1 h).2]
    rw [e]; rfl
theorem mapTo_len (c : List Int) (i : Nat) (ps : List (Stp × Value)) : (mapTo c i ps).length = ps.length := by unfold mapTo; simp; omega
theorem mapTo_mem {c : List Int} {i : Nat} {ps : List (Stp × Value)} {r : Stp × Value} (h : r ∈ mapTo c i ps) : ∃ q ∈ ps, r.2 = q.2 ∧ r.1.lits = q.1.lits := by
  unfold mapTo at h
  rcases List.mem_append.1 h with h | h
  · obtain ⟨q, hq, rfl⟩ := List.mem_map.1 h
    refine ⟨q, List.mem_of_mem_take hq, rfl, ?_⟩
    simp only [remap]; split <;> rfl
  · exact ⟨r, List.mem_of_mem_drop h, rfl, rfl⟩

set_option maxRecDepth 100000 in
set_option maxHeartbeats 2000000 in
theorem lawCores (pv : Value) (a b c : Int) (L : List Int) (w : World) (hp : IsProb w pv a b c L) :
    Calls Try.prog 11 #[pv] w fun e w' => e = .returned (.bool true) ∧ Below w.heap.size w w' := by
  have HP := Lib.hid hp
  obtain ⟨nv, rfl, -, -, -, hL⟩ := hp
  obtain ⟨An, cn, rfl, -, -, -, -⟩ := hL
  have HB : Hid (Below w.heap.size w (w.alloc (.cells #[.int .u8 a, .int .u8 b, .int .u8 c, .slice An L.length cn] 25))) := (Below.refl _ _).alloc (Nat.le_refl _) _
  go_enter Try.func11, Try.ntmps11
  go_wp2_with fail
  generalize w.alloc (.cells #[.int .u8 a, .int .u8 b, .int .u8 c, .slice An L.length cn] 25) = W at *
  refine (small_any _ a b c L _ ?hp).mono ?_
  case hp => obtain ⟨nv, e1, e2⟩ := HP.out; exact ⟨_, rfl, e2.1, e2.2.1, e2.2.2.1, by injection e1 with e1; simp only [Array.mk.injEq, List.cons.injEq, and_true, true_and] at e1; rw [e1]; exact e2.2.2.2.keep HB.out⟩
  rintro e w2 ⟨fv, f, rfl, hf, hsm, hb2⟩
  have HB2 := Lib.hid (HB.out.trans (hb2.mono HB.out.size))
  have HF2 := Lib.hid hf
  have HSM := Lib.hid hsm
  obtain ⟨av, cv, rfl, -, -, hf3, hf4⟩ := hf
  obtain ⟨Aa, ca, rfl, -, -, -, -⟩ := hf3
  obtain ⟨Ac, cc, vs, rfl, -, -, -, -, -⟩ := hf4
  clear hb2 hsm
  have B1 := Blk.new w2 32 #[.int .i64 f.ints, .int .i64 f.bools, .slice Aa f.atoms.length ca, .slice Ac f.clauses.length cc]
  have hb3 : Below w2.heap.size w2 (w2.alloc (.cells #[.int .i64 f.ints, .int .i64 f.bools, .slice Aa f.atoms.length ca, .slice Ac f.clauses.length cc] 32)) := (Below.refl _ _).alloc (Nat.le_refl _) _
  go_wp2_with fail
  generalize w2.alloc (.cells #[.int .i64 f.ints, .int .i64 f.bools, .slice Aa f.atoms.length ca, .slice Ac f.clauses.length cc] 32) = w3 at *
  have HBK := Lib.hid B1
  have HF3 := Lib.hid (HF2.out.keep hb3)
  have HB3 := Lib.hid (HB2.out.trans (hb3.mono HB2.out.size))
  clear B1 hb3
  refine (refuteAll_any _ f _ HF3.out HSM.out.q HSM.out.ten).mono ?_
  rintro e w4 ⟨hb4, ⟨lv, l, rfl, hl, hrf, hl1, hl2⟩ | ⟨bv, iv, bs, xs, rfl, hB, hX, hbl, hxl, hfit, hcls, hxb⟩⟩
  · have HF4 := Lib.hid (HF3.out.keep hb4)
    have HB4 := Lib.hid (HB3.out.trans (hb4.mono HB3.out.size))
    have HBK4 := Lib.hid (HBK.out.keep hb4)
    have HL := Lib.hid hl
    have HRF := Lib.hid hrf
    have HL2 := Lib.hid hl2
    have hb5 : Below w4.heap.size w4 (w4.alloc (.cells #[.slice none 0 0, .slice none 0 0] 45)) := (Below.refl _ _).alloc (Nat.le_refl _) _
    have HF5 := Lib.hid (HF4.out.keep hb5)
    have HL5 := Lib.hid (HL.out.keep hb5)
    have HB5 := Lib.hid (HB4.out.trans (hb5.mono HB4.out.size))
    have HBK5 := Lib.hid (HBK4.out.keep hb5)
    clear hb4 hl hrf hl2 hb5
    go_upto_region 5 with fail
    generalize w4.alloc (.cells #[.slice none 0 0, .slice none 0 0] 45) = w5 at *
    have HAS : Hid (Asked f l) := Lib.hid (HSM.out.asked (by omega) (fun s hs => by have := HL2.out s hs; omega))
    have hll : l.length ≤ 20000 := hl1
    obtain ⟨A, cl, ps, e1, e2, -, -, -, -⟩ := HL5.out
    subst e2
    clear e1
    have q0 := HBK5.out.cell 0
    have q1 := HBK5.out.cell 1
    have q2 := HBK5.out.cell 2
    have q3 := HBK5.out.cell 3
    simp only [List.getElem?_toArray, List.getElem?_cons_zero, List.getElem?_cons_succ] at q0 q1 q2 q3
    go_wp2_with fail
    refine (core_any _ _ f l _ HF5.out HL5.out HAS.out).mono ?_
    rintro e w6 ⟨hb6, ⟨-, vc, c, rfl, hvc, hco⟩ | ⟨hno, -⟩⟩
    · have HB6 := Lib.hid (HB5.out.trans (hb6.mono HB5.out.size))
      have HF6 := Lib.hid (HF5.out.keep hb6)
      have HBK6 := Lib.hid (HBK5.out.keep hb6)
      have HL6 := Lib.hid (HL5.out.keep hb6)
      have HVC := Lib.hid hvc
      have HCO := Lib.hid hco
      obtain ⟨Av, cv', ev, hv1, hv2, -, -⟩ := hvc
      subst ev
      unfold maxLen at hv2
      clear hb6 hco q0 q1 q2 q3
      have q0 := HBK6.out.cell 0
      have q1 := HBK6.out.cell 1
      have q2 := HBK6.out.cell 2
      have q3 := HBK6.out.cell 3
      simp only [List.getElem?_toArray, List.getElem?_cons_zero, List.getElem?_cons_succ] at q0 q1 q2 q3
      go_wp2_with fail
      refine (trim_any _ _ f l _ HF6.out HL6.out HAS.out).mono ?_
      rintro e w7 ⟨hb7, ⟨-, vt, pt, rfl, hpt, hot⟩ | ⟨hno, -⟩⟩
      · have HB7 := Lib.hid (HB6.out.trans (hb7.mono HB6.out.size))
        have HF7 := Lib.hid (HF6.out.keep hb7)
        have HBK7 := Lib.hid (HBK6.out.keep hb7)
        have HVC7 := Lib.hid (HVC.out.keep hb7)
        have HPT := Lib.hid hpt
        have HST7 := Lib.hid hot.stps
        obtain ⟨Avt, cvt, evt, ht1, ht2, htr⟩ := owns_rd hot.1
        subst evt
        unfold maxLen at ht2
        have HRT := Lib.hid htr
        have HIT : Hid (∀ p ∈ pt, Ints w7 p.2 p.1.lits ∧ p.1.ok) := Lib.hid fun p hp => ⟨(hot.2 p hp).1.ints, (hot.2 p hp).2⟩
        have HTL : Hid (pt.length = (trim l).length) := Lib.hid (by rw [← hpt]; simp)
        have htl : pt.length ≤ 20000 := by have := HTL.out; have := (trim_refutes HRF.out).2; omega
        obtain ⟨hsc, hrc⟩ := core_small HSM.out HRF.out HCO.out
        have HSC := Lib.hid hsc
        have HRC := Lib.hid hrc
        have hcl40 : c.length ≤ 40 := by have h := hsc.2.2.2.1; simpa [coreF] using h
        have hfc : f.clauses.length ≤ 40 := HSM.out.2.2.2.1
        clear hb7 hpt hot htr hsc hrc q0 q1 q2 q3
        have q0 := HBK7.out.cell 0
        have q1 := HBK7.out.cell 1
        have q2 := HBK7.out.cell 2
        have q3 := HBK7.out.cell 3
        simp only [List.getElem?_toArray, List.getElem?_cons_zero, List.getElem?_cons_succ] at q0 q1 q2 q3
        have HCG0 : Hid (CG w7 (w7.alloc (.cells #[.int .i64 f.ints, .int .i64 f.bools, .slice Aa f.atoms.length ca, .slice none 0 0] 32)) w7.heap.size f (.slice Aa f.atoms.length ca) (.slice none 0 0) []) := Lib.hid ⟨Blk.new _ _ _, World.ownsRow_nil _ _ _ _, Nat.le_refl _, by simp, (Below.refl _ _).alloc (Nat.le_refl _) _⟩
        go_upto_region 10 with fail
        generalize w7.alloc (.cells #[.int .i64 f.ints, .int .i64 f.bools, .slice Aa f.atoms.length ca, .slice none 0 0] 32) = W8 at *
        obtain ⟨gg, hgg⟩ : ∃ gg, gg = w7.heap.size := ⟨_, rfl⟩
        rw [← hgg] at HCG0 ⊢
        have HGG := Lib.hid hgg
        obtain ⟨iS, hiS, hzS0, hzS1, hzS2⟩ := info_parts info_ints
        obtain ⟨iT, hiT, hzT0, hzT1, hzT2⟩ := info_parts info_step
        clear q0 q1 q2 q3 hgg
        go_wp2_with fail
        go_loopw [57] (fun i wr => ∃ (k : Nat) (gc : Value) (us : List Value), k ≤ c.length ∧ i = .int .i64 k ∧ us.length = k ∧ (∀ (j : Nat) (u : Value) (x : Int), us[j]? = some u → c[j]? = some x → Ints w7 u (f.clauses.getD x.toNat [])) ∧ CG w7 wr gg f (.slice Aa f.atoms.length ca) gc us) (fun i _ => c.length - (intOf i).toNat)
        case atStart => exact ⟨0, _, [], by omega, rfl, rfl, by simp, HCG0.out⟩
        case round =>
          obtain ⟨k, gc, us, hk, rfl, hul, huk, hcg⟩ := hrel
          have HUL := Lib.hid hul
          have HUK := Lib.hid huk
          have HCG := Lib.hid hcg
          obtain ⟨Ag, cg, eg, -, -, -⟩ := owns_rd hcg.ow
          subst eg
          clear hul huk hcg HCG0
          by_cases hkc : k < c.length
          · obtain ⟨x, hx⟩ : ∃ x, c[k]? = some x := ⟨_, List.getElem?_eq_getElem hkc⟩
            obtain ⟨x0, x1⟩ := HRC.out x (List.mem_of_getElem? hx)
            obtain ⟨n, hn⟩ : ∃ n : Nat, x = n := ⟨x.toNat, by omega⟩
            subst hn
            obtain ⟨A1, c1, ev, -, -, -, hr1⟩ := HVC7.out.keep HCG.out.bl
            injection ev with e1 _ e2
            subst e1 e2
            obtain ⟨b1, o1, rfl, hb1, hc1⟩ := hr1.int hx
            have hn' : n < f.clauses.length := by omega
            obtain ⟨zc, hzc⟩ : ∃ zc, f.clauses[n]? = some zc := ⟨_, List.getElem?_eq_getElem hn'⟩
            obtain ⟨av2, cv2, ee, -, -, -, hmat⟩ := HF7.out
            injection ee with ee
            simp only [Array.mk.injEq, List.cons.injEq, and_true, true_and] at ee
            obtain ⟨-, ee⟩ := ee
            subst ee
            obtain ⟨Am, cm, vm, em, hm1, hm2, hm3, hm4, hm5⟩ := hmat
            injection em with em1 _ em2
            subst em1 em2
            obtain ⟨bm, om, Az, cz, rfl, hbm, hcm, hiz⟩ := Mat.at_ hm4 hm3 hm5 hzc
            have hcmr : wr.cell? ⟨bm, om + n, none⟩ = some (.slice Az zc.length cz) := (HCG.out.bl.cell (p := ⟨bm, om + n, none⟩) hbm).trans hcm
            have HUK2 : Hid (∀ (j : Nat) (u : Value) (x : Int), (us ++ [.slice Az zc.length cz])[j]? = some u → c[j]? = some x → Ints w7 u (f.clauses.getD x.toNat [])) := Lib.hid fun j u y hu hy => by
              by_cases hj : j < us.length
              · rw [List.getElem?_append_left hj] at hu
                exact HUK.out j u y hu hy
              · have hjk : j = k := by
                  have h1 := (List.getElem?_eq_some_iff.1 hu).1
                  have := HUL.out
                  simp at h1; omega
                subst hjk
                rw [List.getElem?_append_right (by have := HUL.out; omega), HUL.out, Nat.sub_self] at hu
                simp at hu; subst hu
                rw [hx] at hy; injection hy with hy; subst hy
                rw [Int.toNat_natCast, List.getD_eq_getElem?_getD, hzc]
                exact hiz
            have q3 := (HBK7.out.below HCG.out.bl HBK7.out.lt).cell 3
            have g3 := HCG.out.b.cell 3
            simp only [List.getElem?_toArray, List.getElem?_cons_zero, List.getElem?_cons_succ] at q3 g3
            have HO1 : Hid (∀ u ∈ ([.slice Az zc.length cz] : List Value), u.oneCell' = true) := by
              refine Lib.hid ?_
              intro u hu; simp at hu; subst hu; rfl
            have HM1 : Hid (us.length + 1 ≤ maxLen) := by refine Lib.hid ?_; have := HUL.out; unfold maxLen; omega
            have HM2 : Hid ((us.length + 1) * 24 ≤ 140737488355328) := by refine Lib.hid ?_; have := HUL.out; omega
            have HM3 : Hid (gg + 1 ≤ (wr.alloc (.cells #[.slice Az zc.length cz] 43)).heap.size) := by refine Lib.hid ?_; have := HCG.out.hi; simp; omega
            have HN : Hid (∀ j u, [.slice Az zc.length cz][j]? = some u → (wr.alloc (.cells #[.slice Az zc.length cz] 43)).cell? ((⟨wr.heap.size, 0, none⟩ : Addr).add j) = some u) := one_at wr _ _
            have g3a := (HCG.out.b.alloc (.cells #[.slice Az zc.length cz] 43)).cell 3
            have z3a := (HCG.out.b.alloc (.cells #[.slice Az zc.length cz] 43)).frozen 3
            simp only [List.getElem?_toArray, List.getElem?_cons_zero, List.getElem?_cons_succ] at g3a
            have j0 : (0 : Int) ≤ (n : Int) := by omega
            have j1 : (n : Int) < (f.clauses.length : Int) := by omega
            clear hx hr1 hzc hm3 hm4 hm5 hcm hiz
            go_upto_region 15 with fail
            go_region_law (refine step_append_own_at rfl (.tmp 71) (.tmp 77) 30 rfl (gg + 1) 43 iS (.slice none 0 0) 1 24 Try.underlying30 hiS hzS0 hzS1 hzS2 rfl (by decide) (.slice Ag us.length cg) us.length us (by simp [Act.eval]) (HCG.out.ow.alloc _).drew ⟨wr.heap.size, 0, none⟩ 1 1 [.slice Az zc.length cz] (by simp [Act.eval]) rfl HN.out HO1.out HM1.out HM2.out HM3.out ?_; intro v' w2' hown hg hat; obtain ⟨A', c', hv', -, -, -⟩ := owns_rd hown; subst hv'; obtain ⟨hrf, hb2⟩ := HCG.out.push hown (show (wr.alloc _).grownBy w2' _ from ⟨hg.os, hg.tape, hg.output, hg.size, hg.block⟩); have HRG := Lib.hid hrf; have c5 := hb2.cell 3; have z5 := hb2.frozen 3; simp only [List.getElem?_toArray, List.getElem?_cons_zero, List.getElem?_cons_succ] at c5; clear hrf hb2 hown hg hat)
            all_goals
              go_wp2_with fail
              go_roundw
              case rel => exact ⟨k + 1, _, us ++ [.slice Az zc.length cz], by omega, by go_num, by rw [List.length_append, HUL.out]; rfl, HUK2.out, HRG.out⟩
              case measure => simp [intOf]; omega
          · have HKC : Hid (us.length = c.length) := Lib.hid (by have := HUL.out; omega)
            have HGF : Hid (IsForm wr (.agg #[.int .i64 f.ints, .int .i64 f.bools, .slice Aa f.atoms.length ca, .slice Ag us.length cg]) (coreF f c)) := Lib.hid (by
              obtain ⟨av2, cv2, ee, g1, g2, g3, -⟩ := HF7.out.keep HCG.out.bl
              injection ee with ee
              simp only [Array.mk.injEq, List.cons.injEq, and_true, true_and] at ee
              obtain ⟨ee1, -⟩ := ee
              subst ee1
              obtain ⟨Ar, cr, er, r1, r2, r3⟩ := owns_rd HCG.out.ow
              have hlen : (coreF f c).clauses.length = us.length := by rw [HKC.out]; simp [coreF]
              refine ⟨_, _, rfl, g1, g2, g3, Ar, cr, us, by rw [er, hlen], by rw [hlen]; exact r1, r2, hlen.symm, r3, fun j u zs hu hz => ?_⟩
              have hj : j < c.length := by have := (List.getElem?_eq_some_iff.1 hu).1; have := HKC.out; omega
              have h : (coreF f c).clauses[j]? = some (f.clauses.getD (c[j]).toNat []) := by
                show (c.map fun i => f.clauses.getD i.toNat [])[j]? = _
                rw [List.getElem?_map, List.getElem?_eq_getElem hj]; rfl
              rw [h] at hz
              injection hz with hz
              rw [← hz]
              exact (HUK.out j u c[j] hu (List.getElem?_eq_getElem hj)).keep HCG.out.bl)
            have HGB := Lib.hid HCG.out.b
            have HB8 := Lib.hid (HB7.out.trans (HCG.out.bl.mono HB7.out.size))
            have HVC8 := Lib.hid (HVC7.out.keep HCG.out.bl)
            have HRT8 := Lib.hid (HRT.out.keep HCG.out.bl)
            have HIT8 : Hid (∀ p ∈ pt, Ints wr p.2 p.1.lits ∧ p.1.ok) := Lib.hid fun p hp => ⟨(HIT.out p hp).1.keep HCG.out.bl, (HIT.out p hp).2⟩
            have HLN := Lib.hid (cells_len pt)
            have HON := Lib.hid (cells_one HIT.out)
            have H63 : Hid (0 + pt.length ≤ maxLen) := by refine Lib.hid ?_; unfold maxLen; omega
            have HBY : Hid ((0 + pt.length) * 64 ≤ 140737488355328) := by refine Lib.hid ?_; omega
            have hpt0 : 0 < pt.length := by have := HTL.out; obtain ⟨⟨_, _, h, _⟩, _⟩ := trim_refutes HRF.out; omega
            obtain ⟨wo, hwo⟩ : ∃ wo : World, wo = wr := ⟨_, rfl⟩
            subst hwo
            go_wp2_with (at_builtin; refine wpList_append_rd _ rfl _ _ 26 rfl wo.heap.size 50 iT zT 6 64 Try.underlying26 hiT hzT0 hzT1 hzT2 rfl (by decide) (.slice none 0 0) 0 [] rfl (World.ownsRow_nil _ _ _ _) Avt pt.length cvt (pt.flatMap Stp.cells) rfl HLN.out HRT8.out HON.out H63.out HBY.out (Nat.le_refl _) ?_)
            intro v9 w9 hown hgrow hat
            obtain ⟨g, cap, ev9⟩ : ∃ g cap, v9 = .slice (some ⟨g, 0, none⟩) pt.length cap := by
              rcases owns_shape hown with ⟨_, h0, _⟩ | h
              · omega
              · exact h
            subst ev9
            have hb9 : Below wo.heap.size wo w9 := grownBy_below hgrow (Nat.le_refl _) (fun k e => by cases e)
            have HO9 : Hid (OS wo w9 g cap pt) := ⟨hown, fun p hp => ⟨(HIT8.out p hp).1.keep hb9, (HIT8.out p hp).2⟩, hb9⟩
            have hgl := HO9.out.lo
            have HX9 : Hid (∀ r ∈ pt, IntsO w9 (fun b => b ≠ g) r.2 r.1.lits) := Lib.hid fun r hr => (((HIT8.out r hr).1.intsO (P := fun b => b < wo.heap.size) fun b hb => hb).keep hb9).mono fun b _ hb => by omega
            obtain ⟨-, -, ec1, ec2, -⟩ := rd_of_row hown
            unfold maxLen at ec2
            have HGL := Lib.hid hgl
            clear hown hgrow hat hb9 hgl HON H63 HBY HLN
            go_wp2_with fail
            go_loopw [85] (fun i wr => ∃ k : Nat, k ≤ pt.length ∧ i = .int .i64 k ∧ OS wo wr g cap (mapTo c k pt) ∧ ∀ r ∈ mapTo c k pt, IntsO wr (fun b => b ≠ g) r.2 r.1.lits) (fun i _ => pt.length - (intOf i).toNat)
            case atStart => exact ⟨0, by omega, rfl, by simpa [mapTo] using HO9.out, by simpa [mapTo] using HX9.out⟩
            case round =>
              obtain ⟨i, hi, rfl, hos, hxo⟩ := hrel
              have HOS := Lib.hid hos
              have HXO := Lib.hid hxo
              clear hos hxo HO9 HX9
              by_cases hip : i < pt.length
              · obtain ⟨⟨s, sv⟩, hp⟩ : ∃ p, pt[i]? = some p := ⟨_, List.getElem?_eq_getElem hip⟩
                obtain ⟨hm1, hm2⟩ := mapTo_at (c := c) hp
                have HM1 := Lib.hid hm1
                have HM2 := Lib.hid hm2
                have HSM2 : Hid (s ∈ trim l) := Lib.hid (by rw [← HPT.out]; exact List.mem_map.2 ⟨(s, sv), List.mem_of_getElem? hp, rfl⟩)
                have HPO := Lib.hid (HIT.out (s, sv) (List.mem_of_getElem? hp)).2
                clear hm1 hm2 hp
                obtain ⟨wi, hwi⟩ : ∃ wi : World, wi = wr := ⟨_, rfl⟩
                subst hwi
                go_wp2_with fail
                go_loopw [90] (fun q wr => ∃ k : Nat, k ≤ c.length ∧ q = .int .i64 k ∧ (∀ y ∈ c.take k, ¬ (s.kind = 1 ∧ s.index = y)) ∧ wr = wi) (fun q _ => c.length - (intOf q).toNat)
                case atStart => exact ⟨0, by omega, rfl, by simp, rfl⟩
                case round =>
                  obtain ⟨k, hk', rfl, hnn, rfl⟩ := hrel
                  have HNN := Lib.hid hnn
                  clear hnn
                  by_cases hkc2 : k < c.length
                  · obtain ⟨y, hy⟩ : ∃ y, c[k]? = some y := ⟨_, List.getElem?_eq_getElem hkc2⟩
                    obtain ⟨A1, c1, ev, -, -, -, hr1⟩ := HVC8.out.keep HOS.out.bl
                    injection ev with e1 _ e2
                    subst e1 e2
                    obtain ⟨b1, o1, rfl, hb1, hc1⟩ := hr1.int hy
                    have HY := Lib.hid hy
                    have hml : (mapTo c i pt).length = pt.length := mapTo_len c i pt
                    have hc0 : wr.cell? ⟨g, i * 6, none⟩ = some (.int .i64 s.kind) := by
                      have h := HOS.out.o.cellAt (i * 6 + 0) (by rw [hml]; omega)
                      rw [cells_get (k := 0) HM1.out rfl] at h; simpa using h
                    have hc2 : wr.cell? ⟨g, i * 6 + 1, none⟩ = some (.int .i64 s.index) := by
                      rw [HOS.out.o.cellAt (i * 6 + 1) (by rw [hml]; omega)]
                      exact cells_get HM1.out rfl
                    have hz := HOS.out.o.frozenAt (i * 6 + 1)
                    have next : ¬ (s.kind = 1 ∧ s.index = y) → Hid (∀ y ∈ c.take (k + 1), ¬ (s.kind = 1 ∧ s.index = y)) := fun hn => Lib.hid fun x hx => by
                      rw [take_succ_of HY.out] at hx
                      rcases List.mem_append.1 hx with hx | hx
                      · exact HNN.out x hx
                      · simp at hx; subst hx; exact hn
                    clear hy hr1 hml
                    by_cases h1 : s.kind = 1
                    · have d1 : (s.kind == 1) = true := by simp [h1]
                      by_cases h2 : s.index = y
                      · have d2 : (s.index == y) = true := by simp [h2]
                        have hpl : place c s.index = k := place_first (by rw [h2]; exact HY.out) fun z hz e => HNN.out z hz ⟨h1, e.symm⟩
                        have HRM : Hid (remap c s = { s with index := (k : Int) }) := Lib.hid (by unfold remap; rw [if_pos h1, hpl])
                        have HOS2 : Hid (OS wo (wr.setCell ⟨g, i * 6 + 1, none⟩ (.int .i64 (k : Int))) g cap (mapTo c (i + 1) pt)) := Lib.hid (by
                          rw [HM2.out, HRM.out]
                          have h := HOS.out.set_ (k := 1) (q := ({ s with index := (k : Int) }, sv)) (u := .int .i64 (k : Int)) HM1.out (by omega) rfl (by obtain ⟨o1, o2, o3, o4, o5⟩ := HPO.out; exact ⟨o1, ⟨by simp only; omega, by simp only; omega⟩, o3, o4, o5⟩) (fun r hr => by
                            rcases List.mem_cons.1 hr with rfl | hr
                            · exact HXO.out (s, sv) (List.mem_of_getElem? HM1.out)
                            · exact HXO.out r hr)
                          have hl : ((mapTo c i pt).set i ({ s with index := (k : Int) }, sv)).length = (mapTo c i pt).length := by simp
                          exact h)
                        have HXO2 : Hid (∀ r ∈ mapTo c (i + 1) pt, IntsO (wr.setCell ⟨g, i * 6 + 1, none⟩ (.int .i64 (k : Int))) (fun b => b ≠ g) r.2 r.1.lits) := Lib.hid fun r hr => by
                          rw [HM2.out] at hr
                          rcases List.mem_or_eq_of_mem_set hr with hr | rfl
                          · exact (HXO.out r hr).grown (grownBy_set0 _ _ _ _) fun b hb e => hb (by injection e)
                          · rw [HRM.out]
                            exact (HXO.out (s, sv) (List.mem_of_getElem? HM1.out)).grown (grownBy_set0 _ _ _ _) fun b hb e => hb (by injection e)
                        clear h1 h2 hpl next
                        go_wp2_with fail
                        exact ⟨⟨i + 1, by omega, by go_num, HOS2.out, HXO2.out⟩, by simp [intOf]; omega⟩
                      · have d2 : (s.index == y) = false := by simp [h2]
                        have HN2 := next fun h => h2 h.2
                        clear h1 h2 next
                        go_wp2_with fail
                        go_roundw
                        case rel => exact ⟨k + 1, by omega, by go_num, HN2.out, trivial⟩
                        case measure => simp [intOf]; omega
                    · have d1 : (s.kind == 1) = false := by simp [h1]
                      have HN2 := next fun h => h1 h.1
                      clear h1 next
                      go_wp2_with fail
                      go_roundw
                      case rel => exact ⟨k + 1, by omega, by go_num, HN2.out, trivial⟩
                      case measure => simp [intOf]; omega
                  · have HRM : Hid (mapTo c (i + 1) pt = mapTo c i pt) := Lib.hid (by
                      have hk1 : ¬ s.kind = 1 := fun h1 => by
                        have hin : s.index ∈ c := (HCO.out.2 _).2 ⟨s, HSM2.out, h1, rfl⟩
                        exact HNN.out s.index (by rw [List.take_of_length_le (by omega)]; exact hin) ⟨h1, rfl⟩
                      rw [HM2.out]
                      unfold remap
                      rw [if_neg hk1]
                      refine List.ext_getElem? fun q => ?_
                      rw [List.getElem?_set]
                      split
                      · rename_i e; subst e
                        rw [if_pos (List.getElem?_eq_some_iff.1 HM1.out).1, HM1.out]
                      · rfl)
                    go_wp2_with fail
                    exact ⟨⟨i + 1, by omega, by go_num, by rw [HRM.out]; exact HOS.out, by rw [HRM.out]; exact HXO.out⟩, by simp [intOf]; omega⟩
              · have HFN : Hid ((mapTo c i pt).map (·.1) = (trim l).map (remap c)) := Lib.hid (by
                  unfold mapTo
                  rw [List.take_of_length_le (by omega), List.drop_eq_nil_of_le (by omega), List.append_nil, List.map_map, ← HPT.out, List.map_map]
                  rfl)
                have HSW : Hid (Stps wr (.slice (some ⟨g, 0, none⟩) pt.length cap) ((trim l).map (remap c))) := Lib.hid (by
                  have h := HOS.out.stps
                  rw [mapTo_len, HFN.out] at h
                  exact h)
                have HASC : Hid (Asked (coreF f c) ((trim l).map (remap c))) := Lib.hid (HSC.out.asked (by simp; have := HTL.out; omega) (fun s hs => by
                  obtain ⟨s', hs', rfl⟩ := List.mem_map.1 hs
                  have h := trim_lits HRF.out HL2.out s' hs'
                  have e : (remap c s').lits = s'.lits := by unfold remap; split <;> rfl
                  rw [e]; omega))
                have HRFC := Lib.hid (core_refutes HRF.out HCO.out)
                have B9 := HGB.out.keep HOS.out.bl
                have q0 := B9.cell 0
                have q1 := B9.cell 1
                have q2 := B9.cell 2
                have q3 := B9.cell 3
                simp only [List.getElem?_toArray, List.getElem?_cons_zero, List.getElem?_cons_succ] at q0 q1 q2 q3
                have HB9 := Lib.hid (HB8.out.trans (HOS.out.bl.mono HB8.out.size))
                go_wp2_with fail
                refine (pcheck_any _ _ (coreF f c) _ _ (HGF.out.keep HOS.out.bl) HSW.out HASC.out).mono ?_
                rintro e w10 ⟨rfl, hb10⟩
                rw [HRFC.out.chk]
                have HB10 := Lib.hid (HB9.out.trans (hb10.mono HB9.out.size))
                clear hb10 q0 q1 q2 q3 B9
                go_wp2_with fail
                refine (awake33 _).mono ?_
                rintro e wz ⟨rfl, hbz⟩
                have HBZ := Lib.hid (HB10.out.trans (hbz.mono HB10.out.size))
                clear hbz
                go_wp2_with fail
                go_ret
                exact ⟨rfl, HBZ.out⟩
      · exact absurd HRF.out hno
    · exact absurd HRF.out hno
  · have HB4 := Lib.hid (HB3.out.trans (hb4.mono HB3.out.size))
    have HB5 : Hid (Below w.heap.size w (w4.alloc (.cells #[bv, iv] 45))) := Lib.hid (HB4.out.alloc HB4.out.size _)
    obtain ⟨Ab, cb, rfl, -, -, -⟩ := hB
    obtain ⟨Ai, ci, rfl, -, -, -, -⟩ := hX
    clear hb4 hfit hcls hxb hbl hxl
    go_wp2_with fail
    refine (awake33 _).mono ?_
    rintro e wz ⟨rfl, hbz⟩
    have HBZ := Lib.hid (HB5.out.trans (hbz.mono HB5.out.size))
    clear hbz
    go_wp2_with fail
    go_ret
    exact ⟨rfl, HBZ.out⟩
end Go.Proofs.Ytdmndikenejhiaa
