/-
  WALKS: interleaveref31.Check; interleavelaw33.sameClauses and clauses.
-/
import Derived.Test.YtdmndikenejhiaaClausesRef
import Derived.Test.YtdmndikenejhiaaSame
namespace Go.Proofs.Ytdmndikenejhiaa
open Go.RowKit

set_option maxRecDepth 100000 in
set_option maxHeartbeats 1000000 in
theorem rcheck_any (fv lv : Value) (f : Form) (l : List Stp) (w : World) (hf : IsForm w fv f) (hl : Stps w lv l) (hq : Asked f l) :
    Calls Try.prog 16 #[fv, lv] w (ChkRet w (chk (runS f [] l) l.length)) := by
  have HF := Lib.hid hf
  have HQ := Lib.hid hq
  have HL := Lib.hid hl
  obtain ⟨av, cv, rfl, -, -, hf3, hf4⟩ := hf
  obtain ⟨Aa, ca, rfl, -, -, -, -⟩ := hf3
  obtain ⟨Ac, cc, vs, rfl, -, -, -, -, -⟩ := hf4
  obtain ⟨A, c, ps, hps, rfl, l1, l2, -, -⟩ := hl
  have hpl : ps.length = l.length := by rw [hps]; simp
  have HPL := Lib.hid hpl
  unfold maxLen at l2
  have hpn : ps.length ≤ 100000 := by have := hq.2.2.1; omega
  clear hq hps hpl
  have HB : Hid (Below w.heap.size w (w.alloc (.cells #[.int .i64 f.ints, .int .i64 f.bools, .slice Aa f.atoms.length ca, .slice Ac f.clauses.length cc] 32))) := (Below.refl _ _).alloc (Nat.le_refl _) _
  go_enter Try.func16, Try.ntmps16
  go_wp2_with fail
  refine (rclauses_any _ _ f l _ (HF.out.keep HB.out) (HL.out.keep HB.out) HQ.out).mono ?_
  rintro e w2 hret
  cases hr : runS f [] l with
  | mk cs ok =>
    have HR := Lib.hid hr
    rw [hr] at hret
    rcases hret with ⟨h1, v, rfl, us, hom, hb⟩ | ⟨h1, rfl, hb⟩
    · simp only at h1
      subst h1
      have hcl : cs.length = ps.length := by have := runS_len (f := f) l [] (by rw [hr]); rw [hr] at this; simpa [HPL.out] using this
      have hul : us.length = ps.length := by rw [hom.2.1]; exact hcl
      have HB2 := Lib.hid (HB.out.trans (hb.mono HB.out.size))
      have HM := Lib.hid hom.mat
      obtain ⟨Ax, cx, hx, -, -, hrd⟩ := owns_rd hom.1
      subst hx
      have HOM := Lib.hid hom
      have HRD := Lib.hid hrd
      have HCL := Lib.hid hcl
      have HUL := Lib.hid hul
      clear hr hb hom hrd hcl hul
      by_cases h0 : ps.length = 0
      · have d0 : ((ps.length : Int) == 0) = true := by simp; exact List.eq_nil_of_length_eq_zero h0
        have HC : Hid (chk (runS f [] l) l.length = ((ps.length : Int), 15)) := by refine Lib.hid ?_; rw [HR.out, ← HPL.out]; unfold chk; rw [if_pos rfl, if_pos (.inl h0)]
        clear h0
        go_wp2_with fail
        go_ret2
        exact ⟨by rw [HC.out]; rfl, HB2.out⟩
      · have d0 : ((ps.length : Int) == 0) = false := by simp; intro h; exact h0 (by rw [h]; rfl)
        obtain ⟨c, hc⟩ : ∃ c, cs[ps.length - 1]? = some c := ⟨_, List.getElem?_eq_getElem (by have := HCL.out; omega)⟩
        obtain ⟨A', c', vs', hv', m1, m2, m3, m4, m5⟩ := HM.out
        injection hv' with e1 e2 e3
        subst e1 e3
        obtain ⟨b, off, A1, c1, rfl, hb, hcell, hI⟩ := Mat.at_ m4 m3 m5 hc
        have HD : Hid (cs.getD (ps.length - 1) [] = c) := by refine Lib.hid ?_; simp [List.getD, hc]
        have hps0 : 1 ≤ ps.length := by omega
        have huI : Hid (us.length = ps.length) := HUL.out
        have hidx : ((ps.length : Int) - 1).toNat = ps.length - 1 := by omega
        have hlt : (ps.length : Int) - 1 < (us.length : Int) := by have := HUL.out; omega
        clear m1 m2 m3 m4 m5 hc hI e2
        by_cases hc0 : c = []
        · subst hc0
          have HC : Hid (chk (runS f [] l) l.length = (0, 0)) := by refine Lib.hid ?_; rw [HR.out, ← HPL.out]; unfold chk; rw [if_pos rfl, if_neg (by rw [HD.out]; exact fun h => h.elim h0 fun h => h rfl)]
          simp only [List.length_nil] at hcell
          clear h0
          go_wp2_with fail
          go_ret2
          exact ⟨by rw [HC.out]; rfl, HB2.out⟩
        · have HC : Hid (chk (runS f [] l) l.length = ((ps.length : Int), 15)) := by refine Lib.hid ?_; rw [HR.out, ← HPL.out]; unfold chk; rw [if_pos rfl, if_pos (.inr (by rw [HD.out]; exact hc0))]
          have hcl : 0 < c.length := List.length_pos_iff.2 hc0
          have dc : decide ((0 : Int) < (c.length : Int)) = true := by simp; omega
          have dc' : decide (0 < c.length) = true := by simp; omega
          clear h0 hc0
          go_wp2_with fail
          go_ret2
          exact ⟨by rw [HC.out]; rfl, HB2.out⟩
    · simp only at h1
      subst h1
      have HB2 := Lib.hid (HB.out.trans (hb.mono HB.out.size))
      have HC : Hid (chk (runS f [] l) l.length = ((cs.length : Int), 15)) := by refine Lib.hid ?_; rw [HR.out]; rfl
      have dn : decide ((0 : Int) ≤ (cs.length : Int)) = true := by simp
      clear hr hb
      go_wp2_with fail
      go_ret2
      exact ⟨by rw [HC.out]; rfl, HB2.out⟩

set_option maxRecDepth 100000 in
set_option maxHeartbeats 1000000 in
theorem sameCl_any (av bv : Value) (xss : List (List Int)) (w : World) (ha : Mat w av xss) (hb : Mat w bv xss) :
    Calls Try.prog 34 #[av, bv] w fun e w' => e = .returned (.bool true) ∧ Below w.heap.size w w' := by
  obtain ⟨A1, c1, vs1, rfl, a1, a2, a3, a4, a5⟩ := ha
  obtain ⟨A2, c2, vs2, rfl, b1, b2, b3, b4, b5⟩ := hb
  unfold maxLen at a2 b2
  have HA3 := Lib.hid a3
  have HA4 := Lib.hid a4
  have HA5 := Lib.hid a5
  have HB3 := Lib.hid b3
  have HB4 := Lib.hid b4
  have HB5 := Lib.hid b5
  have d0 : ((xss.length : Int) != (xss.length : Int)) = false := by simp
  clear a3 a4 a5 b3 b4 b5
  go_enter Try.func34, Try.ntmps34
  go_wp2_with fail
  go_loopw [13] (fun i wr => ∃ k : Nat, k ≤ xss.length ∧ i = .int .i64 k ∧ Below w.heap.size w wr) (fun i _ => xss.length - (intOf i).toNat)
  case atStart => exact ⟨0, by omega, rfl, Below.refl _ _⟩
  case round =>
    obtain ⟨k, hk, rfl, hbl⟩ := hrel
    have HBL := Lib.hid hbl
    clear hbl
    by_cases hlt : k < xss.length
    · obtain ⟨xs, hxs⟩ : ∃ x, xss[k]? = some x := ⟨_, List.getElem?_eq_getElem hlt⟩
      obtain ⟨b, o, A', c', rfl, hb, hc, hI⟩ := Mat.at_ (HA4.out.keep HBL.out) HA3.out (fun k u xs a b => (HA5.out k u xs a b).keep HBL.out) hxs
      obtain ⟨b', o', A'', c'', rfl, hb', hc', hI'⟩ := Mat.at_ (HB4.out.keep HBL.out) HB3.out (fun k u xs a b => (HB5.out k u xs a b).keep HBL.out) hxs
      have HI := Lib.hid hI
      have HI' := Lib.hid hI'
      have HT : Hid (decide (xs = xs) = true) := by refine Lib.hid ?_; simp
      have HS : Hid (∀ n, Calls Try.prog 30 #[.slice A' xs.length c', .slice A'' xs.length c''] (wr.drewN n) fun e w' => e = .returned (.bool true) ∧ ∃ m, w' = (wr.drewN n).drewN m) := fun n => by
        have h := same_any (.slice A' xs.length c') (.slice A'' xs.length c'') xs xs (wr.drewN n) (HI.out.keep (bdrew (Below.refl _ _) n)) (HI'.out.keep (bdrew (Below.refl _ _) n))
        rwa [HT.out] at h
      clear hxs hI hI'
      go_wp2_with fail
      go_quiet ((go_at_call 30; exact Calls.quiet_of (HS.out _)))
      go_wp2_with fail
      go_roundw
      case rel => exact ⟨k + 1, by omega, by go_num, bdrew HBL.out _⟩
      case measure => simp [intOf]; omega
    · go_wp2_with fail
      go_ret
      exact ⟨rfl, HBL.out⟩

set_option maxRecDepth 100000 in
set_option maxHeartbeats 1000000 in
theorem lclauses_any (fv lv : Value) (f : Form) (l : List Stp) (w : World) (hf : IsForm w fv f) (hl : Stps w lv l) (hq : Asked f l) :
    Calls Try.prog 17 #[fv, lv] w fun e w' => e = .returned (.bool true) ∧ Below w.heap.size w w' := by
  have HF := Lib.hid hf
  have HQ := Lib.hid hq
  have HL := Lib.hid hl
  obtain ⟨av, cv, rfl, -, -, hf3, hf4⟩ := hf
  obtain ⟨Aa, ca, rfl, -, -, -, -⟩ := hf3
  obtain ⟨Ac, cc, vs, rfl, -, -, -, -, -⟩ := hf4
  obtain ⟨A, c, ps, hps, rfl, l1, l2, -, -⟩ := hl
  unfold maxLen at l2
  have hpl : ps.length = l.length := by rw [hps]; simp
  have HPL := Lib.hid hpl
  have hpn : ps.length ≤ 100000 := by have := hq.2.2.1; omega
  clear hq hps hpl
  have HB : Hid (Below w.heap.size w (w.alloc (.cells #[.int .i64 f.ints, .int .i64 f.bools, .slice Aa f.atoms.length ca, .slice Ac f.clauses.length cc] 32))) := (Below.refl _ _).alloc (Nat.le_refl _) _
  have B0 := Blk.new w 32 #[.int .i64 f.ints, .int .i64 f.bools, .slice Aa f.atoms.length ca, .slice Ac f.clauses.length cc]
  go_enter Try.func17, Try.ntmps17
  go_wp2_with fail
  generalize w.alloc (.cells #[.int .i64 f.ints, .int .i64 f.bools, .slice Aa f.atoms.length ca, .slice Ac f.clauses.length cc] 32) = W at *
  have HB0 := Lib.hid B0
  clear B0
  refine (pclauses_any _ _ f l _ (HF.out.keep HB.out) (HL.out.keep HB.out) HQ.out).mono ?_
  rintro e w2 hret
  cases hr : runS f [] l with
  | mk cs ok =>
    have HR := Lib.hid hr
    rw [hr] at hret
    have hb2 : Below W.heap.size W w2 := by
      rcases hret with ⟨_, _, _, _, _, h⟩ | ⟨_, _, h⟩ <;> exact h
    have HB2 := Lib.hid (HB.out.trans (hb2.mono HB.out.size))
    have B2 := HB0.out.keep hb2
    have q0 := B2.cell 0
    have q1 := B2.cell 1
    have q2 := B2.cell 2
    have q3 := B2.cell 3
    simp only [List.getElem?_toArray, List.getElem?_cons_zero, List.getElem?_cons_succ] at q0 q1 q2 q3
    clear hr hb2 B2
    rcases hret with ⟨h1, v, rfl, us, hom, hb⟩ | ⟨h1, rfl, hb⟩
    · simp only at h1
      subst h1
      have HM := Lib.hid hom.mat
      clear hb hom
      go_wp2_with fail
      refine (rclauses_any _ _ f l _ (HF.out.keep HB2.out) (HL.out.keep HB2.out) HQ.out).mono ?_
      rintro e w3 hret
      rw [HR.out] at hret
      rcases hret with ⟨h1, v', rfl, us', hom', hb'⟩ | ⟨h1, rfl, hb'⟩
      · have HM2 := Lib.hid hom'.mat
        have HM3 := Lib.hid (HM.out.keep hb')
        have HB3 := Lib.hid (HB2.out.trans (hb'.mono HB2.out.size))
        obtain ⟨A1, c1, vs1, hv1, -, -, -, -, -⟩ := HM.out
        subst hv1
        clear hom' hb' q0 q1 q2 q3
        simp only at HM2 HM3
        go_wp2_with fail
        refine (sameCl_any _ _ cs _ HM3.out HM2.out).mono ?_
        rintro e w4 ⟨rfl, hb4⟩
        have HB4 := Lib.hid (HB3.out.trans (hb4.mono HB3.out.size))
        clear hb4
        go_wp2_with fail
        go_ret
        exact ⟨rfl, HB4.out⟩
      · cases h1
    · simp only at h1
      subst h1
      clear hb
      go_wp2_with fail
      refine (rclauses_any _ _ f l _ (HF.out.keep HB2.out) (HL.out.keep HB2.out) HQ.out).mono ?_
      rintro e w3 hret
      rw [HR.out] at hret
      rcases hret with ⟨h1, v', rfl, us', hom', hb'⟩ | ⟨h1, rfl, hb'⟩
      · cases h1
      · have HB3 := Lib.hid (HB2.out.trans (hb'.mono HB2.out.size))
        have dn : decide ((0 : Int) ≤ (cs.length : Int)) = true := by simp
        have dc : ((cs.length : Int) == (cs.length : Int)) = true := by simp
        clear hb' q0 q1 q2 q3
        simp only
        go_wp2_with fail
        go_ret
        exact ⟨rfl, HB3.out⟩

end Go.Proofs.Ytdmndikenejhiaa
