/-
  WALK: interleaveref31.Parse.
-/
import Derived.Test.YtfffalfnjficaaaDoorRefForm
import Derived.Test.YtfffalfnjficaaaDoorParseRet
import Derived.Test.YtfffalfnjficaaaDoorValidRef
import Derived.Deep.RegionHeld3
namespace Go.Proofs.YtfffalfnjficaaaDoor
open Go.RowKit

/-- The end with a wrong line. -/
theorem bad_ret {w wr : World} {s : List UInt8} {k : Nat} (hb : Below w.heap.size w wr) (hp : ParseR s (.bad k)) : ParseRet w s (.returned (.tuple #[zeroV, .int .i64 3, .int .i64 (k : Int)])) wr := ⟨hb, .inr (.inr ⟨k, hp, rfl⟩)⟩
set_option maxRecDepth 100000 in
set_option maxHeartbeats 8000000 in
theorem rparse_ref (s : List UInt8) (w : World) (hl : s.length ≤ 900000) (hp : PL w) :
    Calls Tryd.prog 9 #[.string ⟨s.toArray⟩] w (ParseRet w s) := by
  have hgb := hp.gb
  have hrb := (Blk.new w 26 #[.int .i64 0, .int .i64 0, .slice none 0 0, .slice none 0 0]).alloc (.cells #[.int .i64 0, .int .i64 0, .slice none 0 0, .slice none 0 0] 26)
  have hfb := Blk.new (w.alloc (.cells #[.int .i64 0, .int .i64 0, .slice none 0 0, .slice none 0 0] 26)) 26 #[.int .i64 0, .int .i64 0, .slice none 0 0, .slice none 0 0]
  rw [show ∀ (a : World) (o : Obj), (a.alloc o).heap.size = a.heap.size + 1 from fun a o => by simp] at hfb
  have hb2 : Below w.heap.size w ((w.alloc (.cells #[.int .i64 0, .int .i64 0, .slice none 0 0, .slice none 0 0] 26)).alloc (.cells #[.int .i64 0, .int .i64 0, .slice none 0 0, .slice none 0 0] 26)) := by go_grown
  have HP2 := Lib.hid (hp.below hb2)
  have HGB : Hid (GB (w.heap.size + 1)) := Lib.hid (by obtain ⟨a0, a1, a2, a3⟩ := hgb; exact ⟨by omega, by omega, by omega, by omega⟩)
  clear hp hgb
  obtain ⟨iD, hiD, hzD0, hzD1, hzD2⟩ := info_parts info_diff
  obtain ⟨iS, hiS, hzS0, hzS1, hzS2⟩ := info_parts info_ints
  go_enter Tryd.func9, Tryd.ntmps9
  go_wp2_with fail
  generalize (w.alloc (.cells #[.int .i64 0, .int .i64 0, .slice none 0 0, .slice none 0 0] 26)).alloc (.cells #[.int .i64 0, .int .i64 0, .slice none 0 0, .slice none 0 0] 26) = W2 at *
  refine (rlines_any s W2 hl HP2.out).mono ?_
  rintro e w3 ⟨A, k, last, ls, hls, rfl, htx, hb, hfresh⟩
  have HRB := Lib.hid (hrb.keep hb)
  have HB3 := Lib.hid (hb2.trans (hb.mono hb2.size))
  have HLS := Lib.hid hls
  have HW3 : Hid (w.heap.size + 1 < W2.heap.size ∧ W2.heap.size ≤ w3.heap.size) := Lib.hid ⟨hfb.lt, hb.size⟩
  have HP3 := Lib.hid (HP2.out.below hb)
  have HPL : Hid (ls.length + 1 = (pieces 10 s).length) := Lib.hid (by rw [hls]; simp)
  have hlsn : ls.length ≤ 1000000 := by have := pieces_len 10 s; have := HPL.out; omega
  obtain ⟨A', c', ex, kx1, kx2, hrd⟩ := htx
  injection ex with ex1 ex2 ex3
  subst ex1 ex3
  have HRD := Lib.hid hrd
  have HFR : Hid (∀ b off, A = some ⟨b, off, none⟩ → w.heap.size + 1 < b) := Lib.hid (fun b off e => by have := hfresh b off e; have := HW3.out.1; omega)
  have HFS : Hid (RmS w3 w3 (w.heap.size + 1) (.slice none 0 0) (.slice none 0 0) [] ⟨0, 0, [], []⟩) := Lib.hid ⟨below_grown (Below.refl _ _) _, by have := HW3.out; omega, hfb.keep hb, World.ownsRow_nil _ _ _ _, by simp, OwnMat.nil _ _ _, by show I64 0; unfold I64; omega, by show I64 0; unfold I64; omega⟩
  unfold maxLen at kx2
  clear hrb hfb hb2 hls hb hfresh ex2 hrd HP2
  go_wp2_with fail
  go_loopw [24] (fun iv wr => ∃ (i : Nat) (F : Form) (av cv : Value) (us : List Value) (r : List UInt8), i ≤ ls.length ∧ iv = .int .i64 i ∧ Hid (RmS w3 wr (w.heap.size + 1) av cv us F) ∧ Hid (RdL s i F r) ∧ F.atoms.length ≤ i ∧ F.clauses.length ≤ i) (fun iv _ => ls.length - (intOf iv).toNat)
  case atStart => exact ⟨0, _, _, _, _, _, by omega, rfl, HFS, Lib.hid (RdL.start s), by simp, by simp⟩
  case round =>
    clear HFS
    obtain ⟨i, F, av, cv, us, r, hi, rfl, HFS, HRL, hal, hcl⟩ := hrel
    obtain ⟨Aa, ca, hav, -, -, -⟩ := owns_rd HFS.out.at_
    subst hav
    obtain ⟨Ac, cc, hcv, -, -, -⟩ := owns_rd HFS.out.cl.1
    rw [HFS.out.cl.2.1] at hcv
    subst hcv
    have HPW : Hid (PL wr) := Lib.hid (HP3.out.grown HFS.out.gr (Nat.le_refl _) (by have := HFS.out.flt; omega) HGB.out)
    have HBW : Hid (Below w.heap.size w wr) := Lib.hid (HB3.out.trans ((grownBy_below HFS.out.gr (Nat.le_of_lt HFS.out.flt) (fun g e => by injection e with e; omega)).mono (by omega)))
    have HRW := Lib.hid (HRB.out.grown HFS.out.gr (by intro e; injection e with e; omega))
    by_cases hlt : i < ls.length
    · obtain ⟨line, hline⟩ : ∃ line, ls[i]? = some line := ⟨_, List.getElem?_eq_getElem hlt⟩
      have hpl : (pieces 10 s)[i]? = some line := by rw [HLS.out, List.getElem?_append_left hlt]; exact hline
      have hll : line.length ≤ 900000 := by have := (pieces_mem (List.mem_of_getElem? hpl)).2; omega
      obtain ⟨b, off, rfl, hbl, hcl0⟩ := HRD.out.at_ (k := i) (u := .string ⟨line.toArray⟩) (by rw [List.getElem?_map, hline]; rfl)
      have hcline : wr.cell? ⟨b, off + i, none⟩ = some (.string ⟨line.toArray⟩) := HFS.out.gr.cell hcl0 (by intro e; injection e with e; have := HFR.out b off rfl; have e : b = w.heap.size + 1 := e; omega)
      have hbw : b < wr.heap.size := Nat.lt_of_lt_of_le hbl HFS.out.gr.size
      have HPI : Hid ((pieces 10 s)[i]? = some line ∧ i + 1 < (pieces 10 s).length) := Lib.hid ⟨hpl, by have := HPL.out; omega⟩
      clear hline hpl hcl0 hbl
      rcases line_kinds line with ⟨ns, hF, hA, hC⟩ | ⟨ns, hF, hA, hC⟩ | ⟨ns, hF, hA, hC⟩ | ⟨hF, hA, hC⟩
      · by_cases h0 : i = 0
        · subst h0
          rw [Nat.add_zero] at hcline
          by_cases hab : ∃ a b, ns = [a, b]
          · obtain ⟨a, b1, hab⟩ := hab
            obtain ⟨hF0, -⟩ := HRL.out.zero rfl
            subst hF0
            have hns0 : 0 < ns.length := by rw [hab]; simp
            have HHD : Hid (headF line = some ⟨a, b1, [], []⟩) := Lib.hid (headF_ok (by rw [hF, hab]))
            have HF := Lib.hid hF
            have HA := Lib.hid hA
            have HC := Lib.hid hC
            clear hF hA hC
            go_wp2_with fail
            refine (rnums_yes (word := wFormula) HF.out (by decide) (by decide) hll (HPW.out)).mono ?_
            rintro e w4 ⟨A1, c1, rfl, how4, hbw4⟩
            have HO := Lib.hid how4
            clear how4
            have HBw4 := Lib.hid hbw4
            clear hbw4
            go_wp2_with fail
            refine (rnums_no (word := wAtom) HA.out (by decide) (by decide) hll (HPW.out.below HBw4.out)).mono ?_
            rintro e w5 ⟨rfl, hbw5⟩
            have HO : Hid (Own w5 _ (.slice A1 ns.length c1) ns) := Lib.hid ⟨owns_keep HO.out.1 hbw5, HO.out.2⟩
            have HBw5 := Lib.hid (HBw4.out.trans (hbw5.mono HBw4.out.size))
            clear hbw5
            go_wp2_with fail
            refine (rnums_no (word := wClause) HC.out (by decide) (by decide) hll (HPW.out.below HBw5.out)).mono ?_
            rintro e w6 ⟨rfl, hbw6⟩
            have HO : Hid (Own w6 _ (.slice A1 ns.length c1) ns) := Lib.hid ⟨owns_keep HO.out.1 hbw6, HO.out.2⟩
            have HBw6 := Lib.hid (HBw5.out.trans (hbw6.mono HBw5.out.size))
            clear hbw6
            obtain ⟨g, hg, hgb, hgl, hgc⟩ := own_cells HO.out hns0
            subst hg
            have j0 := hgc 0 a (by rw [hab]; rfl)
            have j1 := hgc 1 b1 (by rw [hab]; rfl)
            have HXY : Hid (I64 a ∧ I64 b1) := Lib.hid ⟨HO.out.2 a (by rw [hab]; simp), HO.out.2 b1 (by rw [hab]; simp)⟩
            have HFS6 := Lib.hid (HFS.out.keep HBw6.out)
            have K6 := HFS6.out.fbk
            have f0 := K6.cell 0
            have f1 := K6.cell 1
            have z0 := K6.frozen 0
            have z1 := K6.frozen 1
            simp only [List.getElem?_toArray, List.getElem?_cons_zero, List.getElem?_cons_succ] at f0 f1
            have hne1 : ¬ g = w.heap.size + 1 := by have := HFS.out.flt; have := HFS.out.gr.size; have := HBw4.out.size; have := HBw5.out.size; omega
            have hne2 : ¬ w.heap.size + 1 = g := fun e => hne1 e.symm
            clear hab hgc K6 hns0
            go_upto_region 11 with fail
            go_region_held3 (fun w' => w'.cell? ⟨g, 0, none⟩ = some (.int .i64 a) ∧ w'.cell? ⟨g, 1, none⟩ = some (.int .i64 b1)) (go_keep) (fail)
            have HFS7 := Lib.hid ((HFS6.out.head HXY.out.1 HXY.out.2).keep (Below.refl _ _).drew)
            obtain ⟨t, hrl⟩ := HRL.out.head HPI.out.2 HPI.out.1 HHD.out
            have HRL2 := Lib.hid hrl
            clear hrl j0 j1 f0 f1 z0 z1 hne1 hne2
            generalize ((w6.setCell ⟨w.heap.size + 1, 0, none⟩ (.int .i64 a)).setCell ⟨w.heap.size + 1, 1, none⟩ (.int .i64 b1)).drew = w7 at *
            go_wp2_with fail
            go_roundw
            case rel => exact ⟨0 + 1, _, _, _, _, t, by omega, by go_num, HFS7, HRL2, by simp, by simp⟩
            case measure => simp [intOf]; omega
          · have hn2 : ((ns.length : Int) == 2) = false := by
              rw [beq_eq_false_iff_ne]; intro e
              have e : ns.length = 2 := by omega
              match ns, e with
              | [a, b], _ => exact hab ⟨a, b, rfl⟩
            have HBAD : Hid (ParseR s (.bad (0 + 1))) := Lib.hid (HRL.out.headBad HPI.out.2 HPI.out.1 (headF_no (by rw [hF]; intro a b e; injection e with e; exact hab ⟨a, b, e⟩)))
            have HF := Lib.hid hF
            have HA := Lib.hid hA
            have HC := Lib.hid hC
            clear hF hA hC
            go_wp2_with fail
            refine (rnums_yes (word := wFormula) HF.out (by decide) (by decide) hll (HPW.out)).mono ?_
            rintro e w4 ⟨A1, c1, rfl, how4, hbw4⟩
            have HO := Lib.hid how4
            clear how4
            have HBw4 := Lib.hid hbw4
            clear hbw4
            go_wp2_with fail
            refine (rnums_no (word := wAtom) HA.out (by decide) (by decide) hll (HPW.out.below HBw4.out)).mono ?_
            rintro e w5 ⟨rfl, hbw5⟩
            have HO : Hid (Own w5 _ (.slice A1 ns.length c1) ns) := Lib.hid ⟨owns_keep HO.out.1 hbw5, HO.out.2⟩
            have HBw5 := Lib.hid (HBw4.out.trans (hbw5.mono HBw4.out.size))
            clear hbw5
            go_wp2_with fail
            refine (rnums_no (word := wClause) HC.out (by decide) (by decide) hll (HPW.out.below HBw5.out)).mono ?_
            rintro e w6 ⟨rfl, hbw6⟩
            have HO : Hid (Own w6 _ (.slice A1 ns.length c1) ns) := Lib.hid ⟨owns_keep HO.out.1 hbw6, HO.out.2⟩
            have HBw6 := Lib.hid (HBw5.out.trans (hbw6.mono HBw5.out.size))
            clear hbw6
            have K6 := HRW.out.keep HBw6.out
            have c0 := K6.cell 0
            have c1q := K6.cell 1
            have c2 := K6.cell 2
            have c3 := K6.cell 3
            have z0 := K6.frozen 0
            have z1 := K6.frozen 1
            have z2 := K6.frozen 2
            have z3 := K6.frozen 3
            simp only [List.getElem?_toArray, List.getElem?_cons_zero, List.getElem?_cons_succ] at c0 c1q c2 c3
            have U := blk_set4 K6 (.int .i64 0) (.int .i64 0) (.slice none 0 0) (.slice none 0 0)
            have HBZ := below4 (HBW.out.trans (HBw6.out.mono HBW.out.size)) (.int .i64 0) (.int .i64 0) (.slice none 0 0) (.slice none 0 0)
            unfold set4 at U HBZ
            have HU := Lib.hid U
            have HBZ := Lib.hid HBZ
            clear U K6
            go_wp2_with fail
            clear c0 c1q c2 c3 z0 z1 z2 z3
            generalize (((w6.setCell ⟨w.heap.size, 0, none⟩ (.int .i64 0)).setCell ⟨w.heap.size, 1, none⟩ (.int .i64 0)).setCell ⟨w.heap.size, 2, none⟩ (.slice none 0 0)).setCell ⟨w.heap.size, 3, none⟩ (.slice none 0 0) = W9 at *
            have u0 := HU.out.cell 0
            have u1 := HU.out.cell 1
            have u2 := HU.out.cell 2
            have u3 := HU.out.cell 3
            simp only [List.getElem?_toArray, List.getElem?_cons_zero, List.getElem?_cons_succ] at u0 u1 u2 u3
            exact bodyPost_ret (v := .tuple #[zeroV, .int .i64 3, .int .i64 ((0 + 1 : Nat) : Int)]) (by simp [results, Tryd.results9, go_sem, u0, u1, u2, u3, zeroV]) rfl (bad_ret HBZ.out HBAD.out)
        · have hi0 : 0 < i := by omega
          have q1 : ((i : Int) == 0) = false := by rw [beq_eq_false_iff_ne]; omega
          have q2 : decide ((0 : Int) < i) = true := by simp; omega
          clear h0
          have HBAD : Hid (ParseR s (.bad (i + 1))) := Lib.hid (HRL.out.stepBad hi0 HPI.out.2 HPI.out.1 (stepF_no (fun _ => by rw [hA]; intro x y c e; cases e) hC))
          have HF := Lib.hid hF
          have HA := Lib.hid hA
          have HC := Lib.hid hC
          clear hF hA hC
          go_wp2_with fail
          refine (rnums_yes (word := wFormula) HF.out (by decide) (by decide) hll (HPW.out)).mono ?_
          rintro e w4 ⟨A1, c1, rfl, how4, hbw4⟩
          have HO := Lib.hid how4
          clear how4
          have HBw4 := Lib.hid hbw4
          clear hbw4
          go_wp2_with fail
          refine (rnums_no (word := wAtom) HA.out (by decide) (by decide) hll (HPW.out.below HBw4.out)).mono ?_
          rintro e w5 ⟨rfl, hbw5⟩
          have HO : Hid (Own w5 _ (.slice A1 ns.length c1) ns) := Lib.hid ⟨owns_keep HO.out.1 hbw5, HO.out.2⟩
          have HBw5 := Lib.hid (HBw4.out.trans (hbw5.mono HBw4.out.size))
          clear hbw5
          go_wp2_with fail
          refine (rnums_no (word := wClause) HC.out (by decide) (by decide) hll (HPW.out.below HBw5.out)).mono ?_
          rintro e w6 ⟨rfl, hbw6⟩
          have HO : Hid (Own w6 _ (.slice A1 ns.length c1) ns) := Lib.hid ⟨owns_keep HO.out.1 hbw6, HO.out.2⟩
          have HBw6 := Lib.hid (HBw5.out.trans (hbw6.mono HBw5.out.size))
          clear hbw6
          have K6 := HRW.out.keep HBw6.out
          have c0 := K6.cell 0
          have c1q := K6.cell 1
          have c2 := K6.cell 2
          have c3 := K6.cell 3
          have z0 := K6.frozen 0
          have z1 := K6.frozen 1
          have z2 := K6.frozen 2
          have z3 := K6.frozen 3
          simp only [List.getElem?_toArray, List.getElem?_cons_zero, List.getElem?_cons_succ] at c0 c1q c2 c3
          have U := blk_set4 K6 (.int .i64 0) (.int .i64 0) (.slice none 0 0) (.slice none 0 0)
          have HBZ := below4 (HBW.out.trans (HBw6.out.mono HBW.out.size)) (.int .i64 0) (.int .i64 0) (.slice none 0 0) (.slice none 0 0)
          unfold set4 at U HBZ
          have HU := Lib.hid U
          have HBZ := Lib.hid HBZ
          clear U K6
          go_wp2_with fail
          clear c0 c1q c2 c3 z0 z1 z2 z3
          generalize (((w6.setCell ⟨w.heap.size, 0, none⟩ (.int .i64 0)).setCell ⟨w.heap.size, 1, none⟩ (.int .i64 0)).setCell ⟨w.heap.size, 2, none⟩ (.slice none 0 0)).setCell ⟨w.heap.size, 3, none⟩ (.slice none 0 0) = W9 at *
          have u0 := HU.out.cell 0
          have u1 := HU.out.cell 1
          have u2 := HU.out.cell 2
          have u3 := HU.out.cell 3
          simp only [List.getElem?_toArray, List.getElem?_cons_zero, List.getElem?_cons_succ] at u0 u1 u2 u3
          exact bodyPost_ret (v := .tuple #[zeroV, .int .i64 3, .int .i64 ((i + 1 : Nat) : Int)]) (by simp [results, Tryd.results9, go_sem, u0, u1, u2, u3, zeroV]) rfl (bad_ret HBZ.out HBAD.out)
      · by_cases h0 : i = 0
        · subst h0
          rw [Nat.add_zero] at hcline
          have HBAD : Hid (ParseR s (.bad (0 + 1))) := Lib.hid (HRL.out.headBad HPI.out.2 HPI.out.1 (headF_no (by rw [hF]; intro a b e; cases e)))
          have HF := Lib.hid hF
          have HA := Lib.hid hA
          have HC := Lib.hid hC
          clear hF hA hC
          go_wp2_with fail
          refine (rnums_no (word := wFormula) HF.out (by decide) (by decide) hll (HPW.out)).mono ?_
          rintro e w4 ⟨rfl, hbw4⟩
          have HBw4 := Lib.hid hbw4
          clear hbw4
          go_wp2_with fail
          refine (rnums_yes (word := wAtom) HA.out (by decide) (by decide) hll (HPW.out.below HBw4.out)).mono ?_
          rintro e w5 ⟨A1, c1, rfl, how5, hbw5⟩
          have HO := Lib.hid how5
          clear how5
          have HBw5 := Lib.hid (HBw4.out.trans (hbw5.mono HBw4.out.size))
          clear hbw5
          go_wp2_with fail
          refine (rnums_no (word := wClause) HC.out (by decide) (by decide) hll (HPW.out.below HBw5.out)).mono ?_
          rintro e w6 ⟨rfl, hbw6⟩
          have HO : Hid (Own w6 _ (.slice A1 ns.length c1) ns) := Lib.hid ⟨owns_keep HO.out.1 hbw6, HO.out.2⟩
          have HBw6 := Lib.hid (HBw5.out.trans (hbw6.mono HBw5.out.size))
          clear hbw6
          have K6 := HRW.out.keep HBw6.out
          have c0 := K6.cell 0
          have c1q := K6.cell 1
          have c2 := K6.cell 2
          have c3 := K6.cell 3
          have z0 := K6.frozen 0
          have z1 := K6.frozen 1
          have z2 := K6.frozen 2
          have z3 := K6.frozen 3
          simp only [List.getElem?_toArray, List.getElem?_cons_zero, List.getElem?_cons_succ] at c0 c1q c2 c3
          have U := blk_set4 K6 (.int .i64 0) (.int .i64 0) (.slice none 0 0) (.slice none 0 0)
          have HBZ := below4 (HBW.out.trans (HBw6.out.mono HBW.out.size)) (.int .i64 0) (.int .i64 0) (.slice none 0 0) (.slice none 0 0)
          unfold set4 at U HBZ
          have HU := Lib.hid U
          have HBZ := Lib.hid HBZ
          clear U K6
          go_wp2_with fail
          clear c0 c1q c2 c3 z0 z1 z2 z3
          generalize (((w6.setCell ⟨w.heap.size, 0, none⟩ (.int .i64 0)).setCell ⟨w.heap.size, 1, none⟩ (.int .i64 0)).setCell ⟨w.heap.size, 2, none⟩ (.slice none 0 0)).setCell ⟨w.heap.size, 3, none⟩ (.slice none 0 0) = W9 at *
          have u0 := HU.out.cell 0
          have u1 := HU.out.cell 1
          have u2 := HU.out.cell 2
          have u3 := HU.out.cell 3
          simp only [List.getElem?_toArray, List.getElem?_cons_zero, List.getElem?_cons_succ] at u0 u1 u2 u3
          exact bodyPost_ret (v := .tuple #[zeroV, .int .i64 3, .int .i64 ((0 + 1 : Nat) : Int)]) (by simp [results, Tryd.results9, go_sem, u0, u1, u2, u3, zeroV]) rfl (bad_ret HBZ.out HBAD.out)
        · have hi0 : 0 < i := by omega
          have q1 : ((i : Int) == 0) = false := by rw [beq_eq_false_iff_ne]; omega
          have q2 : decide ((0 : Int) < i) = true := by simp; omega
          clear h0
          by_cases hxyz : ∃ x y c, ns = [x, y, c]
          · by_cases hcn : F.clauses.length = 0
            · have hcl0 : F.clauses = [] := List.eq_nil_of_length_eq_zero hcn
              obtain ⟨x, y, c, hxyz⟩ := hxyz
              have hns0 : 0 < ns.length := by rw [hxyz]; simp
              have q3 : ((F.clauses.length : Int) == 0) = true := by rw [hcn]; rfl
              have hl3 : Hid (ns.length = 3) := Lib.hid (by rw [hxyz]; rfl)
              obtain ⟨t, hrl⟩ := HRL.out.step hi0 HPI.out.2 HPI.out.1 (stepF_isAtom (by rw [hA, hxyz]) hcl0)
              have HRL2 := Lib.hid hrl
              clear hrl hcl0
              have HF := Lib.hid hF
              have HA := Lib.hid hA
              have HC := Lib.hid hC
              clear hF hA hC
              go_wp2_with fail
              refine (rnums_no (word := wFormula) HF.out (by decide) (by decide) hll (HPW.out)).mono ?_
              rintro e w4 ⟨rfl, hbw4⟩
              have HBw4 := Lib.hid hbw4
              clear hbw4
              go_wp2_with fail
              refine (rnums_yes (word := wAtom) HA.out (by decide) (by decide) hll (HPW.out.below HBw4.out)).mono ?_
              rintro e w5 ⟨A1, c1, rfl, how5, hbw5⟩
              have HO := Lib.hid how5
              clear how5
              have HBw5 := Lib.hid (HBw4.out.trans (hbw5.mono HBw4.out.size))
              clear hbw5
              go_wp2_with fail
              refine (rnums_no (word := wClause) HC.out (by decide) (by decide) hll (HPW.out.below HBw5.out)).mono ?_
              rintro e w6 ⟨rfl, hbw6⟩
              have HO : Hid (Own w6 _ (.slice A1 ns.length c1) ns) := Lib.hid ⟨owns_keep HO.out.1 hbw6, HO.out.2⟩
              have HBw6 := Lib.hid (HBw5.out.trans (hbw6.mono HBw5.out.size))
              clear hbw6
              obtain ⟨g, hg, hgb, hgl, hgc⟩ := own_cells HO.out hns0
              subst hg
              have j0 := hgc 0 x (by rw [hxyz]; rfl)
              have j1 := hgc 1 y (by rw [hxyz]; rfl)
              have j2 := hgc 2 c (by rw [hxyz]; rfl)
              have HXO : Hid (Diff.ok ⟨x, y, c⟩) := Lib.hid ⟨HO.out.2 x (by rw [hxyz]; simp), HO.out.2 y (by rw [hxyz]; simp), HO.out.2 c (by rw [hxyz]; simp)⟩
              have HFS6 := Lib.hid (HFS.out.keep HBw6.out)
              have v2 := HFS6.out.fbk.cell 2
              have f3 := HFS6.out.fbk.cell 3
              have v2a := (HFS6.out.fbk.alloc (.cells #[.int .i64 x, .int .i64 y, .int .i64 c] 48)).cell 2
              simp only [List.getElem?_toArray, List.getElem?_cons_zero, List.getElem?_cons_succ] at v2 f3 v2a
              have HNW := Lib.hid (cells_at w6 48 [.int .i64 x, .int .i64 y, .int .i64 c] rfl)
              have HON : Hid (∀ u ∈ ([.int .i64 x, .int .i64 y, .int .i64 c] : List Value), u.oneCell' = true) := Lib.hid (by intro u hu; simp at hu; rcases hu with rfl | rfl | rfl <;> rfl)
              have HM1 : Hid (F.atoms.length + 1 ≤ maxLen) := by refine Lib.hid ?_; unfold maxLen; omega
              have HM2 : Hid ((F.atoms.length + 1) * 24 ≤ 140737488355328) := by refine Lib.hid ?_; omega
              have HM3 : Hid (w3.heap.size ≤ (w6.alloc (.cells #[.int .i64 x, .int .i64 y, .int .i64 c] 48)).heap.size) := by refine Lib.hid ?_; have := HFS6.out.gr.size; simp; omega
              clear hxyz hgc hns0 hgb
              go_upto_region 13 with fail
              have HLN := Lib.hid hlsn
              clear hcline f3 q1 q2 q3 hcn hgl hbw kx1 kx2 hll hlsn hl3
              go_region_law (refine step_app_own rfl (.tmp 84) (.tmp 95) 23 rfl w3.heap.size 48 iD (.agg #[.int .i64 0, .int .i64 0, .int .i64 0]) 3 24 Tryd.underlying23 hiD hzD0 hzD1 hzD2 rfl (by decide) (.slice Aa F.atoms.length ca) F.atoms.length (F.atoms.flatMap Diff.cells) (by first | rfl | simp [Act.eval]) (HFS6.out.at_.alloc _).drew ⟨w6.heap.size, 0, none⟩ 1 1 [.int .i64 x, .int .i64 y, .int .i64 c] (by first | rfl | simp [Act.eval]) rfl HNW.out HON.out HM1.out HM2.out HM3.out ?_; intro v' w7 hown hg hat; obtain ⟨A', c', hv', -, -, -⟩ := owns_rd hown; subst hv'; obtain ⟨hfs7, hf7⟩ := HFS6.out.atom (d := ⟨x, y, c⟩) HXO.out hown (show (w6.alloc _).grownBy w7 _ from ⟨hg.os, hg.tape, hg.output, hg.size, hg.block⟩) hat; have HFS7 := Lib.hid hfs7; have c5 := hf7.cell 2; have z5 := hf7.frozen 2; simp only [List.getElem?_toArray, List.getElem?_cons_zero, List.getElem?_cons_succ] at c5; clear hfs7 hf7 hown hg hat)
              all_goals
                clear j0 j1 j2 v2 v2a c5 z5 HNW HON HM1 HM2 HM3 HXO
                have hlsn := HLN.out
                generalize w7.setCell ⟨w.heap.size + 1, 2, none⟩ (.slice A' (F.atoms.length + 1) c') = w8 at *
                go_wp2_with fail
                go_roundw
                case rel => exact ⟨i + 1, _, _, _, _, t, by omega, by go_num, HFS7, HRL2, by simp; omega, by simp; omega⟩
                case measure => simp [intOf]; omega
            · have q3 : ((F.clauses.length : Int) == 0) = false := by rw [beq_eq_false_iff_ne]; omega
              have hnl : ((ns.length : Int) == 3) = true := by obtain ⟨x, y, c, rfl⟩ := hxyz; rfl
              have HBAD : Hid (ParseR s (.bad (i + 1))) := Lib.hid (HRL.out.stepBad hi0 HPI.out.2 HPI.out.1 (stepF_no (fun e => absurd (by rw [e]; rfl) hcn) hC))
              have HF := Lib.hid hF
              have HA := Lib.hid hA
              have HC := Lib.hid hC
              clear hF hA hC
              go_wp2_with fail
              refine (rnums_no (word := wFormula) HF.out (by decide) (by decide) hll (HPW.out)).mono ?_
              rintro e w4 ⟨rfl, hbw4⟩
              have HBw4 := Lib.hid hbw4
              clear hbw4
              go_wp2_with fail
              refine (rnums_yes (word := wAtom) HA.out (by decide) (by decide) hll (HPW.out.below HBw4.out)).mono ?_
              rintro e w5 ⟨A1, c1, rfl, how5, hbw5⟩
              have HO := Lib.hid how5
              clear how5
              have HBw5 := Lib.hid (HBw4.out.trans (hbw5.mono HBw4.out.size))
              clear hbw5
              go_wp2_with fail
              refine (rnums_no (word := wClause) HC.out (by decide) (by decide) hll (HPW.out.below HBw5.out)).mono ?_
              rintro e w6 ⟨rfl, hbw6⟩
              have HO : Hid (Own w6 _ (.slice A1 ns.length c1) ns) := Lib.hid ⟨owns_keep HO.out.1 hbw6, HO.out.2⟩
              have HBw6 := Lib.hid (HBw5.out.trans (hbw6.mono HBw5.out.size))
              clear hbw6
              have f3 := (HFS.out.fbk.keep HBw6.out).cell 3
              simp only [List.getElem?_toArray, List.getElem?_cons_zero, List.getElem?_cons_succ] at f3
              have K6 := HRW.out.keep HBw6.out
              have c0 := K6.cell 0
              have c1q := K6.cell 1
              have c2 := K6.cell 2
              have c3 := K6.cell 3
              have z0 := K6.frozen 0
              have z1 := K6.frozen 1
              have z2 := K6.frozen 2
              have z3 := K6.frozen 3
              simp only [List.getElem?_toArray, List.getElem?_cons_zero, List.getElem?_cons_succ] at c0 c1q c2 c3
              have U := blk_set4 K6 (.int .i64 0) (.int .i64 0) (.slice none 0 0) (.slice none 0 0)
              have HBZ := below4 (HBW.out.trans (HBw6.out.mono HBW.out.size)) (.int .i64 0) (.int .i64 0) (.slice none 0 0) (.slice none 0 0)
              unfold set4 at U HBZ
              have HU := Lib.hid U
              have HBZ := Lib.hid HBZ
              clear U K6
              go_wp2_with fail
              clear c0 c1q c2 c3 z0 z1 z2 z3
              generalize (((w6.setCell ⟨w.heap.size, 0, none⟩ (.int .i64 0)).setCell ⟨w.heap.size, 1, none⟩ (.int .i64 0)).setCell ⟨w.heap.size, 2, none⟩ (.slice none 0 0)).setCell ⟨w.heap.size, 3, none⟩ (.slice none 0 0) = W9 at *
              have u0 := HU.out.cell 0
              have u1 := HU.out.cell 1
              have u2 := HU.out.cell 2
              have u3 := HU.out.cell 3
              simp only [List.getElem?_toArray, List.getElem?_cons_zero, List.getElem?_cons_succ] at u0 u1 u2 u3
              exact bodyPost_ret (v := .tuple #[zeroV, .int .i64 3, .int .i64 ((i + 1 : Nat) : Int)]) (by simp [results, Tryd.results9, go_sem, u0, u1, u2, u3, zeroV]) rfl (bad_ret HBZ.out HBAD.out)
          · have hn3 : ((ns.length : Int) == 3) = false := by
              rw [beq_eq_false_iff_ne]; intro e
              have e : ns.length = 3 := by omega
              match ns, e with
              | [x, y, c], _ => exact hxyz ⟨x, y, c, rfl⟩
            have HBAD : Hid (ParseR s (.bad (i + 1))) := Lib.hid (HRL.out.stepBad hi0 HPI.out.2 HPI.out.1 (stepF_no (fun _ => by rw [hA]; intro x y c e; injection e with e; exact hxyz ⟨x, y, c, e⟩) hC))
            have HF := Lib.hid hF
            have HA := Lib.hid hA
            have HC := Lib.hid hC
            clear hF hA hC
            go_wp2_with fail
            refine (rnums_no (word := wFormula) HF.out (by decide) (by decide) hll (HPW.out)).mono ?_
            rintro e w4 ⟨rfl, hbw4⟩
            have HBw4 := Lib.hid hbw4
            clear hbw4
            go_wp2_with fail
            refine (rnums_yes (word := wAtom) HA.out (by decide) (by decide) hll (HPW.out.below HBw4.out)).mono ?_
            rintro e w5 ⟨A1, c1, rfl, how5, hbw5⟩
            have HO := Lib.hid how5
            clear how5
            have HBw5 := Lib.hid (HBw4.out.trans (hbw5.mono HBw4.out.size))
            clear hbw5
            go_wp2_with fail
            refine (rnums_no (word := wClause) HC.out (by decide) (by decide) hll (HPW.out.below HBw5.out)).mono ?_
            rintro e w6 ⟨rfl, hbw6⟩
            have HO : Hid (Own w6 _ (.slice A1 ns.length c1) ns) := Lib.hid ⟨owns_keep HO.out.1 hbw6, HO.out.2⟩
            have HBw6 := Lib.hid (HBw5.out.trans (hbw6.mono HBw5.out.size))
            clear hbw6
            have K6 := HRW.out.keep HBw6.out
            have c0 := K6.cell 0
            have c1q := K6.cell 1
            have c2 := K6.cell 2
            have c3 := K6.cell 3
            have z0 := K6.frozen 0
            have z1 := K6.frozen 1
            have z2 := K6.frozen 2
            have z3 := K6.frozen 3
            simp only [List.getElem?_toArray, List.getElem?_cons_zero, List.getElem?_cons_succ] at c0 c1q c2 c3
            have U := blk_set4 K6 (.int .i64 0) (.int .i64 0) (.slice none 0 0) (.slice none 0 0)
            have HBZ := below4 (HBW.out.trans (HBw6.out.mono HBW.out.size)) (.int .i64 0) (.int .i64 0) (.slice none 0 0) (.slice none 0 0)
            unfold set4 at U HBZ
            have HU := Lib.hid U
            have HBZ := Lib.hid HBZ
            clear U K6
            go_wp2_with fail
            clear c0 c1q c2 c3 z0 z1 z2 z3
            generalize (((w6.setCell ⟨w.heap.size, 0, none⟩ (.int .i64 0)).setCell ⟨w.heap.size, 1, none⟩ (.int .i64 0)).setCell ⟨w.heap.size, 2, none⟩ (.slice none 0 0)).setCell ⟨w.heap.size, 3, none⟩ (.slice none 0 0) = W9 at *
            have u0 := HU.out.cell 0
            have u1 := HU.out.cell 1
            have u2 := HU.out.cell 2
            have u3 := HU.out.cell 3
            simp only [List.getElem?_toArray, List.getElem?_cons_zero, List.getElem?_cons_succ] at u0 u1 u2 u3
            exact bodyPost_ret (v := .tuple #[zeroV, .int .i64 3, .int .i64 ((i + 1 : Nat) : Int)]) (by simp [results, Tryd.results9, go_sem, u0, u1, u2, u3, zeroV]) rfl (bad_ret HBZ.out HBAD.out)
      · by_cases h0 : i = 0
        · subst h0
          rw [Nat.add_zero] at hcline
          have HBAD : Hid (ParseR s (.bad (0 + 1))) := Lib.hid (HRL.out.headBad HPI.out.2 HPI.out.1 (headF_no (by rw [hF]; intro a b e; cases e)))
          have HF := Lib.hid hF
          have HA := Lib.hid hA
          have HC := Lib.hid hC
          clear hF hA hC
          go_wp2_with fail
          refine (rnums_no (word := wFormula) HF.out (by decide) (by decide) hll (HPW.out)).mono ?_
          rintro e w4 ⟨rfl, hbw4⟩
          have HBw4 := Lib.hid hbw4
          clear hbw4
          go_wp2_with fail
          refine (rnums_no (word := wAtom) HA.out (by decide) (by decide) hll (HPW.out.below HBw4.out)).mono ?_
          rintro e w5 ⟨rfl, hbw5⟩
          have HBw5 := Lib.hid (HBw4.out.trans (hbw5.mono HBw4.out.size))
          clear hbw5
          go_wp2_with fail
          refine (rnums_yes (word := wClause) HC.out (by decide) (by decide) hll (HPW.out.below HBw5.out)).mono ?_
          rintro e w6 ⟨A1, c1, rfl, how6, hbw6⟩
          have HO := Lib.hid how6
          clear how6
          have HBw6 := Lib.hid (HBw5.out.trans (hbw6.mono HBw5.out.size))
          clear hbw6
          have K6 := HRW.out.keep HBw6.out
          have c0 := K6.cell 0
          have c1q := K6.cell 1
          have c2 := K6.cell 2
          have c3 := K6.cell 3
          have z0 := K6.frozen 0
          have z1 := K6.frozen 1
          have z2 := K6.frozen 2
          have z3 := K6.frozen 3
          simp only [List.getElem?_toArray, List.getElem?_cons_zero, List.getElem?_cons_succ] at c0 c1q c2 c3
          have U := blk_set4 K6 (.int .i64 0) (.int .i64 0) (.slice none 0 0) (.slice none 0 0)
          have HBZ := below4 (HBW.out.trans (HBw6.out.mono HBW.out.size)) (.int .i64 0) (.int .i64 0) (.slice none 0 0) (.slice none 0 0)
          unfold set4 at U HBZ
          have HU := Lib.hid U
          have HBZ := Lib.hid HBZ
          clear U K6
          go_wp2_with fail
          clear c0 c1q c2 c3 z0 z1 z2 z3
          generalize (((w6.setCell ⟨w.heap.size, 0, none⟩ (.int .i64 0)).setCell ⟨w.heap.size, 1, none⟩ (.int .i64 0)).setCell ⟨w.heap.size, 2, none⟩ (.slice none 0 0)).setCell ⟨w.heap.size, 3, none⟩ (.slice none 0 0) = W9 at *
          have u0 := HU.out.cell 0
          have u1 := HU.out.cell 1
          have u2 := HU.out.cell 2
          have u3 := HU.out.cell 3
          simp only [List.getElem?_toArray, List.getElem?_cons_zero, List.getElem?_cons_succ] at u0 u1 u2 u3
          exact bodyPost_ret (v := .tuple #[zeroV, .int .i64 3, .int .i64 ((0 + 1 : Nat) : Int)]) (by simp [results, Tryd.results9, go_sem, u0, u1, u2, u3, zeroV]) rfl (bad_ret HBZ.out HBAD.out)
        · have hi0 : 0 < i := by omega
          have q1 : ((i : Int) == 0) = false := by rw [beq_eq_false_iff_ne]; omega
          have q2 : decide ((0 : Int) < i) = true := by simp; omega
          clear h0
          obtain ⟨t, hrl⟩ := HRL.out.step hi0 HPI.out.2 HPI.out.1 (stepF_isClause hC)
          have HRL2 := Lib.hid hrl
          have HNL : Hid (ns.length ≤ 1000000) := Lib.hid (by have := numsL_len hC; omega)
          clear hrl
          have HF := Lib.hid hF
          have HA := Lib.hid hA
          have HC := Lib.hid hC
          clear hF hA hC
          go_wp2_with fail
          refine (rnums_no (word := wFormula) HF.out (by decide) (by decide) hll (HPW.out)).mono ?_
          rintro e w4 ⟨rfl, hbw4⟩
          have HBw4 := Lib.hid hbw4
          clear hbw4
          go_wp2_with fail
          refine (rnums_no (word := wAtom) HA.out (by decide) (by decide) hll (HPW.out.below HBw4.out)).mono ?_
          rintro e w5 ⟨rfl, hbw5⟩
          have HBw5 := Lib.hid (HBw4.out.trans (hbw5.mono HBw4.out.size))
          clear hbw5
          go_wp2_with fail
          refine (rnums_yes (word := wClause) HC.out (by decide) (by decide) hll (HPW.out.below HBw5.out)).mono ?_
          rintro e w6 ⟨A1, c1, rfl, how6, hbw6⟩
          have HO := Lib.hid how6
          clear how6
          have HBw6 := Lib.hid (HBw5.out.trans (hbw6.mono HBw5.out.size))
          clear hbw6
          have HFR := Lib.hid ((HFS.out.keep HBw5.out).fresh (Nat.le_refl _) HO.out)
          have HFS6 := Lib.hid (HFS.out.keep HBw6.out)
          have HUL : Hid (us.length = F.clauses.length) := Lib.hid HFS6.out.cl.2.1
          have f3 := HFS6.out.fbk.cell 3
          simp only [List.getElem?_toArray, List.getElem?_cons_zero, List.getElem?_cons_succ] at f3
          go_wp2_with (at_builtin; refine wpList_append_own_at _ rfl _ _ 24 rfl w3.heap.size 49 iS (.slice none 0 0) 1 24 Tryd.underlying24 hiS hzS0 hzS1 hzS2 rfl (by decide) _ us.length us rfl (HFS6.out.cl.1.alloc _) ⟨w6.heap.size, 0, none⟩ 1 1 [.slice A1 ns.length c1] rfl rfl (one_at w6 _ _) ?b2 ?b3 ?b4 ?b5 ?_)
          case b2 => intro u hu; simp at hu; subst hu; rfl
          case b3 => have := HUL.out; unfold maxLen; omega
          case b4 => have := HUL.out; omega
          case b5 => have := HFS6.out.gr.size; simp; omega
          intro v' w7 hown hg _ hat
          obtain ⟨A', c', hv', -, -, -⟩ := owns_rd hown
          subst hv'
          obtain ⟨hfs7, hf7⟩ := HFS6.out.clause HFR.out hown hg (by simpa using hat)
          have HFS7 := Lib.hid hfs7
          have c5 := hf7.cell 3
          have z5 := hf7.frozen 3
          simp only [List.getElem?_toArray, List.getElem?_cons_zero, List.getElem?_cons_succ] at c5
          clear hfs7 hf7 hown hg hat f3
          go_wp2_with fail
          clear c5 z5
          go_roundw
          case rel => exact ⟨i + 1, _, _, _, _, t, by omega, by go_num, HFS7, HRL2, by simp; omega, by simp; omega⟩
          case measure => simp [intOf]; omega
      · by_cases h0 : i = 0
        · subst h0
          rw [Nat.add_zero] at hcline
          have HBAD : Hid (ParseR s (.bad (0 + 1))) := Lib.hid (HRL.out.headBad HPI.out.2 HPI.out.1 (headF_no (by rw [hF]; intro a b e; cases e)))
          have HF := Lib.hid hF
          have HA := Lib.hid hA
          have HC := Lib.hid hC
          clear hF hA hC
          go_wp2_with fail
          refine (rnums_no (word := wFormula) HF.out (by decide) (by decide) hll (HPW.out)).mono ?_
          rintro e w4 ⟨rfl, hbw4⟩
          have HBw4 := Lib.hid hbw4
          clear hbw4
          go_wp2_with fail
          refine (rnums_no (word := wAtom) HA.out (by decide) (by decide) hll (HPW.out.below HBw4.out)).mono ?_
          rintro e w5 ⟨rfl, hbw5⟩
          have HBw5 := Lib.hid (HBw4.out.trans (hbw5.mono HBw4.out.size))
          clear hbw5
          go_wp2_with fail
          refine (rnums_no (word := wClause) HC.out (by decide) (by decide) hll (HPW.out.below HBw5.out)).mono ?_
          rintro e w6 ⟨rfl, hbw6⟩
          have HBw6 := Lib.hid (HBw5.out.trans (hbw6.mono HBw5.out.size))
          clear hbw6
          have K6 := HRW.out.keep HBw6.out
          have c0 := K6.cell 0
          have c1q := K6.cell 1
          have c2 := K6.cell 2
          have c3 := K6.cell 3
          have z0 := K6.frozen 0
          have z1 := K6.frozen 1
          have z2 := K6.frozen 2
          have z3 := K6.frozen 3
          simp only [List.getElem?_toArray, List.getElem?_cons_zero, List.getElem?_cons_succ] at c0 c1q c2 c3
          have U := blk_set4 K6 (.int .i64 0) (.int .i64 0) (.slice none 0 0) (.slice none 0 0)
          have HBZ := below4 (HBW.out.trans (HBw6.out.mono HBW.out.size)) (.int .i64 0) (.int .i64 0) (.slice none 0 0) (.slice none 0 0)
          unfold set4 at U HBZ
          have HU := Lib.hid U
          have HBZ := Lib.hid HBZ
          clear U K6
          go_wp2_with fail
          clear c0 c1q c2 c3 z0 z1 z2 z3
          generalize (((w6.setCell ⟨w.heap.size, 0, none⟩ (.int .i64 0)).setCell ⟨w.heap.size, 1, none⟩ (.int .i64 0)).setCell ⟨w.heap.size, 2, none⟩ (.slice none 0 0)).setCell ⟨w.heap.size, 3, none⟩ (.slice none 0 0) = W9 at *
          have u0 := HU.out.cell 0
          have u1 := HU.out.cell 1
          have u2 := HU.out.cell 2
          have u3 := HU.out.cell 3
          simp only [List.getElem?_toArray, List.getElem?_cons_zero, List.getElem?_cons_succ] at u0 u1 u2 u3
          exact bodyPost_ret (v := .tuple #[zeroV, .int .i64 3, .int .i64 ((0 + 1 : Nat) : Int)]) (by simp [results, Tryd.results9, go_sem, u0, u1, u2, u3, zeroV]) rfl (bad_ret HBZ.out HBAD.out)
        · have hi0 : 0 < i := by omega
          have q1 : ((i : Int) == 0) = false := by rw [beq_eq_false_iff_ne]; omega
          have q2 : decide ((0 : Int) < i) = true := by simp; omega
          clear h0
          have HBAD : Hid (ParseR s (.bad (i + 1))) := Lib.hid (HRL.out.stepBad hi0 HPI.out.2 HPI.out.1 (stepF_no (fun _ => by rw [hA]; intro x y c e; cases e) hC))
          have HF := Lib.hid hF
          have HA := Lib.hid hA
          have HC := Lib.hid hC
          clear hF hA hC
          go_wp2_with fail
          refine (rnums_no (word := wFormula) HF.out (by decide) (by decide) hll (HPW.out)).mono ?_
          rintro e w4 ⟨rfl, hbw4⟩
          have HBw4 := Lib.hid hbw4
          clear hbw4
          go_wp2_with fail
          refine (rnums_no (word := wAtom) HA.out (by decide) (by decide) hll (HPW.out.below HBw4.out)).mono ?_
          rintro e w5 ⟨rfl, hbw5⟩
          have HBw5 := Lib.hid (HBw4.out.trans (hbw5.mono HBw4.out.size))
          clear hbw5
          go_wp2_with fail
          refine (rnums_no (word := wClause) HC.out (by decide) (by decide) hll (HPW.out.below HBw5.out)).mono ?_
          rintro e w6 ⟨rfl, hbw6⟩
          have HBw6 := Lib.hid (HBw5.out.trans (hbw6.mono HBw5.out.size))
          clear hbw6
          have K6 := HRW.out.keep HBw6.out
          have c0 := K6.cell 0
          have c1q := K6.cell 1
          have c2 := K6.cell 2
          have c3 := K6.cell 3
          have z0 := K6.frozen 0
          have z1 := K6.frozen 1
          have z2 := K6.frozen 2
          have z3 := K6.frozen 3
          simp only [List.getElem?_toArray, List.getElem?_cons_zero, List.getElem?_cons_succ] at c0 c1q c2 c3
          have U := blk_set4 K6 (.int .i64 0) (.int .i64 0) (.slice none 0 0) (.slice none 0 0)
          have HBZ := below4 (HBW.out.trans (HBw6.out.mono HBW.out.size)) (.int .i64 0) (.int .i64 0) (.slice none 0 0) (.slice none 0 0)
          unfold set4 at U HBZ
          have HU := Lib.hid U
          have HBZ := Lib.hid HBZ
          clear U K6
          go_wp2_with fail
          clear c0 c1q c2 c3 z0 z1 z2 z3
          generalize (((w6.setCell ⟨w.heap.size, 0, none⟩ (.int .i64 0)).setCell ⟨w.heap.size, 1, none⟩ (.int .i64 0)).setCell ⟨w.heap.size, 2, none⟩ (.slice none 0 0)).setCell ⟨w.heap.size, 3, none⟩ (.slice none 0 0) = W9 at *
          have u0 := HU.out.cell 0
          have u1 := HU.out.cell 1
          have u2 := HU.out.cell 2
          have u3 := HU.out.cell 3
          simp only [List.getElem?_toArray, List.getElem?_cons_zero, List.getElem?_cons_succ] at u0 u1 u2 u3
          exact bodyPost_ret (v := .tuple #[zeroV, .int .i64 3, .int .i64 ((i + 1 : Nat) : Int)]) (by simp [results, Tryd.results9, go_sem, u0, u1, u2, u3, zeroV]) rfl (bad_ret HBZ.out HBAD.out)
    · obtain rfl : i = ls.length := by omega
      have hpi : (pieces 10 s)[ls.length]? = some last := by rw [HLS.out, List.getElem?_append_right (Nat.le_refl _), Nat.sub_self]; rfl
      have HPI := Lib.hid hpi
      clear hpi
      by_cases hla : last = []
      · subst hla
        by_cases hz : ls.length = 0
        · have q0 : ((ls.length : Int) == 0) = true := by rw [hz]; rfl
          have HBAD : Hid (ParseR s (.bad (ls.length + 1))) := Lib.hid (HRL.out.endBad HPL.out HPI.out (.inr hz))
          clear hz
          have KK := HRW.out
          have HBK := HBW
          have c0 := KK.cell 0
          have c1q := KK.cell 1
          have c2 := KK.cell 2
          have c3 := KK.cell 3
          have z0 := KK.frozen 0
          have z1 := KK.frozen 1
          have z2 := KK.frozen 2
          have z3 := KK.frozen 3
          simp only [List.getElem?_toArray, List.getElem?_cons_zero, List.getElem?_cons_succ] at c0 c1q c2 c3
          have U := blk_set4 KK (.int .i64 0) (.int .i64 0) (.slice none 0 0) (.slice none 0 0)
          have HBZ := below4 HBK.out (.int .i64 0) (.int .i64 0) (.slice none 0 0) (.slice none 0 0)
          have HGZ := grown_set4 wr w.heap.size (.int .i64 0) (.int .i64 0) (.slice none 0 0) (.slice none 0 0)
          unfold set4 at U HBZ HGZ
          have HU := Lib.hid U
          have HBZ := Lib.hid HBZ
          have HGZ := Lib.hid HGZ
          clear U KK
          go_wp2_with fail
          clear c0 c1q c2 c3 z0 z1 z2 z3
          generalize (((wr.setCell ⟨w.heap.size, 0, none⟩ (.int .i64 0)).setCell ⟨w.heap.size, 1, none⟩ (.int .i64 0)).setCell ⟨w.heap.size, 2, none⟩ (.slice none 0 0)).setCell ⟨w.heap.size, 3, none⟩ (.slice none 0 0) = W9 at *
          have u0 := HU.out.cell 0
          have u1 := HU.out.cell 1
          have u2 := HU.out.cell 2
          have u3 := HU.out.cell 3
          simp only [List.getElem?_toArray, List.getElem?_cons_zero, List.getElem?_cons_succ] at u0 u1 u2 u3
          exact bodyPost_ret (v := .tuple #[zeroV, .int .i64 3, .int .i64 ((ls.length + 1 : Nat) : Int)]) (by simp [results, Tryd.results9, go_sem, u0, u1, u2, u3, zeroV]) rfl (bad_ret HBZ.out HBAD.out)
        · have q0 : ((ls.length : Int) == 0) = false := by rw [beq_eq_false_iff_ne]; omega
          have HOK : Hid (ParseR s (.ok F)) := Lib.hid (HRL.out.endOk HPL.out HPI.out (by omega))
          clear hz
          have f0 := HFS.out.fbk.cell 0
          have f1 := HFS.out.fbk.cell 1
          have f2 := HFS.out.fbk.cell 2
          have f3 := HFS.out.fbk.cell 3
          simp only [List.getElem?_toArray, List.getElem?_cons_zero, List.getElem?_cons_succ] at f0 f1 f2 f3
          go_wp2_with fail
          refine (rvalid_any F wr _ HFS.out.form).mono ?_
          rintro e w8 ⟨rfl, hb8⟩
          have HFS8 := Lib.hid (HFS.out.keep hb8)
          have HRW8 := Lib.hid (HRW.out.keep hb8)
          have HBK : Hid (Below w.heap.size w w8) := Lib.hid (HBW.out.trans (hb8.mono HBW.out.size))
          clear hb8 f0 f1 f2 f3
          by_cases hv : validF F = 0
          · have HV := Lib.hid hv
            rw [hv]
            clear hv
            have f0 := HFS8.out.fbk.cell 0
            have f1 := HFS8.out.fbk.cell 1
            have f2 := HFS8.out.fbk.cell 2
            have f3 := HFS8.out.fbk.cell 3
            simp only [List.getElem?_toArray, List.getElem?_cons_zero, List.getElem?_cons_succ] at f0 f1 f2 f3
            have KK := HRW8.out
            have c0 := KK.cell 0
            have c1q := KK.cell 1
            have c2 := KK.cell 2
            have c3 := KK.cell 3
            have z0 := KK.frozen 0
            have z1 := KK.frozen 1
            have z2 := KK.frozen 2
            have z3 := KK.frozen 3
            simp only [List.getElem?_toArray, List.getElem?_cons_zero, List.getElem?_cons_succ] at c0 c1q c2 c3
            have U := blk_set4 KK (.int .i64 F.ints) (.int .i64 F.bools) (.slice Aa F.atoms.length ca) (.slice Ac F.clauses.length cc)
            have HBZ := below4 HBK.out (.int .i64 F.ints) (.int .i64 F.bools) (.slice Aa F.atoms.length ca) (.slice Ac F.clauses.length cc)
            have HGZ := grown_set4 w8 w.heap.size (.int .i64 F.ints) (.int .i64 F.bools) (.slice Aa F.atoms.length ca) (.slice Ac F.clauses.length cc)
            unfold set4 at U HBZ HGZ
            have HU := Lib.hid U
            have HBZ := Lib.hid HBZ
            have HGZ := Lib.hid HGZ
            clear U KK
            go_wp2_with fail
            clear c0 c1q c2 c3 z0 z1 z2 z3
            generalize (((w8.setCell ⟨w.heap.size, 0, none⟩ (.int .i64 F.ints)).setCell ⟨w.heap.size, 1, none⟩ (.int .i64 F.bools)).setCell ⟨w.heap.size, 2, none⟩ (.slice Aa F.atoms.length ca)).setCell ⟨w.heap.size, 3, none⟩ (.slice Ac F.clauses.length cc) = W9 at *
            have u0 := HU.out.cell 0
            have u1 := HU.out.cell 1
            have u2 := HU.out.cell 2
            have u3 := HU.out.cell 3
            simp only [List.getElem?_toArray, List.getElem?_cons_zero, List.getElem?_cons_succ] at u0 u1 u2 u3
            exact bodyPost_ret (v := .tuple #[.agg #[.int .i64 F.ints, .int .i64 F.bools, .slice Aa F.atoms.length ca, .slice Ac F.clauses.length cc], .int .i64 0, .int .i64 0]) (by simp [results, Tryd.results9, go_sem, u0, u1, u2, u3]) rfl ⟨HBZ.out, .inl ⟨F, _, HOK.out, HV.out, rfl, HFS8.out.out HGZ.out (by have := HFS8.out.flt; omega)⟩⟩
          · have HV := Lib.hid hv
            have q1 : (validF F == 0) = false := by rw [beq_eq_false_iff_ne]; exact hv
            have q2 : (validF F != 0) = true := by unfold bne; rw [q1]; rfl
            clear hv
            have KK := HRW8.out
            have c0 := KK.cell 0
            have c1q := KK.cell 1
            have c2 := KK.cell 2
            have c3 := KK.cell 3
            have z0 := KK.frozen 0
            have z1 := KK.frozen 1
            have z2 := KK.frozen 2
            have z3 := KK.frozen 3
            simp only [List.getElem?_toArray, List.getElem?_cons_zero, List.getElem?_cons_succ] at c0 c1q c2 c3
            have U := blk_set4 KK (.int .i64 0) (.int .i64 0) (.slice none 0 0) (.slice none 0 0)
            have HBZ := below4 HBK.out (.int .i64 0) (.int .i64 0) (.slice none 0 0) (.slice none 0 0)
            have HGZ := grown_set4 w8 w.heap.size (.int .i64 0) (.int .i64 0) (.slice none 0 0) (.slice none 0 0)
            unfold set4 at U HBZ HGZ
            have HU := Lib.hid U
            have HBZ := Lib.hid HBZ
            have HGZ := Lib.hid HGZ
            clear U KK
            go_wp2_with fail
            clear c0 c1q c2 c3 z0 z1 z2 z3
            generalize (((w8.setCell ⟨w.heap.size, 0, none⟩ (.int .i64 0)).setCell ⟨w.heap.size, 1, none⟩ (.int .i64 0)).setCell ⟨w.heap.size, 2, none⟩ (.slice none 0 0)).setCell ⟨w.heap.size, 3, none⟩ (.slice none 0 0) = W9 at *
            have u0 := HU.out.cell 0
            have u1 := HU.out.cell 1
            have u2 := HU.out.cell 2
            have u3 := HU.out.cell 3
            simp only [List.getElem?_toArray, List.getElem?_cons_zero, List.getElem?_cons_succ] at u0 u1 u2 u3
            exact bodyPost_ret (v := .tuple #[zeroV, .int .i64 (validF F), .int .i64 0]) (by simp [results, Tryd.results9, go_sem, u0, u1, u2, u3, zeroV]) rfl ⟨HBZ.out, .inr (.inl ⟨F, HOK.out, HV.out, rfl⟩)⟩
      · have q0 : (last == []) = false := by rw [beq_eq_false_iff_ne]; exact hla
        have HBAD : Hid (ParseR s (.bad (ls.length + 1))) := Lib.hid (HRL.out.endBad HPL.out HPI.out (.inl hla))
        clear hla
        have KK := HRW.out
        have HBK := HBW
        have c0 := KK.cell 0
        have c1q := KK.cell 1
        have c2 := KK.cell 2
        have c3 := KK.cell 3
        have z0 := KK.frozen 0
        have z1 := KK.frozen 1
        have z2 := KK.frozen 2
        have z3 := KK.frozen 3
        simp only [List.getElem?_toArray, List.getElem?_cons_zero, List.getElem?_cons_succ] at c0 c1q c2 c3
        have U := blk_set4 KK (.int .i64 0) (.int .i64 0) (.slice none 0 0) (.slice none 0 0)
        have HBZ := below4 HBK.out (.int .i64 0) (.int .i64 0) (.slice none 0 0) (.slice none 0 0)
        have HGZ := grown_set4 wr w.heap.size (.int .i64 0) (.int .i64 0) (.slice none 0 0) (.slice none 0 0)
        unfold set4 at U HBZ HGZ
        have HU := Lib.hid U
        have HBZ := Lib.hid HBZ
        have HGZ := Lib.hid HGZ
        clear U KK
        go_wp2_with fail
        clear c0 c1q c2 c3 z0 z1 z2 z3
        generalize (((wr.setCell ⟨w.heap.size, 0, none⟩ (.int .i64 0)).setCell ⟨w.heap.size, 1, none⟩ (.int .i64 0)).setCell ⟨w.heap.size, 2, none⟩ (.slice none 0 0)).setCell ⟨w.heap.size, 3, none⟩ (.slice none 0 0) = W9 at *
        have u0 := HU.out.cell 0
        have u1 := HU.out.cell 1
        have u2 := HU.out.cell 2
        have u3 := HU.out.cell 3
        simp only [List.getElem?_toArray, List.getElem?_cons_zero, List.getElem?_cons_succ] at u0 u1 u2 u3
        exact bodyPost_ret (v := .tuple #[zeroV, .int .i64 3, .int .i64 ((ls.length + 1 : Nat) : Int)]) (by simp [results, Tryd.results9, go_sem, u0, u1, u2, u3, zeroV]) rfl (bad_ret HBZ.out HBAD.out)
end Go.Proofs.YtfffalfnjficaaaDoor
