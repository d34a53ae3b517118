/-
  WALK: interleavelaw33.ProofSound.
-/
import Derived.Test.YtdmndikenejhiaaLawAccepts
import Derived.Test.YtdmndikenejhiaaMdl
import Derived.Test.YtdmndikenejhiaaSatR
namespace Go.Proofs.Ytdmndikenejhiaa
open Go.RowKit

/-- A formula with a refutation has no model. -/
theorem refutes_no {f : Form} {l : List Stp} {bs : List Bool} {xs : List Int} (h : Refutes f l) (hf : Fits f.atoms bs xs) (hc : ∀ c ∈ f.clauses, c.any (holds bs) = true) : False := by
  obtain ⟨cs, hg, h0, hl⟩ := h
  have hlen := hg.len
  have hlt : l.length - 1 < cs.length := by omega
  have hm : cs.getD (l.length - 1) [] ∈ cs := by rw [List.getD_eq_getElem?_getD, List.getElem?_eq_getElem hlt]; exact List.getElem_mem hlt
  have := runS_holds hf hc hg (by simp) _ hm
  rw [hl] at this
  cases this
theorem stps_nil (w : World) : Stps w (.slice none 0 0) [] := ⟨none, 0, [], rfl, rfl, Nat.le_refl _, by simp [maxLen], Rd.nil _ _, by simp⟩
theorem chk_nil (f : Form) : chk (runS f [] []) ([] : List Stp).length = (0, 15) := by
  rw [runS]
  unfold chk
  simp

set_option maxRecDepth 100000 in
set_option maxHeartbeats 2000000 in
theorem lawSound (pv lv bv iv : Value) (a b c : Int) (L : List Int) (l : List Stp) (bools : List Bool) (ints : List Int) (w : World) (hp : IsProb w pv a b c L) (hl : Stps w lv l) (hn : l.length ≤ 140737488355328) (hll : ∀ s ∈ l, s.lits.length ≤ 140737488355328) (hbo : Bools w bv bools) (hxi : I8s w iv ints) :
    Calls Try.prog 7 #[pv, lv, bv, iv] w fun e w' => e = .returned (.bool true) ∧ Below w.heap.size w w' := by
  have HL := Lib.hid hl
  have HLL := Lib.hid hll
  have HNN := Lib.hid hn
  have HBO := Lib.hid hbo
  have HXI := Lib.hid hxi
  obtain ⟨A, cl, ps, hps, rfl, l1, l2, -, -⟩ := hl
  obtain ⟨Ab, cb, rfl, -, -, -⟩ := hbo
  obtain ⟨Ax, cx, rfl, -, -, -, -⟩ := hxi
  have hpl : ps.length = l.length := by rw [hps]; simp
  have HPL := Lib.hid hpl
  unfold maxLen at l2
  clear hn hll hps hpl
  have HP := Lib.hid hp
  obtain ⟨nv, rfl, -, -, -, hL⟩ := hp
  obtain ⟨An, cn, rfl, -, -, -, -⟩ := hL
  have HB : Hid (Below w.heap.size w (w.alloc (.cells #[.int .u8 a, .int .u8 b, .int .u8 c, .slice An L.length cn] 25))) := (Below.refl _ _).alloc (Nat.le_refl _) _
  go_enter Try.func7, Try.ntmps7
  go_wp2_with fail
  have B0 := Lib.hid (Blk.new w 25 #[.int .u8 a, .int .u8 b, .int .u8 c, .slice An L.length cn])
  generalize w.alloc (.cells #[.int .u8 a, .int .u8 b, .int .u8 c, .slice An L.length cn] 25) = W at *
  refine (large33_any _ l W (HL.out.keep HB.out) HNN.out HLL.out).mono ?_
  rintro e w' ⟨rfl, rfl⟩
  cases hlg : largeS l
  · obtain ⟨s1, s2⟩ := largeS_small hlg
    have HS2 := Lib.hid s2
    have HS1 := Lib.hid s1
    have q0 := B0.out.cell 0
    have q1 := B0.out.cell 1
    have q2 := B0.out.cell 2
    have q3 := B0.out.cell 3
    simp only [List.getElem?_toArray, List.getElem?_cons_zero, List.getElem?_cons_succ] at q0 q1 q2 q3
    clear hlg s1 s2
    go_wp2_with fail
    clear q0 q1 q2 q3
    refine (small_any _ a b c L _ ?hp).mono ?_
    case hp => obtain ⟨nv, e1, e2⟩ := HP.out; exact ⟨_, rfl, e2.1, e2.2.1, e2.2.2.1, by injection e1 with e1; simp only [Array.mk.injEq, List.cons.injEq, and_true, true_and] at e1; rw [e1]; exact e2.2.2.2.keep HB.out⟩
    rintro e w2 ⟨fv, f, rfl, hf, hsm, hb2⟩
    have HB2 := Lib.hid (HB.out.trans (hb2.mono HB.out.size))
    have HF2 := Lib.hid hf
    have HSM := Lib.hid hsm
    obtain ⟨av, cv, rfl, -, -, hf3, hf4⟩ := hf
    obtain ⟨Aa, ca, rfl, -, -, -, -⟩ := hf3
    obtain ⟨Ac, cc, vs, rfl, -, -, -, -, -⟩ := hf4
    clear hb2 hsm
    have B1 := Blk.new w2 32 #[.int .i64 f.ints, .int .i64 f.bools, .slice Aa f.atoms.length ca, .slice Ac f.clauses.length cc]
    have hb3 : Below w2.heap.size w2 (w2.alloc (.cells #[.int .i64 f.ints, .int .i64 f.bools, .slice Aa f.atoms.length ca, .slice Ac f.clauses.length cc] 32)) := (Below.refl _ _).alloc (Nat.le_refl _) _
    go_wp2_with fail
    generalize w2.alloc (.cells #[.int .i64 f.ints, .int .i64 f.bools, .slice Aa f.atoms.length ca, .slice Ac f.clauses.length cc] 32) = w3 at *
    have HBK := Lib.hid B1
    have HF3 := Lib.hid (HF2.out.keep hb3)
    have HB3 := Lib.hid (HB2.out.trans (hb3.mono HB2.out.size))
    clear B1 hb3
    have HAS : Hid (Asked f l) := Lib.hid (HSM.out.asked (by have := HS1.out; omega) (fun s hs => by have := HS2.out s hs; omega))
    refine (model_any _ _ _ f bools ints _ HF3.out (HBO.out.keep HB3.out) (HXI.out.keep HB3.out) HSM.out.q).mono ?_
    rintro e w4 ⟨bv, iv, bs, xs, rfl, hB, hX, hbl, hxl, hfit, hxb, hb4⟩
    have HF4 := Lib.hid (HF3.out.keep hb4)
    have HB4 := Lib.hid (HB3.out.trans (hb4.mono HB3.out.size))
    have HBK4 := Lib.hid (HBK.out.keep hb4)
    have HMB := Lib.hid hB
    have HMX := Lib.hid hX
    have HFIT := Lib.hid hfit
    have HXB := Lib.hid hxb
    obtain ⟨Amb, cmb, rfl, -, -, -⟩ := hB
    obtain ⟨Amx, cmx, rfl, -, -, -, -⟩ := hX
    have hb5 : Below w4.heap.size w4 (w4.alloc (.cells #[.slice Amb bs.length cmb, .slice Amx xs.length cmx] 45)) := (Below.refl _ _).alloc (Nat.le_refl _) _
    have HF5 := Lib.hid (HF4.out.keep hb5)
    have HB5 := Lib.hid (HB4.out.trans (hb5.mono HB4.out.size))
    have HBK5 := Lib.hid (HBK4.out.keep hb5)
    have HMK5 := Lib.hid (Blk.new w4 45 #[.slice Amb bs.length cmb, .slice Amx xs.length cmx])
    have HMB5 := Lib.hid (HMB.out.keep hb5)
    have HMX5 := Lib.hid (HMX.out.keep hb5)
    clear hb4 hfit hxb hb5 hbl hxl
    go_upto_region 5 with fail
    generalize w4.alloc (.cells #[.slice Amb bs.length cmb, .slice Amx xs.length cmx] 45) = w5 at *
    have q0 := HBK5.out.cell 0
    have q1 := HBK5.out.cell 1
    have q2 := HBK5.out.cell 2
    have q3 := HBK5.out.cell 3
    simp only [List.getElem?_toArray, List.getElem?_cons_zero, List.getElem?_cons_succ] at q0 q1 q2 q3
    go_wp2_with fail
    clear q0 q1 q2 q3
    refine (refuteAll_any _ f _ HF5.out HSM.out.q HSM.out.ten).mono ?_
    rintro e w6 ⟨hb6, ⟨rv, r, rfl, hr, hrf, hr1, hr2⟩ | ⟨bv2, iv2, bs2, xs2, rfl, hB2, hX2, -⟩⟩
    · have HR := Lib.hid hr
      have HRF := Lib.hid hrf
      have HAR : Hid (Asked f r) := Lib.hid (HSM.out.asked (by omega) (fun s hs => by have := hr2 s hs; omega))
      obtain ⟨Ar, cr, pr, er, rfl, er1, er2, -, -⟩ := hr
      have HPR : Hid (pr.length = r.length) := Lib.hid (by rw [er]; simp)
      have hb7 : Below w6.heap.size w6 (w6.alloc (.cells #[.slice none 0 0, .slice none 0 0] 45)) := (Below.refl _ _).alloc (Nat.le_refl _) _
      have hb57 := hb6.trans (hb7.mono hb6.size)
      have HB57 := Lib.hid hb57
      have HF7 := Lib.hid (HF5.out.keep hb57)
      have HB7 := Lib.hid (HB5.out.trans (hb57.mono HB5.out.size))
      have HBK7 := Lib.hid (HBK5.out.keep hb57)
      have HMK7 := Lib.hid (HMK5.out.keep hb57)
      have HMB7 := Lib.hid (HMB5.out.keep hb57)
      have HMX7 := Lib.hid (HMX5.out.keep hb57)
      have HR7 := Lib.hid (HR.out.keep hb7)
      clear hb6 hb7 hb57 er hrf hr1 hr2
      go_upto_region 6 with fail
      generalize w6.alloc (.cells #[.slice none 0 0, .slice none 0 0] 45) = w7 at *
      have q0 := HBK7.out.cell 0
      have q1 := HBK7.out.cell 1
      have q2 := HBK7.out.cell 2
      have q3 := HBK7.out.cell 3
      simp only [List.getElem?_toArray, List.getElem?_cons_zero, List.getElem?_cons_succ] at q0 q1 q2 q3
      go_wp2_with fail
      refine (pcheck_any _ _ f l _ HF7.out (HL.out.keep HB7.out) HAS.out).mono ?_
      rintro e w8 ⟨rfl, hb8⟩
      have HF8 := Lib.hid (HF7.out.keep hb8)
      have HB8 := Lib.hid (HB7.out.trans (hb8.mono HB7.out.size))
      have HBK8 := Lib.hid (HBK7.out.keep hb8)
      have HMK8 := Lib.hid (HMK7.out.keep hb8)
      have HMB8 := Lib.hid (HMB7.out.keep hb8)
      have HMX8 := Lib.hid (HMX7.out.keep hb8)
      have HR8 := Lib.hid (HR7.out.keep hb8)
      clear hb8 q0 q1 q2 q3
      have q0 := HBK8.out.cell 0
      have q1 := HBK8.out.cell 1
      have q2 := HBK8.out.cell 2
      have q3 := HBK8.out.cell 3
      simp only [List.getElem?_toArray, List.getElem?_cons_zero, List.getElem?_cons_succ] at q0 q1 q2 q3
      go_wp2_with fail
      refine (pcheck_any _ _ f r _ HF8.out HR8.out HAR.out).mono ?_
      rintro e w9 ⟨rfl, hb9⟩
      rw [HRF.out.chk]
      have HF9 := Lib.hid (HF8.out.keep hb9)
      have HB9 := Lib.hid (HB8.out.trans (hb9.mono HB8.out.size))
      have HBK9 := Lib.hid (HBK8.out.keep hb9)
      have HMK9 := Lib.hid (HMK8.out.keep hb9)
      have HMB9 := Lib.hid (HMB8.out.keep hb9)
      have HMX9 := Lib.hid (HMX8.out.keep hb9)
      clear hb9 q0 q1 q2 q3
      have q0 := HBK9.out.cell 0
      have q1 := HBK9.out.cell 1
      have q2 := HBK9.out.cell 2
      have q3 := HBK9.out.cell 3
      simp only [List.getElem?_toArray, List.getElem?_cons_zero, List.getElem?_cons_succ] at q0 q1 q2 q3
      have m0 := HMK9.out.cell 0
      have m1 := HMK9.out.cell 1
      simp only [List.getElem?_toArray, List.getElem?_cons_zero, List.getElem?_cons_succ] at m0 m1
      generalize hck : chk (runS f [] l) l.length = ck at *
      by_cases he : ck.2 = 0
      · clear hck
        have de : (ck.2 == 0) = true := by simp [he]
        clear he
        go_wp2_with fail
        refine (rsat_any _ _ xs bs _ _ f HF9.out HMB9.out HMX9.out HSM.out.valid (fun x hx => by have := HXB.out x hx; constructor <;> omega)).mono ?_
        rintro e wy ⟨⟨sb, rfl, hsb⟩, hby⟩
        have hsf : sb = false := by
          cases sb with
          | false => rfl
          | true => exact (refutes_no HRF.out HFIT.out (hsb.1 rfl).2.2.2).elim
        subst hsf
        have HBY := Lib.hid (HB9.out.trans (hby.mono HB9.out.size))
        clear hsb hby q0 q1 q2 q3 m0 m1
        go_wp2_with fail
        refine (awake33 _).mono ?_
        rintro e wz ⟨rfl, hbz⟩
        have HBZ := Lib.hid (HBY.out.trans (hbz.mono HBY.out.size))
        clear hbz
        go_wp2_with fail
        go_ret
        exact ⟨rfl, HBZ.out⟩
      · clear hck
        have de : (ck.2 == 0) = false := by simp [he]
        clear he
        go_wp2_with fail
        refine (rsat_any _ _ xs bs _ _ f HF9.out HMB9.out HMX9.out HSM.out.valid (fun x hx => by have := HXB.out x hx; constructor <;> omega)).mono ?_
        rintro e wy ⟨⟨sb, rfl, hsb⟩, hby⟩
        have hsf : sb = false := by
          cases sb with
          | false => rfl
          | true => exact (refutes_no HRF.out HFIT.out (hsb.1 rfl).2.2.2).elim
        subst hsf
        have HBY := Lib.hid (HB9.out.trans (hby.mono HB9.out.size))
        clear hsb hby q0 q1 q2 q3 m0 m1
        go_wp2_with fail
        refine (awake33 _).mono ?_
        rintro e wz ⟨rfl, hbz⟩
        have HBZ := Lib.hid (HBY.out.trans (hbz.mono HBY.out.size))
        clear hbz
        go_wp2_with fail
        go_ret
        exact ⟨rfl, HBZ.out⟩
    · obtain ⟨Ab2, cb2, rfl, -, -, -⟩ := hB2
      obtain ⟨Ax2, cx2, rfl, -, -, -, -⟩ := hX2
      have hb7 : Below w6.heap.size w6 (w6.alloc (.cells #[.slice Ab2 bs2.length cb2, .slice Ax2 xs2.length cx2] 45)) := (Below.refl _ _).alloc (Nat.le_refl _) _
      have hb57 := hb6.trans (hb7.mono hb6.size)
      have HB57 := Lib.hid hb57
      have HF7 := Lib.hid (HF5.out.keep hb57)
      have HB7 := Lib.hid (HB5.out.trans (hb57.mono HB5.out.size))
      have HBK7 := Lib.hid (HBK5.out.keep hb57)
      have HMK7 := Lib.hid (HMK5.out.keep hb57)
      have HMB7 := Lib.hid (HMB5.out.keep hb57)
      have HMX7 := Lib.hid (HMX5.out.keep hb57)
      clear hb6 hb7 hb57
      go_upto_region 6 with fail
      generalize w6.alloc (.cells #[.slice Ab2 bs2.length cb2, .slice Ax2 xs2.length cx2] 45) = w7 at *
      have q0 := HBK7.out.cell 0
      have q1 := HBK7.out.cell 1
      have q2 := HBK7.out.cell 2
      have q3 := HBK7.out.cell 3
      simp only [List.getElem?_toArray, List.getElem?_cons_zero, List.getElem?_cons_succ] at q0 q1 q2 q3
      go_wp2_with fail
      refine (pcheck_any _ _ f l _ HF7.out (HL.out.keep HB7.out) HAS.out).mono ?_
      rintro e w8 ⟨rfl, hb8⟩
      have HF8 := Lib.hid (HF7.out.keep hb8)
      have HB8 := Lib.hid (HB7.out.trans (hb8.mono HB7.out.size))
      have HBK8 := Lib.hid (HBK7.out.keep hb8)
      have HMK8 := Lib.hid (HMK7.out.keep hb8)
      have HMB8 := Lib.hid (HMB7.out.keep hb8)
      have HMX8 := Lib.hid (HMX7.out.keep hb8)
      clear hb8 q0 q1 q2 q3
      have q0 := HBK8.out.cell 0
      have q1 := HBK8.out.cell 1
      have q2 := HBK8.out.cell 2
      have q3 := HBK8.out.cell 3
      simp only [List.getElem?_toArray, List.getElem?_cons_zero, List.getElem?_cons_succ] at q0 q1 q2 q3
      go_wp2_with fail
      refine (pcheck_any _ _ f [] _ HF8.out (stps_nil _) (HSM.out.asked (by simp) (by simp))).mono ?_
      rintro e w9 ⟨rfl, hb9⟩
      rw [chk_nil]
      have HF9 := Lib.hid (HF8.out.keep hb9)
      have HB9 := Lib.hid (HB8.out.trans (hb9.mono HB8.out.size))
      have HBK9 := Lib.hid (HBK8.out.keep hb9)
      have HMK9 := Lib.hid (HMK8.out.keep hb9)
      have HMB9 := Lib.hid (HMB8.out.keep hb9)
      have HMX9 := Lib.hid (HMX8.out.keep hb9)
      clear hb9 q0 q1 q2 q3
      have q0 := HBK9.out.cell 0
      have q1 := HBK9.out.cell 1
      have q2 := HBK9.out.cell 2
      have q3 := HBK9.out.cell 3
      simp only [List.getElem?_toArray, List.getElem?_cons_zero, List.getElem?_cons_succ] at q0 q1 q2 q3
      have m0 := HMK9.out.cell 0
      have m1 := HMK9.out.cell 1
      simp only [List.getElem?_toArray, List.getElem?_cons_zero, List.getElem?_cons_succ] at m0 m1
      generalize hck : chk (runS f [] l) l.length = ck at *
      by_cases he : ck.2 = 0
      · have HREF : Hid (Refutes f l) := Lib.hid (chk_refutes (by rw [hck]; exact he))
        have de : (ck.2 == 0) = true := by simp [he]
        clear hck he
        go_wp2_with fail
        refine (rsat_any _ _ xs bs _ _ f HF9.out HMB9.out HMX9.out HSM.out.valid (fun x hx => by have := HXB.out x hx; constructor <;> omega)).mono ?_
        rintro e wy ⟨⟨sb, rfl, hsb⟩, hby⟩
        have hsf : sb = false := by
          cases sb with
          | false => rfl
          | true => exact (refutes_no HREF.out HFIT.out (hsb.1 rfl).2.2.2).elim
        subst hsf
        have HBY := Lib.hid (HB9.out.trans (hby.mono HB9.out.size))
        clear hsb hby q0 q1 q2 q3 m0 m1
        go_wp2_with fail
        refine (awake33 _).mono ?_
        rintro e wz ⟨rfl, hbz⟩
        have HBZ := Lib.hid (HBY.out.trans (hbz.mono HBY.out.size))
        clear hbz
        go_wp2_with fail
        go_ret
        exact ⟨rfl, HBZ.out⟩
      · have de : (ck.2 == 0) = false := by simp [he]
        clear hck he
        go_wp2_with fail
        refine (awake33 _).mono ?_
        rintro e wz ⟨rfl, hbz⟩
        have HBZ := Lib.hid (HB9.out.trans (hbz.mono HB9.out.size))
        clear hbz
        go_wp2_with fail
        go_ret
        exact ⟨rfl, HBZ.out⟩
  · clear hlg
    go_wp2_with fail
    refine (awake33 _).mono ?_
    rintro e wz ⟨rfl, hbz⟩
    have HBZ := Lib.hid (HB.out.trans (hbz.mono HB.out.size))
    clear hbz
    go_wp2_with fail
    go_ret
    exact ⟨rfl, HBZ.out⟩
end Go.Proofs.Ytdmndikenejhiaa
