/-
  WALK: interleavelaw33.ProofTrimAgain.
-/
import Derived.Test.YtdmndikenejhiaaTrimP
import Derived.Test.YtdmndikenejhiaaSameSteps
namespace Go.Proofs.Ytdmndikenejhiaa
open Go.RowKit

theorem trim_lits {f : Form} {l : List Stp} (h : Refutes f l) {M : Nat} (hl : ∀ s ∈ l, s.lits.length ≤ M) : ∀ s ∈ trim l, s.lits.length ≤ M := by
  obtain ⟨cs, hg, -, -⟩ := h
  intro s hs
  rw [trim_is hg.back hg.kinds] at hs
  obtain ⟨i, hi, rfl⟩ := List.mem_map.1 hs
  obtain ⟨h1, h2⟩ := ndIx_mem hi
  have hm : l.getD i s0 ∈ l := by rw [List.getD_eq_getElem?_getD, List.getElem?_eq_getElem h1]; exact List.getElem_mem h1
  have := hl _ hm
  unfold bareR
  split
  · simp
  · split
    · exact this
    · simp

set_option maxRecDepth 100000 in
set_option maxHeartbeats 2000000 in
theorem lawTrimAgain (pv : Value) (a b c : Int) (L : List Int) (w : World) (hp : IsProb w pv a b c L) :
    Calls Try.prog 9 #[pv] w fun e w' => e = .returned (.bool true) ∧ Below w.heap.size w w' := by
  have HP := Lib.hid hp
  obtain ⟨nv, rfl, -, -, -, hL⟩ := hp
  obtain ⟨An, cn, rfl, -, -, -, -⟩ := hL
  have HB : Hid (Below w.heap.size w (w.alloc (.cells #[.int .u8 a, .int .u8 b, .int .u8 c, .slice An L.length cn] 25))) := (Below.refl _ _).alloc (Nat.le_refl _) _
  go_enter Try.func9, Try.ntmps9
  go_wp2_with fail
  generalize w.alloc (.cells #[.int .u8 a, .int .u8 b, .int .u8 c, .slice An L.length cn] 25) = W at *
  refine (small_any _ a b c L _ ?hp).mono ?_
  case hp => obtain ⟨nv, e1, e2⟩ := HP.out; exact ⟨_, rfl, e2.1, e2.2.1, e2.2.2.1, by injection e1 with e1; simp only [Array.mk.injEq, List.cons.injEq, and_true, true_and] at e1; rw [e1]; exact e2.2.2.2.keep HB.out⟩
  rintro e w2 ⟨fv, f, rfl, hf, hsm, hb2⟩
  have HB2 := Lib.hid (HB.out.trans (hb2.mono HB.out.size))
  have HF2 := Lib.hid hf
  have HSM := Lib.hid hsm
  obtain ⟨av, cv, rfl, -, -, hf3, hf4⟩ := hf
  obtain ⟨Aa, ca, rfl, -, -, -, -⟩ := hf3
  obtain ⟨Ac, cc, vs, rfl, -, -, -, -, -⟩ := hf4
  clear hb2 hsm
  have B1 := Blk.new w2 32 #[.int .i64 f.ints, .int .i64 f.bools, .slice Aa f.atoms.length ca, .slice Ac f.clauses.length cc]
  have hb3 : Below w2.heap.size w2 (w2.alloc (.cells #[.int .i64 f.ints, .int .i64 f.bools, .slice Aa f.atoms.length ca, .slice Ac f.clauses.length cc] 32)) := (Below.refl _ _).alloc (Nat.le_refl _) _
  go_wp2_with fail
  generalize w2.alloc (.cells #[.int .i64 f.ints, .int .i64 f.bools, .slice Aa f.atoms.length ca, .slice Ac f.clauses.length cc] 32) = w3 at *
  have HBK := Lib.hid B1
  have HF3 := Lib.hid (HF2.out.keep hb3)
  have HB3 := Lib.hid (HB2.out.trans (hb3.mono HB2.out.size))
  clear B1 hb3
  refine (refuteAll_any _ f _ HF3.out HSM.out.q HSM.out.ten).mono ?_
  rintro e w4 ⟨hb4, ⟨lv, l, rfl, hl, hrf, hl1, hl2⟩ | ⟨bv, iv, bs, xs, rfl, hB, hX, hbl, hxl, hfit, hcls, hxb⟩⟩
  · have HF4 := Lib.hid (HF3.out.keep hb4)
    have HB4 := Lib.hid (HB3.out.trans (hb4.mono HB3.out.size))
    have HBK4 := Lib.hid (HBK.out.keep hb4)
    have HL := Lib.hid hl
    have HRF := Lib.hid hrf
    have HL2 := Lib.hid hl2
    have hb5 : Below w4.heap.size w4 (w4.alloc (.cells #[.slice none 0 0, .slice none 0 0] 45)) := (Below.refl _ _).alloc (Nat.le_refl _) _
    have HF5 := Lib.hid (HF4.out.keep hb5)
    have HL5 := Lib.hid (HL.out.keep hb5)
    have HB5 := Lib.hid (HB4.out.trans (hb5.mono HB4.out.size))
    have HBK5 := Lib.hid (HBK4.out.keep hb5)
    clear hb4 hl hrf hl2 hb5
    go_upto_region 5 with fail
    generalize w4.alloc (.cells #[.slice none 0 0, .slice none 0 0] 45) = w5 at *
    have HAS : Hid (Asked f l) := Lib.hid (HSM.out.asked (by omega) (fun s hs => by have := HL2.out s hs; omega))
    have HTL : Hid (Asked f (trim l)) := Lib.hid (HSM.out.asked (by have := (trim_refutes HRF.out).2; omega) (fun s hs => by have := trim_lits HRF.out HL2.out s hs; omega))
    obtain ⟨A, cl, ps, e1, e2, -, -, -, -⟩ := HL5.out
    have HPL : Hid (ps.length = l.length) := Lib.hid (by rw [e1]; simp)
    subst e2
    clear e1
    have q0 := HBK5.out.cell 0
    have q1 := HBK5.out.cell 1
    have q2 := HBK5.out.cell 2
    have q3 := HBK5.out.cell 3
    simp only [List.getElem?_toArray, List.getElem?_cons_zero, List.getElem?_cons_succ] at q0 q1 q2 q3
    go_wp2_with fail
    refine (trim_any _ _ f l _ HF5.out HL5.out HAS.out).mono ?_
    rintro e w6 ⟨hb6, ⟨-, v6, ps6, rfl, hps6, hos6⟩ | ⟨hno, -⟩⟩
    · have HB6 := Lib.hid (HB5.out.trans (hb6.mono HB5.out.size))
      have HF6 := Lib.hid (HF5.out.keep hb6)
      have HBK6 := Lib.hid (HBK5.out.keep hb6)
      have HS6 : Hid (Stps w6 v6 (trim l)) := Lib.hid (by rw [← hps6]; exact hos6.stps)
      have hlen : ps6.length ≤ ps.length := by
        have h1 := congrArg List.length hps6
        have h2 := (trim_refutes HRF.out).2
        have h3 := HPL.out
        simp at h1; omega
      obtain ⟨A6, c6, e6, -, -, -⟩ := owns_rd hos6.1
      subst e6
      clear hb6 hps6 hos6 q0 q1 q2 q3
      have q0 := HBK6.out.cell 0
      have q1 := HBK6.out.cell 1
      have q2 := HBK6.out.cell 2
      have q3 := HBK6.out.cell 3
      simp only [List.getElem?_toArray, List.getElem?_cons_zero, List.getElem?_cons_succ] at q0 q1 q2 q3
      go_wp2_with fail
      refine (pcheck_any _ _ f (trim l) _ HF6.out HS6.out HTL.out).mono ?_
      rintro e w7 ⟨rfl, hb7⟩
      rw [(trim_refutes HRF.out).1.chk]
      have HB7 := Lib.hid (HB6.out.trans (hb7.mono HB6.out.size))
      have HF7 := Lib.hid (HF6.out.keep hb7)
      have HBK7 := Lib.hid (HBK6.out.keep hb7)
      have HS7 := Lib.hid (HS6.out.keep hb7)
      clear hb7 q0 q1 q2 q3
      have q0 := HBK7.out.cell 0
      have q1 := HBK7.out.cell 1
      have q2 := HBK7.out.cell 2
      have q3 := HBK7.out.cell 3
      simp only [List.getElem?_toArray, List.getElem?_cons_zero, List.getElem?_cons_succ] at q0 q1 q2 q3
      go_wp2_with fail
      refine (trim_any _ _ f (trim l) _ HF7.out HS7.out HTL.out).mono ?_
      rintro e w8 ⟨hb8, ⟨-, v8, ps8, rfl, hps8, hos8⟩ | ⟨hno, -⟩⟩
      · have HB8 := Lib.hid (HB7.out.trans (hb8.mono HB7.out.size))
        have HS8 := Lib.hid (HS7.out.keep hb8)
        have HT8 : Hid (Stps w8 v8 (trim l)) := Lib.hid (by rw [← trim_trim HRF.out, ← hps8]; exact hos8.stps)
        obtain ⟨A8, c8, e8, -, -, -⟩ := owns_rd hos8.1
        subst e8
        clear hb8 hps8 hos8 q0 q1 q2 q3
        have HCS := Lib.hid (sameSteps_any _ _ (trim l) _ HS8.out HT8.out)
        go_wp2_with fail
        refine HCS.out.mono ?_
        rintro e w9 ⟨rfl, hb9⟩
        have HB9 := Lib.hid (HB8.out.trans (hb9.mono HB8.out.size))
        clear hb9
        go_wp2_with fail
        refine (awake33 _).mono ?_
        rintro e wz ⟨rfl, hbz⟩
        have HBZ := Lib.hid (HB9.out.trans (hbz.mono HB9.out.size))
        clear hbz
        go_wp2_with fail
        go_ret
        exact ⟨rfl, HBZ.out⟩
      · exact absurd (trim_refutes HRF.out).1 hno
    · exact absurd HRF.out hno
  · have HB4 := Lib.hid (HB3.out.trans (hb4.mono HB3.out.size))
    have HB5 : Hid (Below w.heap.size w (w4.alloc (.cells #[bv, iv] 45))) := Lib.hid (HB4.out.alloc HB4.out.size _)
    obtain ⟨Ab, cb, rfl, -, -, -⟩ := hB
    obtain ⟨Ai, ci, rfl, -, -, -, -⟩ := hX
    clear hb4 hfit hcls hxb hbl hxl
    go_wp2_with fail
    refine (awake33 _).mono ?_
    rintro e wz ⟨rfl, hbz⟩
    have HBZ := Lib.hid (HB5.out.trans (hbz.mono HB5.out.size))
    clear hbz
    go_wp2_with fail
    go_ret
    exact ⟨rfl, HBZ.out⟩
end Go.Proofs.Ytdmndikenejhiaa
