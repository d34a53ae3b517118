/-
  WALK: interleavelaw33.ProofDerives.
-/
import Derived.Test.YtdmndikenejhiaaLawAccepts
import Derived.Test.YtdmndikenejhiaaLawClauses2
import Derived.Test.YtdmndikenejhiaaMdl
import Derived.Test.YtdmndikenejhiaaAnyR
namespace Go.Proofs.Ytdmndikenejhiaa
open Go.RowKit

/-- A formula without its clauses. -/
def bareF (f : Form) : Form := ⟨f.ints, f.bools, f.atoms, []⟩
theorem SmallF.bare {a b c : Int} {f : Form} (h : SmallF a b c f) : SmallF a b c (bareF f) := ⟨h.1, h.2.1, h.2.2.1, by simp [bareF], h.2.2.2.2.1, by simp [bareF]⟩
theorem ClsRet.one {w w' : World} {r : List (List Int) × Bool} {e : Ending} (h : ClsRet w r e w') : ∃ v n m, e = .returned (.tuple #[v, .int .i64 n, .int .i64 m]) ∧ Below w.heap.size w w' ∧ ((m = 0 ∧ ∃ us, OwnMat w' w.heap.size (fun b => w.heap.size ≤ b) v us r.1) ∨ (m = 15 ∧ v = .slice none 0 0)) := by
  rcases h with ⟨_, v, h1, us, h2, h3⟩ | ⟨_, h1, h2⟩
  · exact ⟨v, 0, 0, h1, h3, .inl ⟨rfl, us, h2⟩⟩
  · exact ⟨_, _, 15, h1, h2, .inr ⟨rfl, rfl⟩⟩
theorem mat_nil (w : World) : Mat w (.slice none 0 0) [] := ⟨none, 0, [], rfl, by simp, by simp [maxLen], rfl, Rd.nil _ _, by simp⟩

set_option maxRecDepth 100000 in
set_option maxHeartbeats 2000000 in
theorem lawDerives (pv tv iv : Value) (a b c : Int) (L : List Int) (xs : List (Int × Int × Int)) (ints : List Int) (w : World) (hp : IsProb w pv a b c L) (ht : Trips w tv xs) (hxi : I8s w iv ints) :
    Calls Try.prog 8 #[pv, tv, iv] w fun e w' => e = .returned (.bool true) ∧ Below w.heap.size w w' := by
  have HT := Lib.hid ht
  have HXI := Lib.hid hxi
  obtain ⟨At, ct, rfl, -, -, -, -⟩ := ht
  obtain ⟨Ax, cx, rfl, -, -, -, -⟩ := hxi
  have HP := Lib.hid hp
  obtain ⟨nv, rfl, -, -, -, hL⟩ := hp
  obtain ⟨An, cn, rfl, -, -, -, -⟩ := hL
  have HB : Hid (Below w.heap.size w (w.alloc (.cells #[.int .u8 a, .int .u8 b, .int .u8 c, .slice An L.length cn] 25))) := (Below.refl _ _).alloc (Nat.le_refl _) _
  go_enter Try.func8, Try.ntmps8
  go_wp2_with fail
  generalize w.alloc (.cells #[.int .u8 a, .int .u8 b, .int .u8 c, .slice An L.length cn] 25) = W at *
  refine (small_any _ a b c L _ ?hp).mono ?_
  case hp => obtain ⟨nv, e1, e2⟩ := HP.out; exact ⟨_, rfl, e2.1, e2.2.1, e2.2.2.1, by injection e1 with e1; simp only [Array.mk.injEq, List.cons.injEq, and_true, true_and] at e1; rw [e1]; exact e2.2.2.2.keep HB.out⟩
  rintro e w2 ⟨fv, f, rfl, hf, hsm, hb2⟩
  have HB2 := Lib.hid (HB.out.trans (hb2.mono HB.out.size))
  have HF2 := Lib.hid hf
  have HSM := Lib.hid hsm
  obtain ⟨av, cv, rfl, -, -, hf3, hf4⟩ := hf
  obtain ⟨Aa, ca, rfl, -, -, -, -⟩ := hf3
  obtain ⟨Ac, cc, vs, rfl, -, -, -, -, -⟩ := hf4
  clear hb2 hsm
  have B1 := Blk.new w2 32 #[.int .i64 f.ints, .int .i64 f.bools, .slice Aa f.atoms.length ca, .slice Ac f.clauses.length cc]
  have hb3 : Below w2.heap.size w2 (w2.alloc (.cells #[.int .i64 f.ints, .int .i64 f.bools, .slice Aa f.atoms.length ca, .slice Ac f.clauses.length cc] 32)) := (Below.refl _ _).alloc (Nat.le_refl _) _
  go_wp2_with fail
  generalize w2.alloc (.cells #[.int .i64 f.ints, .int .i64 f.bools, .slice Aa f.atoms.length ca, .slice Ac f.clauses.length cc] 32) = w3 at *
  have HBK := Lib.hid B1
  have HF3 := Lib.hid (HF2.out.keep hb3)
  have HB3 := Lib.hid (HB2.out.trans (hb3.mono HB2.out.size))
  have HB23 := Lib.hid hb3
  clear B1 hb3
  refine (refuteAll_any _ f _ HF3.out HSM.out.q HSM.out.ten).mono ?_
  rintro e w4 ⟨hb4, ⟨lv, l, rfl, hl, hrf, hl1, hl2⟩ | ⟨bv, iv, bs, ys, rfl, hB, hX, hbl, hxl, hfit, hcls, hxb⟩⟩
  · have HF4 := Lib.hid (HF3.out.keep hb4)
    have HB4 := Lib.hid (HB3.out.trans (hb4.mono HB3.out.size))
    have HBK4 := Lib.hid (HBK.out.keep hb4)
    have HL := Lib.hid hl
    have HRF := Lib.hid hrf
    have HL2 := Lib.hid hl2
    have hb5 : Below w4.heap.size w4 (w4.alloc (.cells #[.slice none 0 0, .slice none 0 0] 45)) := (Below.refl _ _).alloc (Nat.le_refl _) _
    have HF5 := Lib.hid (HF4.out.keep hb5)
    have HL5 := Lib.hid (HL.out.keep hb5)
    have HB5 := Lib.hid (HB4.out.trans (hb5.mono HB4.out.size))
    have HBK5 := Lib.hid (HBK4.out.keep hb5)
    have HF2BN := HB23.out.trans ((hb4.trans (hb5.mono hb4.size)).mono HB23.out.size)
    clear hb4 hl hrf hl2 hb5
    go_upto_region 4 with fail
    have HMKN := Blk.new w4 45 #[.slice none 0 0, .slice none 0 0]
    generalize w4.alloc (.cells #[.slice none 0 0, .slice none 0 0] 45) = w5 at *
    have q0 := HBK5.out.cell 0
    have q1 := HBK5.out.cell 1
    have q2 := HBK5.out.cell 2
    have q3 := HBK5.out.cell 3
    simp only [List.getElem?_toArray, List.getElem?_cons_zero, List.getElem?_cons_succ] at q0 q1 q2 q3
    have HX5 := Lib.hid (HXI.out.keep HB5.out)
    have HF2B := Lib.hid HF2BN
    have HMK5 : Hid (Blk w5 w4.heap.size 45 #[.slice none 0 0, .slice none 0 0]) := HMKN
    go_wp2_with fail
    refine (model2_any _ _ _ f [] ints _ HF5.out ⟨none, 0, rfl, by simp, by simp [maxLen], Rd.nil _ _⟩ HX5.out HSM.out.q).mono ?_
    rintro e w6 ⟨gb, gx, bs, ys, rfl, hB, hX, hgb, hgx, hbl, hxl, hfit, hxb, hb6⟩
    have HB6 := Lib.hid (HB5.out.trans (hb6.mono HB5.out.size))
    have HBK6 := Lib.hid (HBK5.out.keep hb6)
    have HMK6 := Lib.hid (HMK5.out.keep hb6)
    have h4 : w4.heap.size < w5.heap.size := HMK5.out.lt
    have h2 : w2.heap.size < w4.heap.size := HBK4.out.lt
    have hw : w.heap.size ≤ w2.heap.size := HB2.out.size
    have hs1 : w6.grownBy ((w6.setCell ⟨w4.heap.size, 0, none⟩ (.slice (some ⟨gb, 0, none⟩) bs.length bs.length)).setCell ⟨w4.heap.size, 1, none⟩ (.slice (some ⟨gx, 0, none⟩) ys.length ys.length)) (some w4.heap.size) := grownBy_trans (grownBy_set0 _ _ _ _) (grownBy_set0 _ _ _ _)
    have M7 := (HMK6.out.set_ 0 (.slice (some ⟨gb, 0, none⟩) bs.length bs.length)).set_ 1 (.slice (some ⟨gx, 0, none⟩) ys.length ys.length)
    have HMB7 := hB.grown hs1 (by simp; omega)
    have HMX7 := hX.grown hs1 (by simp; omega)
    have HBK7 := HBK6.out.grown hs1 (by simp; omega)
    have HBL7 := HB6.out.grown hs1 HB6.out.size fun g e => by injection e with e; omega
    have HF7 := (HF2B.out.trans (hb6.mono HF2B.out.size)).grown hs1 (HF2B.out.trans (hb6.mono HF2B.out.size)).size fun g e => by injection e with e; omega
    have t0 := HMK6.out.cell 0
    have t1 := HMK6.out.cell 1
    have z0 := HMK6.out.frozen 0
    have z1 := HMK6.out.frozen 1
    simp only [List.getElem?_toArray, List.getElem?_cons_zero, List.getElem?_cons_succ] at t0 t1
    clear q0 q1 q2 q3
    go_upto_region 5 with fail
    generalize (w6.setCell ⟨w4.heap.size, 0, none⟩ (.slice (some ⟨gb, 0, none⟩) bs.length bs.length)).setCell ⟨w4.heap.size, 1, none⟩ (.slice (some ⟨gx, 0, none⟩) ys.length ys.length) = w7 at *
    have hs2 : w7.grownBy (w7.setCell ⟨w2.heap.size, 3, none⟩ (.slice none 0 0)) (some w2.heap.size) := grownBy_set0 _ _ _ _
    have M8 := M7.grown hs2 (by simp; omega)
    have HMB8 := Lib.hid (Blk.bools (HMB7.grown hs2 (by simp; omega)) (by have := HSM.out.q.bl; unfold maxLen; omega))
    have HMX8 := Lib.hid (Blk.ints (HMX7.grown hs2 (by simp; omega)) (fun x hx => by have := hxb x hx; constructor <;> omega) (by have := HSM.out.q.i1; unfold maxLen; omega))
    have HBK8 := Lib.hid (show Blk (w7.setCell ⟨w2.heap.size, 3, none⟩ (.slice none 0 0)) w2.heap.size 32 #[.int .i64 f.ints, .int .i64 f.bools, .slice Aa f.atoms.length ca, .slice none 0 0] from HBK7.set_ 3 _)
    have HB8 := Lib.hid (HBL7.grown hs2 HBL7.size fun g e => by injection e with e; omega)
    have HF8B := HF7.grown hs2 HF7.size fun g e => by injection e with e; omega
    have HF8 : Hid (IsForm (w7.setCell ⟨w2.heap.size, 3, none⟩ (.slice none 0 0)) (.agg #[.int .i64 f.ints, .int .i64 f.bools, .slice Aa f.atoms.length ca, .slice none 0 0]) (bareF f)) := by
      refine Lib.hid ?_
      obtain ⟨av, cv, ee, g1, g2, g3, g4⟩ := HF2.out.keep HF8B
      injection ee with ee
      simp only [Array.mk.injEq, List.cons.injEq, and_true, true_and] at ee
      obtain ⟨ee1, ee2⟩ := ee
      subst ee1
      exact ⟨_, _, rfl, g1, g2, g3, mat_nil _⟩
    have HMK8 : Hid (Blk (w7.setCell ⟨w2.heap.size, 3, none⟩ (.slice none 0 0)) w4.heap.size 45 #[.slice (some ⟨gb, 0, none⟩) bs.length bs.length, .slice (some ⟨gx, 0, none⟩) ys.length ys.length]) := M8
    have HFIT : Hid (Fits (bareF f).atoms bs ys) := hfit
    have HCLS : Hid (∀ c ∈ (bareF f).clauses, c.any (holds bs) = true) := Lib.hid (by simp [bareF])
    have HSMB := Lib.hid HSM.out.bare
    have y3 := HBK7.cell 3
    have u3 := HBK7.frozen 3
    simp only [List.getElem?_toArray, List.getElem?_cons_zero, List.getElem?_cons_succ] at y3
    clear t0 t1 z0 z1 hs1 M7 HMB7 HMX7 HBK7 HBL7 HF7 hs2 M8 HF8B hB hX hgb hgx hbl hxl hfit hxb hb6
    go_upto_region 6 with fail
    generalize w7.setCell ⟨w2.heap.size, 3, none⟩ (.slice none 0 0) = w8 at *
    clear y3 u3
    have hlt := HBK8.out.lt
    have q0 := HBK8.out.cell 0
    have q1 := HBK8.out.cell 1
    have q2 := HBK8.out.cell 2
    have q3 := HBK8.out.cell 3
    simp only [List.getElem?_toArray, List.getElem?_cons_zero, List.getElem?_cons_succ] at q0 q1 q2 q3
    have HSOF : Hid (∀ w', Below w8.heap.size w8 w' → w'.cell? ⟨w2.heap.size, 0, none⟩ = some (.int .i64 f.ints) ∧ w'.cell? ⟨w2.heap.size, 1, none⟩ = some (.int .i64 f.bools) ∧ w'.cell? ⟨w2.heap.size, 2, none⟩ = some (.slice Aa f.atoms.length ca) ∧ w'.cell? ⟨w2.heap.size, 3, none⟩ = some (.slice none 0 0) ∧ Below w8.heap.size w8 w') :=
      fun w' h => ⟨(h.cell (p := ⟨w2.heap.size, 0, none⟩) hlt).trans q0, (h.cell (p := ⟨w2.heap.size, 1, none⟩) hlt).trans q1, (h.cell (p := ⟨w2.heap.size, 2, none⟩) hlt).trans q2, (h.cell (p := ⟨w2.heap.size, 3, none⟩) hlt).trans q3, h⟩
    clear q0 q1 q2 q3 hlt
    go_region_held3 (fun w' => w'.cell? ⟨w2.heap.size, 0, none⟩ = some (.int .i64 f.ints) ∧ w'.cell? ⟨w2.heap.size, 1, none⟩ = some (.int .i64 f.bools) ∧ w'.cell? ⟨w2.heap.size, 2, none⟩ = some (.slice Aa f.atoms.length ca) ∧ w'.cell? ⟨w2.heap.size, 3, none⟩ = some (.slice none 0 0) ∧ Below w8.heap.size w8 w') (first | assumption | exact HSOF.out _ (Below.refl _ _).drew) (first
      | (go_at_call 18; refine (steps_any _ _ (bareF f) xs _ (HF8.out.keep (Below.refl _ _).drew) (HT.out.keep HB8.out.drew) HSMB.out.valid (fun x hx => by have := (HSMB.out.2.2.2.2.2 x hx).2.1; omega) HSMB.out.pos.1 HSMB.out.pos.2).mono ?_; rintro e wa ⟨lva, la, rfl, hla, hla1, hla2, hba⟩; have hsa := HSOF.out wa (Below.trans (Below.refl _ _).drew hba); have HLA := Lib.hid hla; have HASA : Hid (Asked (bareF f) la) := HSMB.out.asked (by omega) (fun s hs => by have := hla2 s hs; omega); clear hla hla1 hla2)
      | (go_at_call 23; refine (pclauses_any _ _ (bareF f) la _ (HF8.out.keep hsa.2.2.2.2) HLA.out HASA.out).mono ?_; rintro e wb hcl; obtain ⟨vb, nb, mb, rfl, hbb, hcase⟩ := hcl.one; have hsb := HSOF.out wb (hsa.2.2.2.2.trans (hbb.mono hsa.2.2.2.2.size))))
    rcases hcase with ⟨rfl, usb, hmb⟩ | ⟨rfl, rfl⟩
    · have HRUN : Hid (∀ c ∈ (runS (bareF f) [] la).1, c.any (holds bs) = true) := Lib.hid (runS_holds (f := (bareF f)) HFIT.out HCLS.out (a := []) (b := (runS (bareF f) [] la).2) (l := la) rfl (by simp))
      have HMT := Lib.hid hmb.mat
      generalize (runS (bareF f) [] la).1 = css at *
      have HBB := Lib.hid hsb.2.2.2.2
      have HBW := Lib.hid (HB8.out.trans (hsb.2.2.2.2.mono HB8.out.size))
      obtain ⟨Ab', cb', vsb, rfl, mb1, mb2, mb3, mb4, mb5⟩ := HMT.out
      unfold maxLen at mb2
      have HQ3 := Lib.hid mb3
      have HQ4 := Lib.hid mb4
      have HQ5 := Lib.hid mb5
      clear hsa hsb hba hbb hcl hmb mb3 mb4 mb5
      go_wp2_with fail
      go_loopw [48] (fun i wr => ∃ k : Nat, k ≤ css.length ∧ i = .int .i64 k ∧ Below wb.heap.size wb wr) (fun i _ => css.length - (intOf i).toNat)
      case atStart => exact ⟨0, by omega, rfl, Below.refl _ _⟩
      case round =>
        obtain ⟨k, hk, rfl, hbw⟩ := hrel
        have HBR := Lib.hid hbw
        clear hbw
        by_cases hkc : k < css.length
        · obtain ⟨zc, hzc⟩ : ∃ zc, css[k]? = some zc := ⟨_, List.getElem?_eq_getElem hkc⟩
          obtain ⟨b1', off1, A1', c1', rfl, hb1', hc1', hi1'⟩ := Mat.at_ (HQ4.out.keep HBR.out) HQ3.out (fun k u xs a b => (HQ5.out k u xs a b).keep HBR.out) hzc
          have hany := HRUN.out zc (List.mem_of_getElem? hzc)
          have HIN := Lib.hid hi1'
          have HMKr := Lib.hid ((HMK8.out.keep HBB.out).keep HBR.out)
          have m0 := HMKr.out.cell 0
          have m1 := HMKr.out.cell 1
          simp only [List.getElem?_toArray, List.getElem?_cons_zero, List.getElem?_cons_succ] at m0 m1
          have HC := Lib.hid (rany_any _ (.slice (some ⟨gx, 0, none⟩) ys.length ys.length) bs _ zc _ HIN.out ((HMB8.out.keep HBB.out).keep HBR.out))
          rw [hany] at HC
          clear hany hzc hi1'
          go_wp2_with fail
          refine HC.out.mono ?_
          rintro e wc' ⟨rfl, hbc⟩
          have HBC := Lib.hid (HBR.out.trans (hbc.mono HBR.out.size))
          clear hbc m0 m1 hc1' HC
          go_wp2_with fail
          go_roundw
          case rel => exact ⟨k + 1, by omega, by go_num, HBC.out⟩
          case measure => simp [intOf]; omega
        · have HBX := Lib.hid (HBW.out.trans (HBR.out.mono HBW.out.size))
          go_wp2_with fail
          refine (awake33 _).mono ?_
          rintro e wz ⟨rfl, hbz⟩
          have HBZ := Lib.hid (HBX.out.trans (hbz.mono HBX.out.size))
          clear hbz
          go_wp2_with fail
          go_ret
          exact ⟨rfl, HBZ.out⟩
    · have HBW := Lib.hid (HB8.out.trans (hsb.2.2.2.2.mono HB8.out.size))
      clear hsa hsb hba hbb hcl
      go_wp2_with fail
      refine (awake33 _).mono ?_
      rintro e wz ⟨rfl, hbz⟩
      have HBZ := Lib.hid (HBW.out.trans (hbz.mono HBW.out.size))
      clear hbz
      go_wp2_with fail
      go_ret
      exact ⟨rfl, HBZ.out⟩
  · have HF4 := Lib.hid (HF3.out.keep hb4)
    have HB4 := Lib.hid (HB3.out.trans (hb4.mono HB3.out.size))
    have HBK4 := Lib.hid (HBK.out.keep hb4)
    have HMB := Lib.hid hB
    have HMX := Lib.hid hX
    have HFIT := Lib.hid hfit
    have HCLS := Lib.hid hcls
    obtain ⟨Ab, cb, rfl, -, -, -⟩ := hB
    obtain ⟨Ai, ci, rfl, -, -, -, -⟩ := hX
    have hb5 : Below w4.heap.size w4 (w4.alloc (.cells #[.slice Ab bs.length cb, .slice Ai ys.length ci] 45)) := (Below.refl _ _).alloc (Nat.le_refl _) _
    have HF5 := Lib.hid (HF4.out.keep hb5)
    have HB5 := Lib.hid (HB4.out.trans (hb5.mono HB4.out.size))
    have HBK5 := Lib.hid (HBK4.out.keep hb5)
    have HMK5 := Lib.hid (Blk.new w4 45 #[.slice Ab bs.length cb, .slice Ai ys.length ci])
    have HMB5 := Lib.hid (HMB.out.keep hb5)
    have HMX5 := Lib.hid (HMX.out.keep hb5)
    clear hb4 hb5 hfit hcls hxb hbl hxl
    go_upto_region 6 with fail
    generalize w4.alloc (.cells #[.slice Ab bs.length cb, .slice Ai ys.length ci] 45) = w5 at *
    have hlt := HBK5.out.lt
    have q0 := HBK5.out.cell 0
    have q1 := HBK5.out.cell 1
    have q2 := HBK5.out.cell 2
    have q3 := HBK5.out.cell 3
    simp only [List.getElem?_toArray, List.getElem?_cons_zero, List.getElem?_cons_succ] at q0 q1 q2 q3
    have HSOF : Hid (∀ w', Below w5.heap.size w5 w' → w'.cell? ⟨w2.heap.size, 0, none⟩ = some (.int .i64 f.ints) ∧ w'.cell? ⟨w2.heap.size, 1, none⟩ = some (.int .i64 f.bools) ∧ w'.cell? ⟨w2.heap.size, 2, none⟩ = some (.slice Aa f.atoms.length ca) ∧ w'.cell? ⟨w2.heap.size, 3, none⟩ = some (.slice Ac f.clauses.length cc) ∧ Below w5.heap.size w5 w') :=
      fun w' h => ⟨(h.cell (p := ⟨w2.heap.size, 0, none⟩) hlt).trans q0, (h.cell (p := ⟨w2.heap.size, 1, none⟩) hlt).trans q1, (h.cell (p := ⟨w2.heap.size, 2, none⟩) hlt).trans q2, (h.cell (p := ⟨w2.heap.size, 3, none⟩) hlt).trans q3, h⟩
    clear q0 q1 q2 q3 hlt
    go_region_held3 (fun w' => w'.cell? ⟨w2.heap.size, 0, none⟩ = some (.int .i64 f.ints) ∧ w'.cell? ⟨w2.heap.size, 1, none⟩ = some (.int .i64 f.bools) ∧ w'.cell? ⟨w2.heap.size, 2, none⟩ = some (.slice Aa f.atoms.length ca) ∧ w'.cell? ⟨w2.heap.size, 3, none⟩ = some (.slice Ac f.clauses.length cc) ∧ Below w5.heap.size w5 w') (first | assumption | exact HSOF.out _ (Below.refl _ _).drew) (first
      | (go_at_call 18; refine (steps_any _ _ f xs _ (HF5.out.keep (Below.refl _ _).drew) (HT.out.keep HB5.out.drew) HSM.out.valid (fun x hx => by have := (HSM.out.2.2.2.2.2 x hx).2.1; omega) HSM.out.pos.1 HSM.out.pos.2).mono ?_; rintro e wa ⟨lva, la, rfl, hla, hla1, hla2, hba⟩; have hsa := HSOF.out wa (Below.trans (Below.refl _ _).drew hba); have HLA := Lib.hid hla; have HASA : Hid (Asked f la) := HSM.out.asked (by omega) (fun s hs => by have := hla2 s hs; omega); clear hla hla1 hla2)
      | (go_at_call 23; refine (pclauses_any _ _ f la _ (HF5.out.keep hsa.2.2.2.2) HLA.out HASA.out).mono ?_; rintro e wb hcl; obtain ⟨vb, nb, mb, rfl, hbb, hcase⟩ := hcl.one; have hsb := HSOF.out wb (hsa.2.2.2.2.trans (hbb.mono hsa.2.2.2.2.size))))
    rcases hcase with ⟨rfl, usb, hmb⟩ | ⟨rfl, rfl⟩
    · have HRUN : Hid (∀ c ∈ (runS f [] la).1, c.any (holds bs) = true) := Lib.hid (runS_holds (f := f) HFIT.out HCLS.out (a := []) (b := (runS f [] la).2) (l := la) rfl (by simp))
      have HMT := Lib.hid hmb.mat
      generalize (runS f [] la).1 = css at *
      have HBB := Lib.hid hsb.2.2.2.2
      have HBW := Lib.hid (HB5.out.trans (hsb.2.2.2.2.mono HB5.out.size))
      obtain ⟨Ab', cb', vsb, rfl, mb1, mb2, mb3, mb4, mb5⟩ := HMT.out
      unfold maxLen at mb2
      have HQ3 := Lib.hid mb3
      have HQ4 := Lib.hid mb4
      have HQ5 := Lib.hid mb5
      clear hsa hsb hba hbb hcl hmb mb3 mb4 mb5
      go_wp2_with fail
      go_loopw [48] (fun i wr => ∃ k : Nat, k ≤ css.length ∧ i = .int .i64 k ∧ Below wb.heap.size wb wr) (fun i _ => css.length - (intOf i).toNat)
      case atStart => exact ⟨0, by omega, rfl, Below.refl _ _⟩
      case round =>
        obtain ⟨k, hk, rfl, hbw⟩ := hrel
        have HBR := Lib.hid hbw
        clear hbw
        by_cases hkc : k < css.length
        · obtain ⟨zc, hzc⟩ : ∃ zc, css[k]? = some zc := ⟨_, List.getElem?_eq_getElem hkc⟩
          obtain ⟨b1', off1, A1', c1', rfl, hb1', hc1', hi1'⟩ := Mat.at_ (HQ4.out.keep HBR.out) HQ3.out (fun k u xs a b => (HQ5.out k u xs a b).keep HBR.out) hzc
          have hany := HRUN.out zc (List.mem_of_getElem? hzc)
          have HIN := Lib.hid hi1'
          have HMKr := Lib.hid ((HMK5.out.keep HBB.out).keep HBR.out)
          have m0 := HMKr.out.cell 0
          have m1 := HMKr.out.cell 1
          simp only [List.getElem?_toArray, List.getElem?_cons_zero, List.getElem?_cons_succ] at m0 m1
          have HC := Lib.hid (rany_any _ (.slice Ai ys.length ci) bs _ zc _ HIN.out ((HMB5.out.keep HBB.out).keep HBR.out))
          rw [hany] at HC
          clear hany hzc hi1'
          go_wp2_with fail
          refine HC.out.mono ?_
          rintro e wc' ⟨rfl, hbc⟩
          have HBC := Lib.hid (HBR.out.trans (hbc.mono HBR.out.size))
          clear hbc m0 m1 hc1' HC
          go_wp2_with fail
          go_roundw
          case rel => exact ⟨k + 1, by omega, by go_num, HBC.out⟩
          case measure => simp [intOf]; omega
        · have HBX := Lib.hid (HBW.out.trans (HBR.out.mono HBW.out.size))
          go_wp2_with fail
          refine (awake33 _).mono ?_
          rintro e wz ⟨rfl, hbz⟩
          have HBZ := Lib.hid (HBX.out.trans (hbz.mono HBX.out.size))
          clear hbz
          go_wp2_with fail
          go_ret
          exact ⟨rfl, HBZ.out⟩
    · have HBW := Lib.hid (HB5.out.trans (hsb.2.2.2.2.mono HB5.out.size))
      clear hsa hsb hba hbb hcl
      go_wp2_with fail
      refine (awake33 _).mono ?_
      rintro e wz ⟨rfl, hbz⟩
      have HBZ := Lib.hid (HBW.out.trans (hbz.mono HBW.out.size))
      clear hbz
      go_wp2_with fail
      go_ret
      exact ⟨rfl, HBZ.out⟩
end Go.Proofs.Ytdmndikenejhiaa
