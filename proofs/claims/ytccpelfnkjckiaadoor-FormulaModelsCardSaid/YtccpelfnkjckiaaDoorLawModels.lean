/-
  WALK: interleavelaw31.FormulaModels.
-/
import Derived.Test.YtccpelfnkjckiaaDoorAwake31
import Derived.Test.YtccpelfnkjckiaaDoorSat
import Derived.Test.YtccpelfnkjckiaaDoorMdW
import Derived.Deep.DeepCutAuto
import Derived.Deep.RegionHeld3
import Derived.RegionTactic
import Derived.StillTailTactics
namespace Go.Proofs.YtccpelfnkjckiaaDoor
open Go.RowKit

theorem MD.keep {w wr w' : World} {nb ni gm gb gx : Nat} {bs : List Bool} {xs : List Int} (h : MD w wr nb ni gm gb gx bs xs) (hb : Below wr.heap.size wr w') : MD w w' nb ni gm gb gx bs xs :=
  ⟨h.m.keep hb, h.b.keep hb, h.x.keep hb, h.n1, h.n2, h.n3, h.l1, h.l2, h.l3, h.bl.trans (hb.mono h.bl.size)⟩

set_option maxRecDepth 100000 in
set_option maxHeartbeats 8000000 in
theorem lawModels (pv lv iv : Value) (a b c : Int) (L : List Int) (bools : List Bool) (ints : List Int) (w : World) (hp : IsProb w pv a b c L) (hb : Bools w lv bools) (hx : I8s w iv ints) (hT : Tab w) :
    Calls Tryd.prog 3 #[pv, lv, iv] w fun e w' => e = .returned (.bool true) ∧ Below w.heap.size w w' := by
  have HP := Lib.hid hp
  have HT := Lib.hid hT
  have HBS := Lib.hid hb
  have HXS := Lib.hid hx
  obtain ⟨nv, rfl, -, -, -, hL⟩ := hp
  obtain ⟨An, cn, rfl, -, -, -, -⟩ := hL
  obtain ⟨Ab, cb, rfl, b1, b2, -⟩ := hb
  obtain ⟨Ax, cx, rfl, x1, x2, -, -⟩ := hx
  unfold maxLen at b2 x2
  clear hT
  have HB : Hid (Below w.heap.size w (w.alloc (.cells #[.int .u8 a, .int .u8 b, .int .u8 c, .slice An L.length cn] 25))) := (Below.refl _ _).alloc (Nat.le_refl _) _
  go_enter Tryd.func3, Tryd.ntmps3
  go_wp2_with fail
  generalize w.alloc (.cells #[.int .u8 a, .int .u8 b, .int .u8 c, .slice An L.length cn] 25) = W at *
  refine (problem_any _ a b c L _ ?hp).mono ?_
  case hp => obtain ⟨nv, e1, e2⟩ := HP.out; exact ⟨_, rfl, e2.1, e2.2.1, e2.2.2.1, by injection e1 with e1; simp only [Array.mk.injEq, List.cons.injEq, and_true, true_and] at e1; rw [e1]; exact e2.2.2.2.keep HB.out⟩
  rintro e w2 ⟨fv, f, rfl, hf, hsm, hb2⟩
  have HB2 := Lib.hid (HB.out.trans (hb2.mono HB.out.size))
  have HF2 := Lib.hid hf
  have HSM := Lib.hid hsm
  obtain ⟨av, cv, rfl, -, -, hf3, hf4⟩ := hf
  have HA2 := Lib.hid hf3
  obtain ⟨Aa, ca, rfl, a1, a2, -, -⟩ := hf3
  obtain ⟨Ac, cc, vs, rfl, -, -, -, -, -⟩ := hf4
  unfold maxLen at a2
  obtain ⟨nb, hnb⟩ : ∃ nb : Nat, f.bools = nb := ⟨f.bools.toNat, by obtain ⟨h1, h2, h3, _⟩ := hsm; omega⟩
  obtain ⟨ni, hni⟩ : ∃ ni : Nat, f.ints = ni := ⟨f.ints.toNat, by obtain ⟨h1, h2, h3, _⟩ := hsm; omega⟩
  have HNB := Lib.hid hnb
  have HNI := Lib.hid hni
  have hnb18 : nb ≤ 18 := by obtain ⟨h1, h2, h3, _⟩ := hsm; omega
  have hnb0 : 0 < nb := by obtain ⟨h1, h2, h3, _⟩ := hsm; omega
  have hni6 : ni ≤ 6 := by obtain ⟨h1, h2, h3, _⟩ := hsm; omega
  have hal : f.atoms.length ≤ nb := by obtain ⟨h1, h2, h3, _⟩ := hsm; omega
  have mk := mk_ints ni (by omega)
  have mkb := mk_bools nb (by omega)
  clear hb2 hsm
  rw [hnb, hni]
  clear hnb hni
  go_upto_region 2 with fail
  obtain ⟨w0, hw0⟩ : ∃ w0 : World, w0 = w2.alloc (.cells #[.int .i64 (ni : Int), .int .i64 (nb : Int), .slice Aa f.atoms.length ca, .slice Ac f.clauses.length cc] 31) := ⟨_, rfl⟩
  have hbl02 : Below w2.heap.size w2 w0 := by rw [hw0]; exact (Below.refl _ _).alloc (Nat.le_refl _) _
  have hbl0 : Below w.heap.size w w0 := HB2.out.trans (hbl02.mono HB2.out.size)
  have B1 : Blk w0 w2.heap.size 31 #[.int .i64 (ni : Int), .int .i64 (nb : Int), .slice Aa f.atoms.length ca, .slice Ac f.clauses.length cc] := by rw [hw0]; exact Blk.new _ _ _
  have HF0 := Lib.hid (HF2.out.keep hbl02)
  have HA := Lib.hid (HA2.out.keep hbl02)
  rw [← hw0]
  have hs0 : w0.heap.size = w2.heap.size + 1 := by rw [hw0]; simp
  have HS0 := Lib.hid hs0
  have HB0 := Lib.hid hbl0
  have HB1 := Lib.hid B1
  have r0 := B1.cell 0
  have r1 := B1.cell 1
  simp only [List.getElem?_toArray, List.getElem?_cons_zero, List.getElem?_cons_succ] at r0 r1
  have hlt0 := B1.lt
  clear hw0 hbl0 B1 hs0 hbl02 HA2
  go_cut [8] (fun p wx => ∃ gm gb gx, p = .pointer (some ⟨gm, 0, none⟩) ∧ MD w0 wx nb ni gm gb gx (List.replicate nb false) (List.replicate ni 0))
  case first =>
    go_region
    all_goals
      go_wp2_with fail
      go_meet
      obtain ⟨h0, h1, h2, h3⟩ := three w0 _ _ _ _ _ _
      first
        | exact ⟨_, _, _, rfl, ⟨h0, h1, h2, by omega, by omega, by omega, by omega, by omega, by omega, h3⟩⟩
        | exact ⟨_, _, _, rfl, ⟨h0, h2, h1, by omega, by omega, by omega, by omega, by omega, by omega, h3⟩⟩
        | exact ⟨_, _, _, rfl, ⟨h1, h0, h2, by omega, by omega, by omega, by omega, by omega, by omega, h3⟩⟩
        | exact ⟨_, _, _, rfl, ⟨h1, h2, h0, by omega, by omega, by omega, by omega, by omega, by omega, h3⟩⟩
        | exact ⟨_, _, _, rfl, ⟨h2, h0, h1, by omega, by omega, by omega, by omega, by omega, by omega, h3⟩⟩
        | exact ⟨_, _, _, rfl, ⟨h2, h1, h0, by omega, by omega, by omega, by omega, by omega, by omega, h3⟩⟩
  case rest =>
    obtain ⟨gm, gb, gx, rfl, hmd⟩ := hcut
    have HM := Lib.hid hmd
    have m1 := hmd.m.cell 1
    simp only [List.getElem?_toArray, List.getElem?_cons_zero, List.getElem?_cons_succ] at m1
    clear mk mkb hmd r0 r1
    go_wp2_with fail
    clear m1
    go_loopw [24] (fun i wr => ∃ (k : Nat) (xs : List Int), k ≤ ni ∧ i = .int .i64 k ∧ xs.length = ni ∧ (∀ x ∈ xs, -8 < x ∧ x < 8) ∧ MD w0 wr nb ni gm gb gx (List.replicate nb false) xs) (fun i _ => ni - (intOf i).toNat)
    case atStart => exact ⟨0, _, by omega, rfl, by simp, fun x hx => by rw [List.eq_of_mem_replicate hx]; omega, HM.out⟩
    case round =>
      obtain ⟨k, xs, hk, rfl, hxl, hxr, hmd⟩ := hrel
      have HXL := Lib.hid hxl
      have HXR := Lib.hid hxr
      have HM2 := Lib.hid hmd
      have m0 := hmd.m.cell 0
      have m1 := hmd.m.cell 1
      simp only [List.getElem?_toArray, List.getElem?_cons_zero, List.getElem?_cons_succ] at m0 m1
      clear hxl hxr hmd HM
      by_cases hkn : k < ni
      · by_cases hki : k < ints.length
        · obtain ⟨y, hy⟩ : ∃ y, ints[k]? = some y := ⟨_, List.getElem?_eq_getElem hki⟩
          obtain ⟨A', c', ev, -, -, hrg, hrd⟩ := (HXS.out.keep HB0.out).keep HM2.out.bl
          injection ev with e1 _ e2
          subst e1 e2
          obtain ⟨b1', o1, rfl, hb1', hc1⟩ := hrd.at_ (u := .int .i8 y) (by rw [List.getElem?_map, hy]; rfl)
          obtain ⟨y1, y2⟩ := hrg y (List.mem_of_getElem? hy)
          obtain ⟨z, hz⟩ : ∃ z, xs[k]? = some z := ⟨_, List.getElem?_eq_getElem (by have := HXL.out; omega)⟩
          have c1 := HM2.out.x.cell k
          rw [rowI_at hz] at c1
          have z1 := HM2.out.x.frozen k
          have hty := tmod8 y
          obtain ⟨t1, t2⟩ := hty
          clear hy hz hrg hrd m0
          go_upto_region 7 with fail
          go_still_tail 10, (by kernel_rfl)
          change wpList _ _ _ _ _ wr.drew
          have HM3 : Hid (MD w0 (wr.drew.setCell ⟨gx, k, none⟩ (.int .i64 (y.tmod 8))) nb ni gm gb gx (List.replicate nb false) (xs.set k (y.tmod 8))) := Lib.hid ((HM2.out.drewN 1).setX k (y.tmod 8))
          have HXR2 : Hid (∀ x ∈ xs.set k (y.tmod 8), -8 < x ∧ x < 8) := Lib.hid fun x hx => by
            rcases List.mem_or_eq_of_mem_set hx with h | rfl
            · exact HXR.out x h
            · exact ⟨t1, t2⟩
          go_wp2_with fail
          go_roundw
          case rel => exact ⟨k + 1, _, by omega, by go_num, by rw [List.length_set]; exact HXL.out, HXR2.out, HM3.out⟩
          case measure => simp [intOf]; omega
        · go_wp2_with fail
          go_roundw
          case rel => exact ⟨k + 1, xs, by omega, by go_num, HXL.out, HXR.out, HM2.out⟩
          case measure => simp [intOf]; omega
      · obtain ⟨wo, hwo⟩ : ∃ wo : World, wo = wr := ⟨_, rfl⟩
        subst hwo
        go_wp2_with fail
        clear m0 m1
        go_loopw [45] (fun i wr => ∃ (k : Nat) (bs : List Bool), k ≤ nb ∧ i = .int .i64 k ∧ bs.length = nb ∧ MD w0 wr nb ni gm gb gx bs xs) (fun i _ => nb - (intOf i).toNat)
        case atStart => exact ⟨0, _, by omega, rfl, by simp, HM2.out⟩
        case round =>
          obtain ⟨j, bs, hj, rfl, hbl, hmd⟩ := hrel
          have HBL := Lib.hid hbl
          have HM3 := Lib.hid hmd
          have m0 := hmd.m.cell 0
          have m1 := hmd.m.cell 1
          have HB3 := Lib.hid (HB1.out.below hmd.bl HB1.out.lt)
          have t2 := HB3.out.cell 2
          simp only [List.getElem?_toArray, List.getElem?_cons_zero, List.getElem?_cons_succ] at m0 m1 t2
          clear hbl hmd HM2
          by_cases hjn : j < nb
          · obtain ⟨z, hz⟩ : ∃ z, bs[j]? = some z := ⟨_, List.getElem?_eq_getElem (by have := HBL.out; omega)⟩
            have c1 := HM3.out.b.cell j
            rw [rowB_at hz] at c1
            have z1 := HM3.out.b.frozen j
            clear hz
            by_cases hja : j < f.atoms.length
            · obtain ⟨d, hd⟩ : ∃ d, f.atoms[j]? = some d := ⟨_, List.getElem?_eq_getElem hja⟩
              obtain ⟨A', c', ev, -, -, -, hrd⟩ := HA.out.keep HM3.out.bl
              injection ev with e1 _ e2
              subst e1 e2
              obtain ⟨b1', o1, rfl, hb1', hx1, hy1, hz1⟩ := hrd.diff hd
              obtain ⟨dx, dy, dc⟩ := d
              obtain ⟨hok, c0, c2⟩ := HSM.out.2.2.2.2.1 _ (List.mem_of_getElem? hd)
              obtain ⟨k1, k2, k3, k4, k5, k6, k7⟩ := okAtom_iff.1 hok
              simp only at hx1 hy1 hz1 c0 c2
              obtain ⟨X, hX⟩ : ∃ X : Nat, dx = X := ⟨dx.toNat, by omega⟩
              obtain ⟨Y, hY⟩ : ∃ Y : Nat, dy = Y := ⟨dy.toNat, by omega⟩
              subst hX hY
              have X1 : X < ni := by have := HNI.out; omega
              have Y1 : Y < ni := by have := HNI.out; omega
              obtain ⟨p, hp⟩ : ∃ p, xs[X]? = some p := ⟨_, List.getElem?_eq_getElem (by have := HXL.out; omega)⟩
              obtain ⟨q, hq⟩ : ∃ q, xs[Y]? = some q := ⟨_, List.getElem?_eq_getElem (by have := HXL.out; omega)⟩
              obtain ⟨p1, p2⟩ := HXR.out p (List.mem_of_getElem? hp)
              obtain ⟨q1, q2⟩ := HXR.out q (List.mem_of_getElem? hq)
              have e1 := HM3.out.x.cell X
              have e2 := HM3.out.x.cell Y
              rw [rowI_at hp] at e1
              rw [rowI_at hq] at e2
              have HM4 : Hid (MD w0 (wr.drew.setCell ⟨gb, j, none⟩ (.bool (decide (p - q ≤ dc)))) nb ni gm gb gx (bs.set j (decide (p - q ≤ dc))) xs) := Lib.hid ((HM3.out.drewN 1).setB j (decide (p - q ≤ dc)))
              clear hd hrd hp hq k5 k6 k7 hok
              have sc := IntWalk.i64_in (p - q) (by omega)
              go_upto_region 13 with fail
              go_still_tail 32, (by kernel_rfl)
              change wpList _ _ _ _ _ wr.drew
              clear sc
              go_wp2_with fail
              go_roundw
              case rel => exact ⟨j + 1, _, by omega, by go_num, by rw [List.length_set]; exact HBL.out, HM4.out⟩
              case measure => simp [intOf]; omega
            · skip
              by_cases hjb : j < bools.length
              · obtain ⟨y, hy⟩ : ∃ y, bools[j]? = some y := ⟨_, List.getElem?_eq_getElem hjb⟩
                obtain ⟨A', c', ev, -, -, hrd⟩ := (HBS.out.keep HB0.out).keep HM3.out.bl
                injection ev with e1 _ e2
                subst e1 e2
                obtain ⟨b1', o1, rfl, hb1', hc1⟩ := hrd.bool hy
                have HM4 : Hid (MD w0 (wr.drew.setCell ⟨gb, j, none⟩ (.bool y)) nb ni gm gb gx (bs.set j y) xs) := Lib.hid ((HM3.out.drewN 1).setB j y)
                clear hy hrd
                go_upto_region 15 with fail
                go_still_tail 8, (by kernel_rfl)
                change wpList _ _ _ _ _ wr.drew
                go_wp2_with fail
                go_roundw
                case rel => exact ⟨j + 1, _, by omega, by go_num, by rw [List.length_set]; exact HBL.out, HM4.out⟩
                case measure => simp [intOf]; omega
              · skip
                go_wp2_with fail
                go_roundw
                case rel => exact ⟨j + 1, bs, by omega, by go_num, HBL.out, HM3.out⟩
                case measure => simp [intOf]; omega
          · have H40 : Hid (∀ x ∈ xs, Forty x) := Lib.hid fun x hx => by have := HXR.out x hx; unfold Forty; constructor <;> omega
            have HBL1 := HBL
            clear m0 m1 t2
            have HFB1 := Lib.hid (HB1.out.below HM3.out.bl HB1.out.lt)
            have q0 := HFB1.out.cell 0
            have q1 := HFB1.out.cell 1
            have q2 := HFB1.out.cell 2
            have q3 := HFB1.out.cell 3
            have m0 := HM3.out.m.cell 0
            have m1 := HM3.out.m.cell 1
            simp only [List.getElem?_toArray, List.getElem?_cons_zero, List.getElem?_cons_succ] at q0 q1 q2 q3 m0 m1
            have hz0 : w2.heap.size < wr.heap.size := HFB1.out.lt
            have hz1 : gm < wr.heap.size := HM3.out.m.lt
            have HFM1 : Hid (IsForm wr (.agg #[.int .i64 (ni : Int), .int .i64 (nb : Int), .slice Aa f.atoms.length ca, .slice Ac f.clauses.length cc]) f) := Lib.hid (by have h := HF0.out.keep HM3.out.bl; rwa [HNB.out, HNI.out] at h)
            have HBV1 : Hid (Bools wr (.slice (some ⟨gb, 0, none⟩) nb nb) bs) := Lib.hid (by have h := HM3.out.b.bools (by have := HBL1.out; unfold maxLen; omega); rwa [HBL1.out] at h)
            have HIV1 : Hid (Ints wr (.slice (some ⟨gx, 0, none⟩) ni ni) xs) := Lib.hid (by have h := HM3.out.x.ints (fun x hx => by have := HXR.out x hx; constructor <;> omega) (by have := HXL.out; unfold maxLen; omega); rwa [HXL.out] at h)
            have HSOF1 : Hid (∀ w', Below wr.heap.size wr w' → w'.cell? ⟨w2.heap.size, 0, none⟩ = some (.int .i64 (ni : Int)) ∧ w'.cell? ⟨w2.heap.size, 1, none⟩ = some (.int .i64 (nb : Int)) ∧ w'.cell? ⟨w2.heap.size, 2, none⟩ = some (.slice Aa f.atoms.length ca) ∧ w'.cell? ⟨w2.heap.size, 3, none⟩ = some (.slice Ac f.clauses.length cc) ∧ w'.cell? ⟨gm, 0, none⟩ = some (.slice (some ⟨gb, 0, none⟩) nb nb) ∧ w'.cell? ⟨gm, 1, none⟩ = some (.slice (some ⟨gx, 0, none⟩) ni ni) ∧ Below wr.heap.size wr w') :=
              fun w' h => ⟨(h.cell (p := ⟨w2.heap.size, 0, none⟩) hz0).trans q0, (h.cell (p := ⟨w2.heap.size, 1, none⟩) hz0).trans q1, (h.cell (p := ⟨w2.heap.size, 2, none⟩) hz0).trans q2, (h.cell (p := ⟨w2.heap.size, 3, none⟩) hz0).trans q3, (h.cell (p := ⟨gm, 0, none⟩) hz1).trans m0, (h.cell (p := ⟨gm, 1, none⟩) hz1).trans m1, h⟩
            clear q0 q1 q2 q3 m0 m1 hz0 hz1
            go_wp2_with fail
            go_region_held3 (fun w' => w'.cell? ⟨w2.heap.size, 0, none⟩ = some (.int .i64 (ni : Int)) ∧ w'.cell? ⟨w2.heap.size, 1, none⟩ = some (.int .i64 (nb : Int)) ∧ w'.cell? ⟨w2.heap.size, 2, none⟩ = some (.slice Aa f.atoms.length ca) ∧ w'.cell? ⟨w2.heap.size, 3, none⟩ = some (.slice Ac f.clauses.length cc) ∧ w'.cell? ⟨gm, 0, none⟩ = some (.slice (some ⟨gb, 0, none⟩) nb nb) ∧ w'.cell? ⟨gm, 1, none⟩ = some (.slice (some ⟨gx, 0, none⟩) ni ni) ∧ Below wr.heap.size wr w') (first | assumption | exact HSOF1.out _ (Below.refl _ _).drew) (first
              | (go_at_call 13; refine (fsat_any _ _ xs bs _ _ f (HFM1.out.keep (Below.refl _ _).drew) (HBV1.out.keep (Below.refl _ _).drew) (HIV1.out.keep (Below.refl _ _).drew) HSM.out.valid H40.out).mono ?_; rintro e w13 ⟨⟨s1, rfl, hs1⟩, hb3⟩; have HSA := Lib.hid hs1; clear hs1; have hs3 := HSOF1.out w13 (Below.trans (Below.refl _ _).drew hb3))
              | (go_at_call 14; refine (rsat_any _ _ xs bs _ _ f (HFM1.out.keep hs3.2.2.2.2.2.2) (HBV1.out.keep hs3.2.2.2.2.2.2) (HIV1.out.keep hs3.2.2.2.2.2.2) HSM.out.valid H40.out).mono ?_; rintro e w14 ⟨⟨sr, rfl, hs2⟩, hb4⟩; obtain rfl : s1 = sr := Bool.eq_iff_iff.2 (HSA.out.trans hs2.symm); clear hs2 HSA; have hs4 := HSOF1.out w14 (hs3.2.2.2.2.2.2.trans (hb4.mono hs3.2.2.2.2.2.2.size))))
            have HM4 := Lib.hid (HM3.out.keep hs4.2.2.2.2.2.2)
            clear hs3 hs4 hb3 hb4 HSOF1
            obtain ⟨kk, k1⟩ : ∃ kk : Nat, ints.length % nb = kk := ⟨_, rfl⟩
            have k2 : (ints.length : Int) % (nb : Int) = (kk : Int) := by rw [← k1]; simp
            have k3 : (ints.length : Int).tmod (nb : Int) = (kk : Int) := by rw [Int.tmod_eq_emod_of_nonneg (by omega)]; exact k2
            have k4 : kk < nb := by rw [← k1]; exact Nat.mod_lt _ hnb0
            obtain ⟨z, hz⟩ : ∃ z, bs[kk]? = some z := ⟨_, List.getElem?_eq_getElem (by have := HBL.out; omega)⟩
            have c1 := HM4.out.b.cell kk
            rw [rowB_at hz] at c1
            have z1 := HM4.out.b.frozen kk
            have m0 := HM4.out.m.cell 0
            simp only [List.getElem?_toArray, List.getElem?_cons_zero] at m0
            have HM5 : Hid (MD w0 (w14.drew.setCell ⟨gb, kk, none⟩ (.bool (!z))) nb ni gm gb gx (bs.set kk (!z)) xs) := Lib.hid ((HM4.out.drewN 1).setB kk (!z))
            have HBL2 : Hid ((bs.set kk (!z)).length = nb) := Lib.hid (by rw [List.length_set]; exact HBL.out)
            clear hz
            cases s1
            all_goals
              go_upto_region 21 with fail
              go_still_tail 10, (by kernel_rfl)
              change wpList _ _ _ _ _ w14.drew
              go_upto_region 22 with fail
              clear c1 z1 m0
              first | change Code.wp _ _ _ _ (w14.drew.setCell ⟨gb, kk, none⟩ (.bool (!z))) | trace "no change"
              generalize w14.drew.setCell ⟨gb, kk, none⟩ (.bool (!z)) = w5 at HM5 ⊢
              have HFB2 := Lib.hid (HB1.out.below HM5.out.bl HB1.out.lt)
              have q0 := HFB2.out.cell 0
              have q1 := HFB2.out.cell 1
              have q2 := HFB2.out.cell 2
              have q3 := HFB2.out.cell 3
              have m0 := HM5.out.m.cell 0
              have m1 := HM5.out.m.cell 1
              simp only [List.getElem?_toArray, List.getElem?_cons_zero, List.getElem?_cons_succ] at q0 q1 q2 q3 m0 m1
              have hz0 : w2.heap.size < w5.heap.size := HFB2.out.lt
              have hz1 : gm < w5.heap.size := HM5.out.m.lt
              have HFM2 : Hid (IsForm w5 (.agg #[.int .i64 (ni : Int), .int .i64 (nb : Int), .slice Aa f.atoms.length ca, .slice Ac f.clauses.length cc]) f) := Lib.hid (by have h := HF0.out.keep HM5.out.bl; rwa [HNB.out, HNI.out] at h)
              have HBV2 : Hid (Bools w5 (.slice (some ⟨gb, 0, none⟩) nb nb) (bs.set kk (!z))) := Lib.hid (by have h := HM5.out.b.bools (by have := HBL2.out; unfold maxLen; omega); rwa [HBL2.out] at h)
              have HIV2 : Hid (Ints w5 (.slice (some ⟨gx, 0, none⟩) ni ni) xs) := Lib.hid (by have h := HM5.out.x.ints (fun x hx => by have := HXR.out x hx; constructor <;> omega) (by have := HXL.out; unfold maxLen; omega); rwa [HXL.out] at h)
              have HSOF2 : Hid (∀ w', Below w5.heap.size w5 w' → w'.cell? ⟨w2.heap.size, 0, none⟩ = some (.int .i64 (ni : Int)) ∧ w'.cell? ⟨w2.heap.size, 1, none⟩ = some (.int .i64 (nb : Int)) ∧ w'.cell? ⟨w2.heap.size, 2, none⟩ = some (.slice Aa f.atoms.length ca) ∧ w'.cell? ⟨w2.heap.size, 3, none⟩ = some (.slice Ac f.clauses.length cc) ∧ w'.cell? ⟨gm, 0, none⟩ = some (.slice (some ⟨gb, 0, none⟩) nb nb) ∧ w'.cell? ⟨gm, 1, none⟩ = some (.slice (some ⟨gx, 0, none⟩) ni ni) ∧ Below w5.heap.size w5 w') :=
                fun w' h => ⟨(h.cell (p := ⟨w2.heap.size, 0, none⟩) hz0).trans q0, (h.cell (p := ⟨w2.heap.size, 1, none⟩) hz0).trans q1, (h.cell (p := ⟨w2.heap.size, 2, none⟩) hz0).trans q2, (h.cell (p := ⟨w2.heap.size, 3, none⟩) hz0).trans q3, (h.cell (p := ⟨gm, 0, none⟩) hz1).trans m0, (h.cell (p := ⟨gm, 1, none⟩) hz1).trans m1, h⟩
              clear q0 q1 q2 q3 m0 m1 hz0 hz1
              have HBW5 := Lib.hid (HB0.out.trans (HM5.out.bl.mono HB0.out.size))
              go_region_held3 (fun w' => w'.cell? ⟨w2.heap.size, 0, none⟩ = some (.int .i64 (ni : Int)) ∧ w'.cell? ⟨w2.heap.size, 1, none⟩ = some (.int .i64 (nb : Int)) ∧ w'.cell? ⟨w2.heap.size, 2, none⟩ = some (.slice Aa f.atoms.length ca) ∧ w'.cell? ⟨w2.heap.size, 3, none⟩ = some (.slice Ac f.clauses.length cc) ∧ w'.cell? ⟨gm, 0, none⟩ = some (.slice (some ⟨gb, 0, none⟩) nb nb) ∧ w'.cell? ⟨gm, 1, none⟩ = some (.slice (some ⟨gx, 0, none⟩) ni ni) ∧ Below w5.heap.size w5 w') (first | assumption | exact HSOF2.out _ (Below.refl _ _).drew) (first
                | (go_at_call 13; refine (fsat_any _ _ xs (bs.set kk (!z)) _ _ f (HFM2.out.keep (Below.refl _ _).drew) (HBV2.out.keep (Below.refl _ _).drew) (HIV2.out.keep (Below.refl _ _).drew) HSM.out.valid H40.out).mono ?_; rintro e w23 ⟨⟨s2, rfl, hs1⟩, hb3⟩; have HSA := Lib.hid hs1; clear hs1; have hs3 := HSOF2.out w23 (Below.trans (Below.refl _ _).drew hb3))
                | (go_at_call 14; refine (rsat_any _ _ xs (bs.set kk (!z)) _ _ f (HFM2.out.keep hs3.2.2.2.2.2.2) (HBV2.out.keep hs3.2.2.2.2.2.2) (HIV2.out.keep hs3.2.2.2.2.2.2) HSM.out.valid H40.out).mono ?_; rintro e w24 ⟨⟨sr, rfl, hs2⟩, hb4⟩; obtain rfl : s2 = sr := Bool.eq_iff_iff.2 (HSA.out.trans hs2.symm); clear hs2 HSA; have hs4 := HSOF2.out w24 (hs3.2.2.2.2.2.2.trans (hb4.mono hs3.2.2.2.2.2.2.size)))
                | (go_at_call 15; refine (awake31 _ (HT.out.keep (HBW5.out.trans (hs4.2.2.2.2.2.2.mono HBW5.out.size)) HT.out.lt)).mono ?_; rintro e w6 ⟨rfl, hb6⟩; have hs6 := HSOF2.out w6 (hs4.2.2.2.2.2.2.trans (hb6.mono hs4.2.2.2.2.2.2.size))))
              have HB6 := Lib.hid (HBW5.out.trans (hs6.2.2.2.2.2.2.mono HBW5.out.size))
              clear hs3 hs4 hs6 hb3 hb4 hb6 HSOF2
              go_wp2_with fail
              go_ret
              exact ⟨rfl, HB6.out⟩
end Go.Proofs.YtccpelfnkjckiaaDoor
