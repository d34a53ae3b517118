/-
  WALK: interleavelaw33.model: a model of a formula's size whose atoms fit its integers.
-/
import Derived.Test.YtdmndikenejhiaaRefLaw
import Derived.Test.YtdmndikenejhiaaMake
import Derived.Test.YtdmndikenejhiaaOwn
import Derived.Test.YtdmndikenejhiaaOpen33
import Derived.Deep.DeepCutAuto
import Derived.RegionTactic
import Derived.StillTailTactics
namespace Go.Proofs.Ytdmndikenejhiaa
open Go.RowKit

/-- The blocks of the model that is made. -/
structure MD (w wr : World) (nb ni gm gb gx : Nat) (bs : List Bool) (xs : List Int) : Prop where
  m : Blk wr gm 45 #[.slice (some ⟨gb, 0, none⟩) nb nb, .slice (some ⟨gx, 0, none⟩) ni ni]
  b : Blk wr gb 4 (rowB bs)
  x : Blk wr gx 3 (rowI xs)
  n1 : gb ≠ gx
  n2 : gb ≠ gm
  n3 : gx ≠ gm
  l1 : w.heap.size ≤ gm
  l2 : w.heap.size ≤ gb
  l3 : w.heap.size ≤ gx
  bl : Below w.heap.size w wr
section
variable {w wr w' : World} {nb ni gm gb gx : Nat} {bs : List Bool} {xs : List Int}
theorem MD.setB (h : MD w wr nb ni gm gb gx bs xs) (k : Nat) (a : Bool) : MD w (wr.setCell ⟨gb, k, none⟩ (.bool a)) nb ni gm gb gx (bs.set k a) xs := by
  have hs : wr.grownBy (wr.setCell ⟨gb, k, none⟩ (.bool a)) (some gb) := grownBy_set0 _ _ _ _
  exact ⟨h.m.grown hs (by have := h.n2; simp; omega), h.b.setB k a, h.x.grown hs (by have := h.n1; simp; omega), h.n1, h.n2, h.n3, h.l1, h.l2, h.l3, h.bl.grown hs h.bl.size fun g e => by injection e with e; have := h.l2; omega⟩
theorem MD.setX (h : MD w wr nb ni gm gb gx bs xs) (k : Nat) (a : Int) : MD w (wr.setCell ⟨gx, k, none⟩ (.int .i64 a)) nb ni gm gb gx bs (xs.set k a) := by
  have hs : wr.grownBy (wr.setCell ⟨gx, k, none⟩ (.int .i64 a)) (some gx) := grownBy_set0 _ _ _ _
  exact ⟨h.m.grown hs (by have := h.n3; simp; omega), h.b.grown hs (by have := h.n1; simp; omega), h.x.setI k a, h.n1, h.n2, h.n3, h.l1, h.l2, h.l3, h.bl.grown hs h.bl.size fun g e => by injection e with e; have := h.l3; omega⟩
theorem MD.drewN (h : MD w wr nb ni gm gb gx bs xs) (n : Nat) : MD w (wr.drewN n) nb ni gm gb gx bs xs := ⟨h.m.drewN n, h.b.drewN n, h.x.drewN n, h.n1, h.n2, h.n3, h.l1, h.l2, h.l3, bdrew h.bl n⟩
end

theorem three (w0 : World) (A B C : Array Value) (ta tb tc : TypeId) : Blk (((w0.alloc (.cells A ta)).alloc (.cells B tb)).alloc (.cells C tc)).drew w0.heap.size ta A ∧ Blk (((w0.alloc (.cells A ta)).alloc (.cells B tb)).alloc (.cells C tc)).drew (w0.heap.size + 1) tb B ∧
    Blk (((w0.alloc (.cells A ta)).alloc (.cells B tb)).alloc (.cells C tc)).drew (w0.heap.size + 1 + 1) tc C ∧ Below w0.heap.size w0 (((w0.alloc (.cells A ta)).alloc (.cells B tb)).alloc (.cells C tc)).drew := by
  have h1 := Blk.new (w0.alloc (.cells A ta)) tb B
  have h2 := Blk.new ((w0.alloc (.cells A ta)).alloc (.cells B tb)) tc C
  rw [show (w0.alloc (.cells A ta)).heap.size = w0.heap.size + 1 by simp] at h1
  rw [show ((w0.alloc (.cells A ta)).alloc (.cells B tb)).heap.size = w0.heap.size + 1 + 1 by simp] at h2
  exact ⟨(((Blk.new w0 ta A).alloc _).alloc _).drew, (h1.alloc _).drew, h2.drew, ((((Below.refl _ _).alloc (Nat.le_refl _) _).alloc (by simp) _).alloc (by simp; omega) _).drew⟩

theorem tmod8 (n : Int) : -8 < n.tmod 8 ∧ n.tmod 8 < 8 := by
  have h := Int.natAbs_tmod n 8
  have h2 : n.natAbs % (8 : Int).natAbs < (8 : Int).natAbs := Nat.mod_lt _ (by omega)
  omega

/-- What model returns. -/
def MdRet (w : World) (f : Form) (e : Ending) (w' : World) : Prop :=
  ∃ bv iv bs xs, e = .returned (.agg #[bv, iv]) ∧ Bools w' bv bs ∧ Ints w' iv xs ∧ (bs.length : Int) = f.bools ∧ (xs.length : Int) = f.ints ∧ Fits f.atoms bs xs ∧ (∀ x ∈ xs, -8 < x ∧ x < 8) ∧ Below w.heap.size w w'

/-- The same, with the blocks of the model. -/
def MdRet2 (w : World) (f : Form) (e : Ending) (w' : World) : Prop :=
  ∃ gb gx bs xs, e = .returned (.agg #[.slice (some ⟨gb, 0, none⟩) bs.length bs.length, .slice (some ⟨gx, 0, none⟩) xs.length xs.length]) ∧ Blk w' gb 4 (rowB bs) ∧ Blk w' gx 3 (rowI xs) ∧ w.heap.size ≤ gb ∧ w.heap.size ≤ gx ∧ (bs.length : Int) = f.bools ∧ (xs.length : Int) = f.ints ∧ Fits f.atoms bs xs ∧ (∀ x ∈ xs, -8 < x ∧ x < 8) ∧ Below w.heap.size w w'

set_option maxRecDepth 100000 in
set_option maxHeartbeats 4000000 in
theorem model2_any (fv lv iv : Value) (f : Form) (bools : List Bool) (ints : List Int) (w : World) (hf : IsForm w fv f) (hb : Bools w lv bools) (hx : I8s w iv ints) (hq : SmallQ f) :
    Calls Try.prog 21 #[fv, lv, iv] w (MdRet2 w f) := by
  have HF := Lib.hid hf
  have HQ := Lib.hid hq
  have HBS := Lib.hid hb
  have HXS := Lib.hid hx
  obtain ⟨av, cv, rfl, -, -, ha, hc⟩ := hf
  have HA := Lib.hid ha
  obtain ⟨Aa, ca, rfl, a1, a2, -, -⟩ := ha
  obtain ⟨Ac, cc, vs, rfl, -, -, -, -, -⟩ := hc
  obtain ⟨Ab, cb, rfl, b1, b2, -⟩ := hb
  obtain ⟨Ax, cx, rfl, x1, x2, -, -⟩ := hx
  unfold maxLen at a2 b2 x2
  obtain ⟨nb, hnb⟩ : ∃ nb : Nat, f.bools = nb := ⟨f.bools.toNat, by have := hq.al; omega⟩
  obtain ⟨ni, hni⟩ : ∃ ni : Nat, f.ints = ni := ⟨f.ints.toNat, by have := hq.i0; omega⟩
  have HNB := Lib.hid hnb
  have HNI := Lib.hid hni
  have hnb18 : nb ≤ 18 := by have := hq.bl; omega
  have hni6 : ni ≤ 6 := by have := hq.i1; omega
  have hal : f.atoms.length ≤ nb := by have := hq.al; omega
  have mk := mk_ints ni (by omega)
  have mkb := mk_bools nb (by omega)
  clear hq
  rw [hnb, hni]
  clear hnb hni
  go_enter Try.func21, Try.ntmps21
  go_upto_region 1 with fail
  obtain ⟨w0, hw0⟩ : ∃ w0 : World, w0 = (w.alloc (.cells #[.int .i64 (ni : Int), .int .i64 (nb : Int), .slice Aa f.atoms.length ca, .slice Ac f.clauses.length cc] 32)).alloc (.cells #[.slice none 0 0, .slice none 0 0] 45) := ⟨_, rfl⟩
  have hbl0 : Below w.heap.size w w0 := by rw [hw0]; exact ((Below.refl _ _).alloc (Nat.le_refl _) _).alloc (by simp) _
  have B1 : Blk w0 w.heap.size 32 #[.int .i64 (ni : Int), .int .i64 (nb : Int), .slice Aa f.atoms.length ca, .slice Ac f.clauses.length cc] := by rw [hw0]; exact (Blk.new _ _ _).alloc _
  have B2 : Blk w0 (w.heap.size + 1) 45 #[.slice none 0 0, .slice none 0 0] := by
    have h := Blk.new (w.alloc (.cells #[.int .i64 (ni : Int), .int .i64 (nb : Int), .slice Aa f.atoms.length ca, .slice Ac f.clauses.length cc] 32)) 45 #[.slice none 0 0, .slice none 0 0]
    rw [show (w.alloc (.cells #[.int .i64 (ni : Int), .int .i64 (nb : Int), .slice Aa f.atoms.length ca, .slice Ac f.clauses.length cc] 32)).heap.size = w.heap.size + 1 by simp] at h
    rw [hw0]; exact h
  rw [← hw0]
  have hs0 : w0.heap.size = w.heap.size + 2 := by rw [hw0]; simp
  have HS0 := Lib.hid hs0
  have HB0 := Lib.hid hbl0
  have HB1 := Lib.hid B1
  have HB2 := Lib.hid B2
  have r0 := B1.cell 0
  have r1 := B1.cell 1
  simp only [List.getElem?_toArray, List.getElem?_cons_zero, List.getElem?_cons_succ] at r0 r1
  have hlt0 := B1.lt
  clear hw0 hbl0 B1 B2 hs0
  go_cut [7] (fun p wx => ∃ gm gb gx, p = .pointer (some ⟨gm, 0, none⟩) ∧ MD w0 wx nb ni gm gb gx (List.replicate nb false) (List.replicate ni 0))
  case first =>
    go_region
    all_goals
      go_wp2_with fail
      go_meet
      obtain ⟨h0, h1, h2, h3⟩ := three w0 _ _ _ _ _ _
      first
        | exact ⟨_, _, _, rfl, ⟨h0, h1, h2, by omega, by omega, by omega, by omega, by omega, by omega, h3⟩⟩
        | exact ⟨_, _, _, rfl, ⟨h0, h2, h1, by omega, by omega, by omega, by omega, by omega, by omega, h3⟩⟩
        | exact ⟨_, _, _, rfl, ⟨h1, h0, h2, by omega, by omega, by omega, by omega, by omega, by omega, h3⟩⟩
        | exact ⟨_, _, _, rfl, ⟨h1, h2, h0, by omega, by omega, by omega, by omega, by omega, by omega, h3⟩⟩
        | exact ⟨_, _, _, rfl, ⟨h2, h0, h1, by omega, by omega, by omega, by omega, by omega, by omega, h3⟩⟩
        | exact ⟨_, _, _, rfl, ⟨h2, h1, h0, by omega, by omega, by omega, by omega, by omega, by omega, h3⟩⟩
  case rest =>
    obtain ⟨gm, gb, gx, rfl, hmd⟩ := hcut
    have HM := Lib.hid hmd
    have m1 := hmd.m.cell 1
    simp only [List.getElem?_toArray, List.getElem?_cons_zero, List.getElem?_cons_succ] at m1
    clear mk mkb hmd r0 r1
    go_wp2_with fail
    clear m1
    go_loopw [20] (fun i wr => ∃ (k : Nat) (xs : List Int), k ≤ ni ∧ i = .int .i64 k ∧ xs.length = ni ∧ (∀ x ∈ xs, -8 < x ∧ x < 8) ∧ MD w0 wr nb ni gm gb gx (List.replicate nb false) xs) (fun i _ => ni - (intOf i).toNat)
    case atStart => exact ⟨0, _, by omega, rfl, by simp, fun x hx => by rw [List.eq_of_mem_replicate hx]; omega, HM.out⟩
    case round =>
      obtain ⟨k, xs, hk, rfl, hxl, hxr, hmd⟩ := hrel
      have HXL := Lib.hid hxl
      have HXR := Lib.hid hxr
      have HM2 := Lib.hid hmd
      have m0 := hmd.m.cell 0
      have m1 := hmd.m.cell 1
      simp only [List.getElem?_toArray, List.getElem?_cons_zero, List.getElem?_cons_succ] at m0 m1
      clear hxl hxr hmd HM
      by_cases hkn : k < ni
      · by_cases hki : k < ints.length
        · obtain ⟨y, hy⟩ : ∃ y, ints[k]? = some y := ⟨_, List.getElem?_eq_getElem hki⟩
          obtain ⟨A', c', ev, -, -, hrg, hrd⟩ := (HXS.out.keep HB0.out).keep HM2.out.bl
          injection ev with e1 _ e2
          subst e1 e2
          obtain ⟨b1', o1, rfl, hb1', hc1⟩ := hrd.at_ (u := .int .i8 y) (by rw [List.getElem?_map, hy]; rfl)
          obtain ⟨y1, y2⟩ := hrg y (List.mem_of_getElem? hy)
          obtain ⟨z, hz⟩ : ∃ z, xs[k]? = some z := ⟨_, List.getElem?_eq_getElem (by have := HXL.out; omega)⟩
          have c1 := HM2.out.x.cell k
          rw [rowI_at hz] at c1
          have z1 := HM2.out.x.frozen k
          have hty := tmod8 y
          obtain ⟨t1, t2⟩ := hty
          clear hy hz hrg hrd m0
          go_upto_region 6 with fail
          go_still_tail 10, (by kernel_rfl)
          change wpList _ _ _ _ _ wr.drew
          have HM3 : Hid (MD w0 (wr.drew.setCell ⟨gx, k, none⟩ (.int .i64 (y.tmod 8))) nb ni gm gb gx (List.replicate nb false) (xs.set k (y.tmod 8))) := Lib.hid ((HM2.out.drewN 1).setX k (y.tmod 8))
          have HXR2 : Hid (∀ x ∈ xs.set k (y.tmod 8), -8 < x ∧ x < 8) := Lib.hid fun x hx => by
            rcases List.mem_or_eq_of_mem_set hx with h | rfl
            · exact HXR.out x h
            · exact ⟨t1, t2⟩
          go_wp2_with fail
          go_roundw
          case rel => exact ⟨k + 1, _, by omega, by go_num, by rw [List.length_set]; exact HXL.out, HXR2.out, HM3.out⟩
          case measure => simp [intOf]; omega
        · go_wp2_with fail
          go_roundw
          case rel => exact ⟨k + 1, xs, by omega, by go_num, HXL.out, HXR.out, HM2.out⟩
          case measure => simp [intOf]; omega
      · obtain ⟨wo, hwo⟩ : ∃ wo : World, wo = wr := ⟨_, rfl⟩
        subst hwo
        go_wp2_with fail
        clear m0 m1
        go_loopw [41] (fun i wr => ∃ (k : Nat) (bs : List Bool), k ≤ nb ∧ i = .int .i64 k ∧ bs.length = nb ∧ (∀ (i : Nat) (d : Diff), i < k → f.atoms[i]? = some d → bs[i]? = some (decide (gi xs d.x - gi xs d.y ≤ d.c))) ∧ MD w0 wr nb ni gm gb gx bs xs) (fun i _ => nb - (intOf i).toNat)
        case atStart => exact ⟨0, _, by omega, rfl, by simp, fun i d h => by omega, HM2.out⟩
        case round =>
          obtain ⟨j, bs, hj, rfl, hbl, hbf, hmd⟩ := hrel
          have HBL := Lib.hid hbl
          have HBF := Lib.hid hbf
          have HM3 := Lib.hid hmd
          have m0 := hmd.m.cell 0
          have m1 := hmd.m.cell 1
          have HB3 := Lib.hid (HB1.out.below hmd.bl HB1.out.lt)
          have t2 := HB3.out.cell 2
          simp only [List.getElem?_toArray, List.getElem?_cons_zero, List.getElem?_cons_succ] at m0 m1 t2
          clear hbl hbf hmd HM2
          by_cases hjn : j < nb
          · obtain ⟨z, hz⟩ : ∃ z, bs[j]? = some z := ⟨_, List.getElem?_eq_getElem (by have := HBL.out; omega)⟩
            have c1 := HM3.out.b.cell j
            rw [rowB_at hz] at c1
            have z1 := HM3.out.b.frozen j
            clear hz
            by_cases hja : j < f.atoms.length
            · obtain ⟨d, hd⟩ : ∃ d, f.atoms[j]? = some d := ⟨_, List.getElem?_eq_getElem hja⟩
              have HD := Lib.hid hd
              obtain ⟨A', c', ev, -, -, -, hrd⟩ := (HA.out.keep HB0.out).keep HM3.out.bl
              injection ev with e1 _ e2
              subst e1 e2
              obtain ⟨b1', o1, rfl, hb1', hx1, hy1, hz1⟩ := hrd.diff hd
              obtain ⟨dx, dy, dc⟩ := d
              obtain ⟨hok, c0, c2⟩ := HQ.out.at_ _ (List.mem_of_getElem? hd)
              obtain ⟨k1, k2, k3, k4, k5, k6, k7⟩ := okAtom_iff.1 hok
              simp only at hx1 hy1 hz1 c0 c2
              obtain ⟨X, hX⟩ : ∃ X : Nat, dx = X := ⟨dx.toNat, by omega⟩
              obtain ⟨Y, hY⟩ : ∃ Y : Nat, dy = Y := ⟨dy.toNat, by omega⟩
              subst hX hY
              have X1 : X < ni := by have := HNI.out; omega
              have Y1 : Y < ni := by have := HNI.out; omega
              obtain ⟨p, hp⟩ : ∃ p, xs[X]? = some p := ⟨_, List.getElem?_eq_getElem (by have := HXL.out; omega)⟩
              obtain ⟨q, hq⟩ : ∃ q, xs[Y]? = some q := ⟨_, List.getElem?_eq_getElem (by have := HXL.out; omega)⟩
              obtain ⟨p1, p2⟩ := HXR.out p (List.mem_of_getElem? hp)
              obtain ⟨q1, q2⟩ := HXR.out q (List.mem_of_getElem? hq)
              have HG : Hid (gi xs (X : Int) - gi xs (Y : Int) = p - q) := by
                refine Lib.hid ?_
                unfold gi
                rw [Int.toNat_natCast, Int.toNat_natCast, List.getD_eq_getElem?_getD, List.getD_eq_getElem?_getD, hp, hq]; rfl
              have e1 := HM3.out.x.cell X
              have e2 := HM3.out.x.cell Y
              rw [rowI_at hp] at e1
              rw [rowI_at hq] at e2
              have HM4 : Hid (MD w0 (wr.drew.setCell ⟨gb, j, none⟩ (.bool (decide (p - q ≤ dc)))) nb ni gm gb gx (bs.set j (decide (p - q ≤ dc))) xs) := Lib.hid ((HM3.out.drewN 1).setB j (decide (p - q ≤ dc)))
              have HBF2 : Hid (∀ (i : Nat) (d : Diff), i < j + 1 → f.atoms[i]? = some d → (bs.set j (decide (p - q ≤ dc)))[i]? = some (decide (gi xs d.x - gi xs d.y ≤ d.c))) := Lib.hid fun i d hi hd' => by
                by_cases e : i = j
                · subst e
                  rw [HD.out] at hd'; injection hd' with hd'; subst hd'
                  rw [List.getElem?_set_self (by have := HBL.out; omega)]
                  simp only [HG.out]
                · rw [List.getElem?_set_ne (by omega)]
                  exact HBF.out i d (by omega) hd'
              clear hd hrd hp hq k5 k6 k7 hok
              have sc := IntWalk.i64_in (p - q) (by omega)
              go_upto_region 12 with fail
              go_still_tail 32, (by kernel_rfl)
              change wpList _ _ _ _ _ wr.drew
              clear sc
              go_wp2_with fail
              go_roundw
              case rel => exact ⟨j + 1, _, by omega, by go_num, by rw [List.length_set]; exact HBL.out, HBF2.out, HM4.out⟩
              case measure => simp [intOf]; omega
            · have HBF2 : ∀ (bs2 : List Bool), (∀ i, i ≠ j → bs2[i]? = bs[i]?) → Hid (∀ (i : Nat) (d : Diff), i < j + 1 → f.atoms[i]? = some d → bs2[i]? = some (decide (gi xs d.x - gi xs d.y ≤ d.c))) := fun bs2 h2 => Lib.hid fun i d hi hd' => by
                have := (List.getElem?_eq_some_iff.1 hd').1
                rw [h2 i (by omega)]
                exact HBF.out i d (by omega) hd'
              by_cases hjb : j < bools.length
              · obtain ⟨y, hy⟩ : ∃ y, bools[j]? = some y := ⟨_, List.getElem?_eq_getElem hjb⟩
                obtain ⟨A', c', ev, -, -, hrd⟩ := (HBS.out.keep HB0.out).keep HM3.out.bl
                injection ev with e1 _ e2
                subst e1 e2
                obtain ⟨b1', o1, rfl, hb1', hc1⟩ := hrd.bool hy
                have HM4 : Hid (MD w0 (wr.drew.setCell ⟨gb, j, none⟩ (.bool y)) nb ni gm gb gx (bs.set j y) xs) := Lib.hid ((HM3.out.drewN 1).setB j y)
                have HBF3 := HBF2 (bs.set j y) fun i hi => List.getElem?_set_ne (by omega)
                clear hy hrd HBF2
                go_upto_region 14 with fail
                go_still_tail 8, (by kernel_rfl)
                change wpList _ _ _ _ _ wr.drew
                go_wp2_with fail
                go_roundw
                case rel => exact ⟨j + 1, _, by omega, by go_num, by rw [List.length_set]; exact HBL.out, HBF3.out, HM4.out⟩
                case measure => simp [intOf]; omega
              · have HBF3 := HBF2 bs fun i hi => rfl
                clear HBF2
                go_wp2_with fail
                go_roundw
                case rel => exact ⟨j + 1, bs, by omega, by go_num, HBL.out, HBF3.out, HM3.out⟩
                case measure => simp [intOf]; omega
          · have R := HB2.out.below HM3.out.bl HB2.out.lt
            have s0 := R.cell 0
            have s1 := R.cell 1
            have y0 := R.frozen 0
            have y1 := R.frozen 1
            simp only [List.getElem?_toArray, List.getElem?_cons_zero, List.getElem?_cons_succ] at s0 s1
            have hl1 := HM3.out.l1
            have hl2 := HM3.out.l2
            have hl3 := HM3.out.l3
            have hs0 := HS0.out
            have ne1 : gm ≠ w.heap.size + 1 := by omega
            have HSZ := Lib.hid (show gb ≠ w.heap.size + 1 ∧ gx ≠ w.heap.size + 1 from ⟨by omega, by omega⟩)
            clear R hs0 hl1 hl2 hl3 t2
            go_wp2_with fail
            have hset : wr.grownBy ((wr.setCell ⟨w.heap.size + 1, 0, none⟩ (.slice (some ⟨gb, 0, none⟩) nb nb)).setCell ⟨w.heap.size + 1, 1, none⟩ (.slice (some ⟨gx, 0, none⟩) ni ni)) (some (w.heap.size + 1)) := grownBy_trans (grownBy_set0 _ _ _ _) (grownBy_set0 _ _ _ _)
            have hB := HM3.out.b.grown hset (by have := HSZ.out.1; simpa using this)
            have hX := HM3.out.x.grown hset (by have := HSZ.out.2; simpa using this)
            have hl2 := HM3.out.l2
            have hl3 := HM3.out.l3
            have hs0 := HS0.out
            have hW : Below w.heap.size w wr := HB0.out.trans (HM3.out.bl.mono HB0.out.size)
            exact bodyPost_ret (v := .agg #[.slice (some ⟨gb, 0, none⟩) nb nb, .slice (some ⟨gx, 0, none⟩) ni ni]) (by simp [results, Try.results21, go_sem, s0, s1]) rfl ⟨gb, gx, bs, xs, by rw [HBL.out, HXL.out], hB, hX, by omega, by omega, by rw [HBL.out, HNB.out], by rw [HXL.out, HNI.out], fun i d hd => HBF.out i d (by have := (List.getElem?_eq_some_iff.1 hd).1; omega) hd, HXR.out, hW.grown hset hW.size fun g e => by injection e with e; omega⟩
theorem model_any (fv lv iv : Value) (f : Form) (bools : List Bool) (ints : List Int) (w : World) (hf : IsForm w fv f) (hb : Bools w lv bools) (hx : I8s w iv ints) (hq : SmallQ f) :
    Calls Try.prog 21 #[fv, lv, iv] w (MdRet w f) := by
  refine (model2_any fv lv iv f bools ints w hf hb hx hq).mono ?_
  rintro e w' ⟨gb, gx, bs, xs, rfl, h1, h2, -, -, h3, h4, h5, h6, h7⟩
  have := hq.bl
  have := hq.i1
  exact ⟨_, _, bs, xs, rfl, h1.bools (by unfold maxLen; omega), h2.ints (fun x hx => by have := h6 x hx; constructor <;> omega) (by unfold maxLen; omega), h3, h4, h5, h6, h7⟩
end Go.Proofs.Ytdmndikenejhiaa
