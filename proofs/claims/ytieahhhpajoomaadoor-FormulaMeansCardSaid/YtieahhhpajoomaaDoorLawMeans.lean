/-
  WALK: interleavelaw31.FormulaMeans.
-/
import Derived.Test.YtieahhhpajoomaaDoorAwake31
import Derived.Test.YtieahhhpajoomaaDoorNormalRef
import Derived.Deep.RegionHeld3
namespace Go.Proofs.YtieahhhpajoomaaDoor
open Go.RowKit

/-- The literal that the law makes of a number. -/
def lit20 (x : Int) : Int := if x < 0 then -(1 + (IntKind.u64.wrap x).tmod 20) else 1 + (IntKind.u64.wrap x).tmod 20
theorem mod20 (x : Int) : 0 ≤ (IntKind.u64.wrap x).tmod 20 ∧ (IntKind.u64.wrap x).tmod 20 ≤ 19 := by
  rw [IntKind.wrap_u64]
  have h0 : 0 ≤ x % 18446744073709551616 := Int.emod_nonneg _ (by omega)
  rw [Int.tmod_eq_emod_of_nonneg h0]
  omega
theorem lit20_range (x : Int) : lit20 x ≠ 0 ∧ -20 ≤ lit20 x ∧ lit20 x ≤ 20 := by
  obtain ⟨h1, h2⟩ := mod20 x
  unfold lit20
  split <;> omega
theorem lit20_good {l : List Int} : ∀ z ∈ l.map lit20, badLit z = false ∧ z ≠ 0 ∧ -20 ≤ z ∧ z ≤ 20 := by
  intro z hz
  obtain ⟨x, _, rfl⟩ := List.mem_map.1 hz
  have := lit20_range x
  refine ⟨?_, this⟩
  simp [badLit]
  omega
theorem holds_or {bs : List Bool} {z : Int} (h0 : z ≠ 0) (h1 : -(bs.length : Int) ≤ z) (h2 : z ≤ bs.length) : holds bs z = true ∨ holds bs (-z) = true := by
  rcases lit_cases z with rfl | ⟨n, rfl⟩ | ⟨n, rfl⟩
  · exact absurd rfl h0
  · have hn : n < bs.length := by omega
    rw [holds_pos, holds_neg]
    simp [List.getD, List.getElem?_eq_getElem hn]
  · have hn : n < bs.length := by omega
    rw [Int.neg_neg, holds_pos, holds_neg]
    simp [List.getD, List.getElem?_eq_getElem hn]
/-- The normal form holds just where the clause holds. -/
theorem norm_any {xs l : List Int} (h : norm xs = some l) (p : Int → Bool) : l.any p = xs.any p := by
  have hs := norm_spec xs
  rw [h] at hs
  rw [Bool.eq_iff_iff, List.any_eq_true, List.any_eq_true]
  exact ⟨fun ⟨x, hx, hp⟩ => ⟨x, (hs.2.1 x).1 hx, hp⟩, fun ⟨x, hx, hp⟩ => ⟨x, (hs.2.1 x).2 hx, hp⟩⟩
theorem norm_none_any {xs : List Int} {bs : List Bool} (h : norm (xs.map lit20) = none) (hb : 20 ≤ bs.length) : (xs.map lit20).any (holds bs) = true := by
  have hs := norm_spec (xs.map lit20)
  rw [h] at hs
  rw [List.any_eq_true]
  rcases hs with ⟨x, hx, hb'⟩ | ⟨x, hx, ho, h0⟩
  · rw [(lit20_good x hx).1] at hb'; cases hb'
  · have hr := (lit20_good x hx).2
    rcases holds_or (bs := bs) h0 (by omega) (by omega) with hh | hh
    · exact ⟨x, hx, hh⟩
    · exact ⟨-x, ho, hh⟩

set_option maxRecDepth 100000 in
theorem means_big (v bv iv : Value) (xs : List Int) (bs : List Bool) (w : World) (hv : Ints w v xs) (hb : Bools w bv bs) (h : 60 < xs.length ∨ 60 < bs.length) (hT : Tab w) :
    Calls Tryd.prog 7 #[v, .agg #[bv, iv]] w fun e w' => e = .returned (.bool true) ∧ Below w.heap.size w w' := by
  have HT := Lib.hid hT
  obtain ⟨A, c, rfl, h1, h2, -, -⟩ := hv
  obtain ⟨A', c', rfl, h1', h2', -⟩ := hb
  unfold maxLen at h2 h2'
  clear hT
  by_cases hx : 60 < xs.length
  · have hd : decide ((60 : Int) < (xs.length : Int)) = true := by simp; omega
    clear h
    go_enter Tryd.func7, Tryd.ntmps7
    go_wp2_with fail
    refine (awake31 _ (HT.out.keep (B := w.heap.size) (by go_grown) HT.out.lt)).mono ?_
    rintro e w1 ⟨rfl, hb1⟩
    have HB1 := Lib.hid hb1
    clear hb1
    go_wp2_with fail
    go_ret
    exact ⟨rfl, Below.trans (by go_grown) (HB1.out.mono (by simp))⟩
  · have hd : decide ((60 : Int) < (xs.length : Int)) = false := by simp; omega
    have hd2 : decide ((60 : Int) < (bs.length : Int)) = true := by simp; omega
    clear h
    go_enter Tryd.func7, Tryd.ntmps7
    go_wp2_with fail
    refine (awake31 _ (HT.out.keep (B := w.heap.size) (by go_grown) HT.out.lt)).mono ?_
    rintro e w1 ⟨rfl, hb1⟩
    have HB1 := Lib.hid hb1
    clear hb1
    go_wp2_with fail
    go_ret
    exact ⟨rfl, Below.trans (by go_grown) (HB1.out.mono (by simp))⟩

set_option maxRecDepth 100000 in
set_option maxHeartbeats 4000000 in
theorem means_small (v bv iv : Value) (xs : List Int) (bs : List Bool) (w : World) (hv : Ints w v xs) (hb : Bools w bv bs) (hx : xs.length ≤ 60) (hbl : bs.length ≤ 60) (hT : Tab w) :
    Calls Tryd.prog 7 #[v, .agg #[bv, iv]] w fun e w' => e = .returned (.bool true) ∧ Below w.heap.size w w' := by
  have HT := Lib.hid hT
  have HBO := Lib.hid hb
  obtain ⟨A, c, rfl, h1, h2, h3, hr⟩ := hv
  obtain ⟨A', c', rfl, h1', h2', -⟩ := hb
  unfold maxLen at h2 h2'
  have HX := Lib.hid h3
  have HR := Lib.hid hr
  obtain ⟨i0, hi, hz0, hz1, hz2⟩ := info_parts info_int
  have hd : decide ((60 : Int) < (xs.length : Int)) = false := by simp; omega
  have hd2 : decide ((60 : Int) < (bs.length : Int)) = false := by simp; omega
  clear hT hr h3
  go_enter Tryd.func7, Tryd.ntmps7
  go_wp2_with fail
  have B0 := Blk.new w 44 #[.slice A' bs.length c', iv]
  generalize hW : w.alloc (.cells #[.slice A' bs.length c', iv] 44) = W at B0 ⊢
  have hbW : Below w.heap.size w W := by rw [← hW]; go_grown
  have hszW : W.heap.size = w.heap.size + 1 := by rw [← hW]; simp
  have HB0 := Lib.hid B0
  have HBW := Lib.hid hbW
  have HSW := Lib.hid hszW
  clear hW B0 hbW hszW
  go_loopw [5, 29] (fun r i wr => ∃ k : Nat, k ≤ xs.length ∧ i = .int .i64 k ∧ wr.ownsRow W.heap.size 3 1 r k (((xs.map lit20).take k).map (Value.int .i64)) ∧ Below W.heap.size W wr) (fun _ i _ => xs.length - (intOf i).toNat)
  case atStart => exact ⟨0, by omega, rfl, World.ownsRow_nil _ _ _ _, Below.refl _ _⟩
  case round =>
    obtain ⟨k, hk, rfl, hown, hbw⟩ := hrel
    have HOW := Lib.hid hown
    have HBR := Lib.hid hbw
    clear hown hbw
    obtain ⟨A1, cap1, rfl⟩ := owns_slice HOW.out
    have hszr : W.heap.size ≤ wr.heap.size := HBR.out.size
    by_cases hlt : k < xs.length
    · obtain ⟨x, hxk⟩ : ∃ x, xs[k]? = some x := ⟨_, List.getElem?_eq_getElem hlt⟩
      obtain ⟨b1, o1, rfl, hb1, hc1⟩ := (HR.out.keep (HBW.out.trans (HBR.out.mono HBW.out.size))).int hxk
      obtain ⟨hx1, hx2⟩ := HX.out x (List.mem_of_getElem? hxk)
      have HXK := Lib.hid hxk
      clear hxk
      obtain ⟨hm1, hm2⟩ := mod20 x
      by_cases hneg : x < 0
      · have HLT : Hid (lit20 x = -(1 + (IntKind.u64.wrap x).tmod 20)) := by unfold lit20; rw [if_pos hneg]; exact rfl
        go_wp2_with (at_builtin; refine wpList_append_own _ rfl _ _ 22 rfl W.heap.size 3 i0 (.int .i64 0) 1 8 Tryd.underlying22 hi hz0 hz1 hz2 rfl (by decide) _ _ _ rfl (HOW.out.alloc _) ⟨wr.heap.size, 0, none⟩ 1 1 [.int .i64 (-(1 + (IntKind.u64.wrap x).tmod 20))] rfl rfl ?c1 ?c2 ?c3 ?c4 ?c5 ?_)
        case c1 =>
          intro j u hj
          match j, hj with
          | 0, hj => simp at hj; subst hj; simp [Addr.add]
        case c2 => intro u hu; simp at hu; subst hu; rfl
        case c3 => unfold maxLen; omega
        case c4 => omega
        case c5 => simp; omega
        intro v' w2 hown' hgrow _
        have HO2 : Hid (w2.ownsRow W.heap.size 3 1 v' (k + 1) (((xs.map lit20).take (k + 1)).map (Value.int .i64))) := by
          rw [take_succ_of (x := lit20 x) (by rw [List.getElem?_map, HXK.out]; rfl), List.map_append, HLT.out]
          have h := hown'
          simp only [List.map_take, List.map_map] at h ⊢
          exact h
        have HB2 : Hid (Below W.heap.size W w2) := (HBR.out.alloc hszr _).grown hgrow (by simp; omega) (fun g hg => (HOW.out.lt g hg).1)
        clear hown' hgrow
        go_wp2_with fail
        refine ⟨⟨k + 1, by omega, by go_num, HO2.out, HB2.out⟩, by simp [intOf]; omega⟩
      · have HLT : Hid (lit20 x = 1 + x % 20) := by show lit20 x = 1 + x % 20; unfold lit20; rw [if_neg hneg, IntKind.wrap_u64, Int.emod_eq_of_lt (by omega) (by omega), Int.tmod_eq_emod_of_nonneg (by omega)]
        go_wp2_with (at_builtin; refine wpList_append_own _ rfl _ _ 22 rfl W.heap.size 3 i0 (.int .i64 0) 1 8 Tryd.underlying22 hi hz0 hz1 hz2 rfl (by decide) _ _ _ rfl (HOW.out.alloc _) ⟨wr.heap.size, 0, none⟩ 1 1 [.int .i64 (1 + x % 20)] rfl rfl ?c1 ?c2 ?c3 ?c4 ?c5 ?_)
        case c2 => rfl
        case c3 => unfold maxLen; omega
        case c4 => omega
        case c5 => omega
        intro v' w2 hown' hgrow _
        have HO2 : Hid (w2.ownsRow W.heap.size 3 1 v' (k + 1) (((xs.map lit20).take (k + 1)).map (Value.int .i64))) := by
          rw [take_succ_of (x := lit20 x) (by rw [List.getElem?_map, HXK.out]; rfl), List.map_append, HLT.out]
          have h := hown'
          simp only [List.map_take, List.map_map] at h ⊢
          exact h
        have HB2 : Hid (Below W.heap.size W w2) := (HBR.out.alloc hszr _).grown hgrow (by simp; omega) (fun g hg => (HOW.out.lt g hg).1)
        clear hown' hgrow
        go_wp2_with fail
        refine ⟨⟨k + 1, by omega, by go_num, HO2.out, HB2.out⟩, by simp [intOf]; omega⟩
    · have HOL : Hid (wr.ownsRow W.heap.size 3 1 (.slice A1 k cap1) k ((xs.map lit20).map (Value.int .i64))) := by
        have h := HOW.out
        rwa [List.take_of_length_le (by simp; omega)] at h
      obtain rfl : k = (xs.map lit20).length := by simp; omega
      have hml : (xs.map lit20).length ≤ 60 := by simp; omega
      have HLI : Hid (Ints wr (.slice A1 (xs.map lit20).length cap1) (xs.map lit20)) := Own.ints (base := W.heap.size) ⟨HOL.out, fun z hz => by have := lit20_good z hz; unfold I64; omega⟩
      have HNA : Hid (∀ l, norm (xs.map lit20) = some l → ∀ p, l.any p = (xs.map lit20).any p) := fun l h p => norm_any h p
      have HNN : Hid (norm (xs.map lit20) = none → 20 ≤ bs.length → (xs.map lit20).any (holds bs) = true) := norm_none_any
      have HLG : Hid (∀ z ∈ xs.map lit20, I64 z) := fun z hz => by have := lit20_good z hz; unfold I64; omega
      generalize hzs : xs.map lit20 = zs at *
      clear hzs
      go_wp2_with fail
      refine (fnormal_any _ zs _ HLI.out (by omega)).mono ?_
      rintro e w2 ⟨va, rfl, howna, hb2⟩
      have HOA := Lib.hid howna
      have HB2 := Lib.hid hb2
      obtain ⟨A2, cap2, rfl⟩ := owns_slice howna.1
      have hsz2 := hb2.size
      clear howna hb2
      simp only
      have hszB : w.heap.size < w2.heap.size := by have := HSW.out; omega
      have HBWW : Hid (Below w.heap.size w w2) := HBW.out.trans ((HBR.out.trans (HB2.out.mono hszr)).mono HBW.out.size)
      have HBK : Hid (Blk w2 w.heap.size 44 #[.slice A' bs.length c', iv]) := HB0.out.keep (HBR.out.trans (HB2.out.mono hszr))
      have HZR : Hid (Rd w2 A1 (zs.map (Value.int .i64))) := by
        obtain ⟨A9, c9, h9, _, _, _, hr9⟩ := HLI.out.keep HB2.out
        injection h9 with e9 _ _
        subst e9
        exact hr9
      have HYR : Hid (Rd w2 A2 (((norm zs).getD []).map (Value.int .i64))) := by
        obtain ⟨A9, c9, h9, _, _, _, hr9⟩ := HOA.out.ints
        injection h9 with e9 _ _
        subst e9
        exact hr9
      have HYG : Hid (∀ z ∈ (norm zs).getD [], I64 z) := HOA.out.2
      have HBO2 := Lib.hid (HBO.out.keep HBWW.out)
      have hnl : ((norm zs).getD []).length ≤ 60 := by
        cases hn : norm zs with
        | none => simp
        | some l => have := norm_len hn; simp; omega
      have HUP : Hid (Up ((norm zs).getD [])) := by
        have hs := norm_spec zs
        show Up _
        cases hn : norm zs with
        | none => exact List.Pairwise.nil
        | some l => rw [hn] at hs; exact hs.1
      have HYL : Hid (∀ z ∈ (norm zs).getD [], z ≠ -9223372036854775808) := by
        have hs := norm_spec zs
        intro z hz
        cases hn : norm zs with
        | none => rw [hn] at hz; cases hz
        | some l =>
          rw [hn] at hs hz
          have := hs.2.2 z ((hs.2.1 z).1 hz)
          rintro rfl
          simp [badLit] at this
      have HEN : Hid ((norm zs).isSome = true → ((norm zs).getD []).any (holds bs) = zs.any (holds bs)) := by
        intro h
        cases hn : norm zs with
        | none => rw [hn] at h; cases h
        | some l => exact HNA.out l hn _
      have HNO : Hid ((norm zs).isSome = false → ((norm zs).getD []).length = 0 ∧ (20 ≤ bs.length → zs.any (holds bs) = true)) := by
        intro h
        cases hn : norm zs with
        | none => exact ⟨rfl, HNN.out hn⟩
        | some l => rw [hn] at h; cases h
      generalize (norm zs).getD [] = ys at *
      generalize (norm zs).isSome = bo at *
      clear HNA HNN HOA HLI HOL HOW HBR hszr hlt hk
      go_wp2_with fail
      go_loopw [11, 54] (fun a i wr => ∃ k : Nat, k ≤ zs.length ∧ a = .bool ((zs.take k).any (holds bs)) ∧ i = .int .i64 k ∧ Below w2.heap.size w2 wr) (fun _ i _ => zs.length - (intOf i).toNat)
      case atStart => exact ⟨0, by omega, rfl, rfl, Below.refl _ _⟩
      case round =>
        obtain ⟨k, hk, rfl, rfl, hbw⟩ := hrel
        have HBR := Lib.hid hbw
        have B1 := HBK.out.keep hbw
        have q0 := B1.cell 0
        have q1 := B1.cell 1
        simp only [List.getElem?_toArray, List.getElem?_cons_zero, List.getElem?_cons_succ] at q0 q1
        clear B1 hbw
        by_cases hlt : k < zs.length
        · obtain ⟨x, hxk⟩ : ∃ x, zs[k]? = some x := ⟨_, List.getElem?_eq_getElem hlt⟩
          obtain ⟨b1, o1, rfl, hb1, hc1⟩ := (HZR.out.keep HBR.out).int hxk
          have HXK := Lib.hid hxk
          clear hxk
          have HAN : Hid ((zs.take (k + 1)).any (holds bs) = ((zs.take k).any (holds bs) || holds bs x)) := by
            show _ = _
            rw [take_succ_of HXK.out]; simp
          generalize (zs.take k).any (holds bs) = a at *
          cases a
          · go_wp2_with fail
            refine (fholds_any _ _ bs _ _ (HBO2.out.keep HBR.out) (HLG.out x (List.mem_of_getElem? HXK.out))).mono ?_
            rintro e w3 ⟨rfl, hb3⟩
            have HB3 := Lib.hid hb3
            clear hb3
            simp only
            go_wp2_with fail
            refine ⟨⟨k + 1, by omega, by rw [HAN.out]; rfl, by go_num, HBR.out.trans (HB3.out.mono HBR.out.size)⟩, by simp [intOf]; omega⟩
          · go_wp2_with fail
            refine ⟨⟨k + 1, by omega, by rw [HAN.out]; rfl, by go_num, HBR.out⟩, by simp [intOf]; omega⟩
        · obtain rfl : k = zs.length := by omega
          have hta : (zs.take zs.length).any (holds bs) = zs.any (holds bs) := by rw [List.take_length]
          rw [hta]
          generalize zs.any (holds bs) = za at *
          clear hta
          have hszR : w2.heap.size ≤ wr.heap.size := HBR.out.size
          have HBR1 := HBR
          generalize hwv : wr = wv at *
          clear hwv HBR
          go_wp2_with fail
          go_loopw [12, 67] (fun a i wr => ∃ k : Nat, k ≤ ys.length ∧ a = .bool ((ys.take k).any (holds bs)) ∧ i = .int .i64 k ∧ Below wv.heap.size wv wr) (fun _ i _ => ys.length - (intOf i).toNat)
          case atStart => exact ⟨0, by omega, rfl, rfl, Below.refl _ _⟩
          case round =>
            obtain ⟨k, hk, rfl, rfl, hbw⟩ := hrel
            have HBR := Lib.hid hbw
            have q0 := (hbw.cell (p := ⟨w.heap.size, 0, none⟩) (by show w.heap.size < _; omega)).trans q0
            have q1 := (hbw.cell (p := ⟨w.heap.size, 1, none⟩) (by show w.heap.size < _; omega)).trans q1
            have HBQ : Hid (Below w2.heap.size w2 wr) := HBR1.out.trans (hbw.mono hszR)
            clear hbw
            by_cases hlt : k < ys.length
            · obtain ⟨x, hxk⟩ : ∃ x, ys[k]? = some x := ⟨_, List.getElem?_eq_getElem hlt⟩
              obtain ⟨b1, o1, rfl, hb1, hc1⟩ := (HYR.out.keep HBQ.out).int hxk
              have HXK := Lib.hid hxk
              clear hxk
              have HAN : Hid ((ys.take (k + 1)).any (holds bs) = ((ys.take k).any (holds bs) || holds bs x)) := by
                show _ = _
                rw [take_succ_of HXK.out]; simp
              have HXI := Lib.hid (HYG.out x (List.mem_of_getElem? HXK.out))
              have HXM := Lib.hid (HYL.out x (List.mem_of_getElem? HXK.out))
              have HRD := Lib.hid (HYR.out.keep HBQ.out)
              generalize (ys.take k).any (holds bs) = a at *
              by_cases hk0 : 0 < k
              · obtain ⟨y, hyk⟩ : ∃ y, ys[k - 1]? = some y := ⟨_, List.getElem?_eq_getElem (by omega)⟩
                obtain ⟨b2, o2, hbo2, hb2, hc2⟩ := HRD.out.int hyk
                injection hbo2 with hbo2
                injection hbo2 with e1 e2 _
                subst e1 e2
                have hlts : y.natAbs < x.natAbs := by
                  have hp := List.pairwise_iff_getElem.1 HUP.out (k - 1) k (by omega) hlt (by omega)
                  rw [List.getElem?_eq_getElem (by omega)] at hyk
                  have hxk := HXK.out
                  rw [List.getElem?_eq_getElem hlt] at hxk
                  injection hyk with e3
                  injection hxk with e4
                  rw [e3, e4] at hp
                  exact hp
                have HYI := Lib.hid (HYG.out y (List.mem_of_getElem? hyk))
                have HYM := Lib.hid (HYL.out y (List.mem_of_getElem? hyk))
                have hdx : decide ((x.natAbs : Int) ≤ (y.natAbs : Int)) = false := by simp; omega
                clear hyk
                cases a
                · go_wp2_with fail
                  refine (fholds_any _ _ bs _ _ (HBO2.out.keep HBQ.out) HXI.out).mono ?_
                  rintro e w3 ⟨rfl, hb3⟩
                  have hc3 := (hb3.cell (p := ⟨b1, o1 + (k - 1), none⟩) hb1).trans hc2
                  have HB3 := Lib.hid hb3
                  clear hb3
                  simp only
                  go_wp2_with fail
                  refine (abs_any y _ HYI.out HYM.out).mono ?_
                  rintro e w' ⟨rfl, rfl⟩
                  simp only
                  go_wp2_with fail
                  refine (abs_any x _ HXI.out HXM.out).mono ?_
                  rintro e w' ⟨rfl, rfl⟩
                  simp only
                  go_wp2_with fail
                  refine ⟨⟨k + 1, by omega, by rw [HAN.out]; rfl, by go_num, HBR.out.trans (HB3.out.mono HBR.out.size)⟩, by simp [intOf]; omega⟩
                · go_wp2_with fail
                  refine (abs_any y _ HYI.out HYM.out).mono ?_
                  rintro e w' ⟨rfl, rfl⟩
                  simp only
                  go_wp2_with fail
                  refine (abs_any x _ HXI.out HXM.out).mono ?_
                  rintro e w' ⟨rfl, rfl⟩
                  simp only
                  go_wp2_with fail
                  refine ⟨⟨k + 1, by omega, by rw [HAN.out]; rfl, by go_num, HBR.out⟩, by simp [intOf]; omega⟩
              · obtain rfl : k = 0 := by omega
                rw [Nat.add_zero] at hc1
                cases a
                · go_wp2_with fail
                  refine (fholds_any _ _ bs _ _ (HBO2.out.keep HBQ.out) HXI.out).mono ?_
                  rintro e w3 ⟨rfl, hb3⟩
                  have HB3 := Lib.hid hb3
                  clear hb3
                  simp only
                  go_wp2_with fail
                  refine ⟨⟨1, by omega, by rw [HAN.out]; rfl, by go_num, HBR.out.trans (HB3.out.mono HBR.out.size)⟩, by simp [intOf]; omega⟩
                · go_wp2_with fail
                  refine ⟨⟨1, by omega, by rw [HAN.out]; rfl, by go_num, HBR.out⟩, by simp [intOf]; omega⟩
            · obtain rfl : k = ys.length := by omega
              have hta : (ys.take ys.length).any (holds bs) = ys.any (holds bs) := by rw [List.take_length]
              rw [hta]
              generalize ys.any (holds bs) = ya at *
              clear hta
              have HTT : Hid (Tab wr) := HT.out.keep (HBWW.out.trans (HBQ.out.mono HBWW.out.size)) HT.out.lt
              have HEE : Hid (Below w.heap.size w wr) := HBWW.out.trans (HBQ.out.mono HBWW.out.size)
              cases bo
              · obtain ⟨hy0, hy1⟩ := HNO.out rfl
                cases za
                · have hb20 : bs.length < 20 := by
                    rcases Nat.lt_or_ge bs.length 20 with h | h
                    · exact h
                    · exact absurd (hy1 h) (by simp)
                  have hd20 : decide ((bs.length : Int) < 20) = true := by simp; omega
                  have hdy : (ys.length : Int) = 0 := by omega
                  clear hy1
                  go_wp2_with fail
                  refine (awake31 _ HTT.out).mono ?_
                  rintro e w6 ⟨rfl, hb6⟩
                  have HB6 := Lib.hid hb6
                  clear hb6
                  simp only
                  go_wp2_with fail
                  go_ret
                  exact ⟨rfl, HEE.out.trans (HB6.out.mono HEE.out.size)⟩
                · have hdy : (ys.length : Int) = 0 := by omega
                  clear hy1
                  go_wp2_with fail
                  refine (awake31 _ HTT.out).mono ?_
                  rintro e w6 ⟨rfl, hb6⟩
                  have HB6 := Lib.hid hb6
                  clear hb6
                  simp only
                  go_wp2_with fail
                  go_ret
                  exact ⟨rfl, HEE.out.trans (HB6.out.mono HEE.out.size)⟩
              · obtain rfl : ya = za := HEN.out rfl
                go_wp2_with fail
                refine (awake31 _ HTT.out).mono ?_
                rintro e w6 ⟨rfl, hb6⟩
                have HB6 := Lib.hid hb6
                clear hb6
                simp only
                go_wp2_with fail
                go_ret
                exact ⟨rfl, HEE.out.trans (HB6.out.mono HEE.out.size)⟩

theorem lawMeans (v bv iv : Value) (xs : List Int) (bs : List Bool) (w : World) (hv : Ints w v xs) (hb : Bools w bv bs) (hT : Tab w) :
    Calls Tryd.prog 7 #[v, .agg #[bv, iv]] w fun e w' => e = .returned (.bool true) ∧ Below w.heap.size w w' := by
  by_cases h : 60 < xs.length ∨ 60 < bs.length
  · exact means_big v bv iv xs bs w hv hb h hT
  · exact means_small v bv iv xs bs w hv hb (by omega) (by omega) hT
end Go.Proofs.YtieahhhpajoomaaDoor
