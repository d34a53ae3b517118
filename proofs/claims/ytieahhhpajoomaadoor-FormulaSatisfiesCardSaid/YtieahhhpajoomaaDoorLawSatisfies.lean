/-
  WALK: interleavelaw31.FormulaSatisfies.
-/
import Derived.Test.YtieahhhpajoomaaDoorAwake31
import Derived.Test.YtieahhhpajoomaaDoorValid
import Derived.Test.YtieahhhpajoomaaDoorValidRef
import Derived.Test.YtieahhhpajoomaaDoorSat
import Derived.Deep.RegionHeld3
namespace Go.Proofs.YtieahhhpajoomaaDoor
open Go.RowKit

set_option maxRecDepth 100000 in
set_option maxHeartbeats 4000000 in
theorem lawSatisfies (v : Value) (f : Form) (bv iv : Value) (bs : List Bool) (xs : List Int) (w : World) (hf : IsForm w v f) (hb : Bools w bv bs) (hx : Ints w iv xs) (ha : f.atoms.length ≤ 140737488355328) (hc : f.clauses.length ≤ 140737488355328) (hcl : ∀ xs ∈ f.clauses, xs.length ≤ 140737488355328) (hT : Tab w) :
    Calls Tryd.prog 12 #[v, .agg #[bv, iv]] w fun e w' => e = .returned (.bool true) ∧ Below w.heap.size w w' := by
  have HT := Lib.hid hT
  have HF := Lib.hid hf
  have HA := Lib.hid ha
  have HC := Lib.hid hc
  have HCL := Lib.hid hcl
  have HBO := Lib.hid hb
  have HIX := Lib.hid hx
  obtain ⟨av, cv, rfl, -, -, -, -⟩ := hf
  obtain ⟨A2, c2, rfl, -, -, -⟩ := hb
  obtain ⟨A3, c3, rfl, -, -, -, hxr⟩ := hx
  have HXR := Lib.hid hxr
  clear hT ha hc hcl hxr
  go_enter Tryd.func12, Tryd.ntmps12
  go_wp2_with fail
  have B0 := (Blk.new w 31 #[.int .i64 f.ints, .int .i64 f.bools, av, cv]).alloc (.cells #[.slice A2 bs.length c2, .slice A3 xs.length c3] 44)
  have B1 := Blk.new (w.alloc (.cells #[.int .i64 f.ints, .int .i64 f.bools, av, cv] 31)) 44 #[.slice A2 bs.length c2, .slice A3 xs.length c3]
  simp only [World.size_alloc] at B1
  generalize hW : (w.alloc (.cells #[.int .i64 f.ints, .int .i64 f.bools, av, cv] 31)).alloc (.cells #[.slice A2 bs.length c2, .slice A3 xs.length c3] 44) = W at B0 B1 ⊢
  have hbW : Below w.heap.size w W := by rw [← hW]; go_grown
  have hsz : W.heap.size = w.heap.size + 2 := by rw [← hW]; simp
  have HS := Lib.hid hsz
  have HB0 := Lib.hid B0
  have HB1 := Lib.hid B1
  have HBW := Lib.hid hbW
  clear hW hsz B0 B1 hbW
  refine (large_any _ f _ (HF.out.keep HBW.out) HA.out HC.out HCL.out).mono ?_
  rintro e w1 ⟨rfl, hb1⟩
  have HL1 := Lib.hid (HBW.out.trans (hb1.mono HBW.out.size))
  have HM0 := Lib.hid (HB0.out.keep hb1)
  have HM1 := Lib.hid (HB1.out.keep hb1)
  have hsz1 : W.heap.size ≤ w1.heap.size := hb1.size
  clear hb1
  have q0 := HM0.out.cell 0
  have q1 := HM0.out.cell 1
  have q2 := HM0.out.cell 2
  have q3 := HM0.out.cell 3
  have r0 := HM1.out.cell 0
  have r1 := HM1.out.cell 1
  simp only [List.getElem?_toArray, List.getElem?_cons_zero, List.getElem?_cons_succ] at q0 q1 q2 q3 r0 r1
  cases hlg : largeF f
  · clear hlg
    simp only
    go_wp2_with fail
    refine (rvalid_any f _ _ (HF.out.keep HL1.out)).mono ?_
    rintro e w2 ⟨rfl, hb2⟩
    have HL2 := Lib.hid (HL1.out.trans (hb2.mono HL1.out.size))
    have HN0 := Lib.hid (HM0.out.keep hb2)
    have HN1 := Lib.hid (HM1.out.keep hb2)
    have hsz2 : W.heap.size ≤ w2.heap.size := by have := hb2.size; omega
    clear hb2 q0 q1 q2 q3 r0 r1
    have q0 := HN0.out.cell 0
    have q1 := HN0.out.cell 1
    have q2 := HN0.out.cell 2
    have q3 := HN0.out.cell 3
    have r0 := HN1.out.cell 0
    have r1 := HN1.out.cell 1
    simp only [List.getElem?_toArray, List.getElem?_cons_zero, List.getElem?_cons_succ] at q0 q1 q2 q3 r0 r1
    by_cases hv : validF f = 0
    · have HV := Lib.hid hv
      rw [hv]
      clear hv
      simp only
      by_cases hbl : 2000 < bs.length
      · have d1 : decide ((2000 : Int) < (bs.length : Int)) = true := by simp; omega
        clear hbl
        go_wp2_with fail
        refine (awake31 _ (HT.out.keep HL2.out HT.out.lt)).mono ?_
        rintro e w9 ⟨rfl, hb9⟩
        have HB9 := Lib.hid hb9
        clear hb9
        simp only
        go_wp2_with fail
        go_ret
        exact ⟨rfl, HL2.out.trans (HB9.out.mono HL2.out.size)⟩
      · have d1 : decide ((2000 : Int) < (bs.length : Int)) = false := by simp; omega
        by_cases hxl : 200 < xs.length
        · have d2 : decide ((200 : Int) < (xs.length : Int)) = true := by simp; omega
          clear hbl hxl
          go_wp2_with fail
          refine (awake31 _ (HT.out.keep HL2.out HT.out.lt)).mono ?_
          rintro e w9 ⟨rfl, hb9⟩
          have HB9 := Lib.hid hb9
          clear hb9
          simp only
          go_wp2_with fail
          go_ret
          exact ⟨rfl, HL2.out.trans (HB9.out.mono HL2.out.size)⟩
        · have d2 : decide ((200 : Int) < (xs.length : Int)) = false := by simp; omega
          go_wp2_with fail
          go_loop [30] (fun i => ∃ k : Nat, k ≤ xs.length ∧ i = .int .i64 k ∧ ∀ x ∈ xs.take k, Forty x) (fun i => xs.length - (intOf i).toNat)
          case atStart => exact ⟨0, by omega, rfl, by simp⟩
          case round =>
            obtain ⟨k, hk, rfl, hall⟩ := hrel
            have HALL := Lib.hid hall
            clear hall
            by_cases hlt : k < xs.length
            · obtain ⟨x, hxk⟩ : ∃ x, xs[k]? = some x := ⟨_, List.getElem?_eq_getElem hlt⟩
              obtain ⟨b1, o1, rfl, hb1, hc1⟩ := (HXR.out.keep HL2.out).int hxk
              have HXK := Lib.hid hxk
              clear hxk
              by_cases h1 : x < -1099511627776
              · have e1 : decide (x < -1099511627776) = true := by simp; omega
                clear h1
                go_wp2_with fail
                refine (awake31 _ (HT.out.keep HL2.out HT.out.lt)).mono ?_
                rintro e w9 ⟨rfl, hb9⟩
                have HB9 := Lib.hid hb9
                clear hb9
                simp only
                go_wp2_with fail
                go_ret
                exact ⟨rfl, HL2.out.trans (HB9.out.mono HL2.out.size)⟩
              · have e1 : decide (x < -1099511627776) = false := by simp; omega
                by_cases h2 : 1099511627776 < x
                · have e2 : decide (1099511627776 < x) = true := by simp; omega
                  clear h1 h2
                  go_wp2_with fail
                  refine (awake31 _ (HT.out.keep HL2.out HT.out.lt)).mono ?_
                  rintro e w9 ⟨rfl, hb9⟩
                  have HB9 := Lib.hid hb9
                  clear hb9
                  simp only
                  go_wp2_with fail
                  go_ret
                  exact ⟨rfl, HL2.out.trans (HB9.out.mono HL2.out.size)⟩
                · have e2 : decide (1099511627776 < x) = false := by simp; omega
                  have HNX : Hid (∀ x ∈ xs.take (k + 1), Forty x) := by
                    intro y hy
                    rw [take_succ_of HXK.out, List.mem_append] at hy
                    rcases hy with hy | hy
                    · exact HALL.out y hy
                    · rw [List.mem_singleton] at hy; subst hy; exact ⟨by omega, by omega⟩
                  clear h1 h2
                  go_wp2_with fail
                  go_round
                  case rel => exact ⟨k + 1, by omega, by go_num, HNX.out⟩
                  case measure => simp [intOf]; omega
            · have H40 : Hid (∀ x ∈ xs, Forty x) := by
                have h := HALL.out
                rwa [List.take_of_length_le (by omega)] at h
              have hz0 : w.heap.size < w2.heap.size := HN0.out.lt
              have hz1 : w.heap.size + 1 < w2.heap.size := HN1.out.lt
              have HSOF : Hid (∀ w', Below w2.heap.size w2 w' → w'.cell? ⟨w.heap.size, 0, none⟩ = some (.int .i64 f.ints) ∧ w'.cell? ⟨w.heap.size, 1, none⟩ = some (.int .i64 f.bools) ∧ w'.cell? ⟨w.heap.size, 2, none⟩ = some av ∧ w'.cell? ⟨w.heap.size, 3, none⟩ = some cv ∧ w'.cell? ⟨w.heap.size + 1, 0, none⟩ = some (.slice A2 bs.length c2) ∧ w'.cell? ⟨w.heap.size + 1, 1, none⟩ = some (.slice A3 xs.length c3) ∧ Below w2.heap.size w2 w') :=
                fun w' h => ⟨(h.cell (p := ⟨w.heap.size, 0, none⟩) hz0).trans q0, (h.cell (p := ⟨w.heap.size, 1, none⟩) hz0).trans q1, (h.cell (p := ⟨w.heap.size, 2, none⟩) hz0).trans q2, (h.cell (p := ⟨w.heap.size, 3, none⟩) hz0).trans q3, (h.cell (p := ⟨w.heap.size + 1, 0, none⟩) hz1).trans r0, (h.cell (p := ⟨w.heap.size + 1, 1, none⟩) hz1).trans r1, h⟩
              go_wp2_with fail
              go_region_held3 (fun w' => w'.cell? ⟨w.heap.size, 0, none⟩ = some (.int .i64 f.ints) ∧ w'.cell? ⟨w.heap.size, 1, none⟩ = some (.int .i64 f.bools) ∧ w'.cell? ⟨w.heap.size, 2, none⟩ = some av ∧ w'.cell? ⟨w.heap.size, 3, none⟩ = some cv ∧ w'.cell? ⟨w.heap.size + 1, 0, none⟩ = some (.slice A2 bs.length c2) ∧ w'.cell? ⟨w.heap.size + 1, 1, none⟩ = some (.slice A3 xs.length c3) ∧ Below w2.heap.size w2 w') (first | assumption | exact HSOF.out _ (Below.refl _ _).drew) (first
                | (go_at_call 28; refine (fsat_any _ _ xs bs _ _ f (HF.out.keep HL2.out.drew) (HBO.out.keep HL2.out.drew) (HIX.out.keep HL2.out.drew) HV.out H40.out).mono ?_; rintro e w3 ⟨⟨s1, rfl, hs1⟩, hb3⟩; have HSA := Lib.hid hs1; clear hs1; have hs3 := HSOF.out w3 (Below.trans (Below.refl _ _).drew hb3))
                | (go_at_call 29; refine (rsat_any _ _ xs bs _ _ f (HF.out.keep (HL2.out.trans (hs3.2.2.2.2.2.2.mono HL2.out.size))) (HBO.out.keep (HL2.out.trans (hs3.2.2.2.2.2.2.mono HL2.out.size))) (HIX.out.keep (HL2.out.trans (hs3.2.2.2.2.2.2.mono HL2.out.size))) HV.out H40.out).mono ?_; rintro e w4 ⟨⟨s2, rfl, hs2⟩, hb4⟩; obtain rfl : s1 = s2 := Bool.eq_iff_iff.2 (HSA.out.trans hs2.symm); clear hs2; have hs4 := HSOF.out w4 (hs3.2.2.2.2.2.2.trans (hb4.mono hs3.2.2.2.2.2.2.size)))
                | (go_at_call 14; refine (awake31 _ (HT.out.keep (HL2.out.trans (hs4.2.2.2.2.2.2.mono HL2.out.size)) HT.out.lt)).mono ?_; rintro e w5 ⟨rfl, hb5⟩; have hs5 := HSOF.out w5 (hs4.2.2.2.2.2.2.trans (hb5.mono hs4.2.2.2.2.2.2.size))))
              have HB5 := Lib.hid hs5.2.2.2.2.2.2
              clear hs3 hs4 hs5 hb3 hb4 hb5
              go_wp2_with fail
              go_ret
              exact ⟨rfl, HL2.out.trans (HB5.out.mono HL2.out.size)⟩
    · have hvn : (validF f != 0) = true := by simp [hv]
      clear hv
      simp only
      go_wp2_with fail
      refine (awake31 _ (HT.out.keep HL2.out HT.out.lt)).mono ?_
      rintro e w9 ⟨rfl, hb9⟩
      have HB9 := Lib.hid hb9
      clear hb9
      simp only
      go_wp2_with fail
      go_ret
      exact ⟨rfl, HL2.out.trans (HB9.out.mono HL2.out.size)⟩
  · clear hlg
    simp only
    go_wp2_with fail
    refine (awake31 _ (HT.out.keep HL1.out HT.out.lt)).mono ?_
    rintro e w9 ⟨rfl, hb9⟩
    have HB9 := Lib.hid hb9
    clear hb9
    simp only
    go_wp2_with fail
    go_ret
    exact ⟨rfl, HL1.out.trans (HB9.out.mono HL1.out.size)⟩
end Go.Proofs.YtieahhhpajoomaaDoor
