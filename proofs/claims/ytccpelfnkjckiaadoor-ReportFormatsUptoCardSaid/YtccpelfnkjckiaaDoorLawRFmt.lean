/-
  WALK: interleavelaw39.ReportFormats.
-/
import Derived.Test.YtccpelfnkjckiaaDoorAwake39
import Derived.Test.YtccpelfnkjckiaaDoorRepFmtR
namespace Go.Proofs.YtccpelfnkjckiaaDoor
open Go.RowKit

/-- How many sites the reports have. -/
def sitesSumR (rs : List Rep) : Nat := (rs.map fun r => r.sites.length).sum
theorem sitesSumR_succ {rs : List Rep} {k : Nat} {r : Rep} (h : rs[k]? = some r) : sitesSumR (rs.take (k + 1)) = sitesSumR (rs.take k) + r.sites.length := by
  rw [take_succ_of h]; simp [sitesSumR]
theorem repsSize_sum (rs : List Rep) : repsSize rs = rs.length + sitesSumR rs := by
  unfold repsSize sitesSumR
  induction rs with
  | nil => rfl
  | cons a t ih => simp only [List.map_cons, List.sum_cons, List.length_cons] at ih ⊢; omega

set_option maxRecDepth 100000 in
set_option maxHeartbeats 4000000 in
theorem lawRFmt (tv sv rv : Value) (thr : List (List UInt8)) (sts : List Diff) (rs : List Rep) (w : World) (hts : Strs w tv thr) (hss : Diffs w sv sts) (hr : Reps w rv rs) (ht : ∀ s ∈ thr, s.length ≤ 1048576) (hrl : rs.length ≤ 1048576) (hsl : ∀ r ∈ rs, r.sites.length ≤ 1048576) (hT : Tab w) (hW : WordsAt w) :
    Calls Tryd.prog 8 #[tv, sv, rv] w fun e w' => e = .returned (.bool true) ∧ Below w.heap.size w w' := by
  have HAW := Lib.hid (awake39_from hT hW)
  have HTS := Lib.hid hts
  have HSS := Lib.hid hss
  have HRR := Lib.hid hr
  have HSL := Lib.hid hsl
  have HTH := Lib.hid ht
  have HT := Lib.hid hT
  have HW := Lib.hid hW
  obtain ⟨At, ct, rfl, t1, t2, -, -⟩ := hts
  obtain ⟨As, cs, rfl, s1, s2, -, -⟩ := hss
  obtain ⟨A, c, ps, rfl, rfl, h3, h4, hrd, hps⟩ := hr
  unfold maxLen at t2 s2 h4
  have HR := Lib.hid hrd
  have HPS := Lib.hid hps
  have hpl : ps.length ≤ 1048576 := by simpa using hrl
  clear hrd hps ht hsl hrl hT hW
  go_enter Tryd.func8, Tryd.ntmps8
  go_wp2_with fail
  go_loop [7, 8] (fun nv iv => ∃ i N : Nat, i ≤ ps.length ∧ iv = .int .i64 i ∧ nv = .int .i64 N ∧ N ≤ 2097152 ∧ Hid (N = ps.length + sitesSumR ((ps.map (·.1)).take i))) (fun _ iv => ps.length - (intOf iv).toNat)
  case atStart => exact ⟨0, ps.length, by omega, rfl, rfl, by omega, Lib.hid (by simp [sitesSumR])⟩
  case round =>
    obtain ⟨i, N, hi, rfl, rfl, hN, HN⟩ := hrel
    by_cases hgo : i < ps.length ∧ N < 1000
    · obtain ⟨hil, hNl⟩ := hgo
      obtain ⟨p, hp⟩ : ∃ q, ps[i]? = some q := ⟨_, List.getElem?_eq_getElem hil⟩
      obtain ⟨b, off, rfl, hbl, hci⟩ := Reps.at_ HR.out hp
      have hsl := HSL.out p.1 (List.mem_map.2 ⟨p, List.mem_of_getElem? hp, rfl⟩)
      have HPP : Hid ((ps.map (·.1))[i]? = some p.1) := Lib.hid (by rw [List.getElem?_map, hp]; rfl)
      obtain ⟨A1, c1, e1, q1, q2, -, -⟩ := (HPS.out p (List.mem_of_getElem? hp)).1
      obtain ⟨p, pv, pw⟩ := p
      simp only at e1 q1 hsl
      subst e1
      obtain ⟨-, k1, -, -, -, -⟩ := hci
      simp only at k1
      unfold maxLen at q2
      have li : (i : Int) < ps.length := by omega
      have lN : (N : Int) < 1000 := by omega
      clear hp
      go_wp2_with fail
      go_round
      case rel => exact ⟨i + 1, N + p.sites.length, by omega, by go_num, by go_num, by omega, Lib.hid (by rw [sitesSumR_succ HPP.out, HN.out]; simp only; omega)⟩
      case measure => simp [intOf]; omega
    · have hex : Hid (N ≤ 200 → i = ps.length) := Lib.hid (fun h => by omega)
      have h2 : (i : Int) < ps.length → ¬ (N : Int) < 1000 := fun h1 h2 => hgo ⟨by omega, by omega⟩
      by_cases hil : i < ps.length
      · have li : (i : Int) < ps.length := by omega
        have lN : ¬ (N : Int) < 1000 := by omega
        have l3 : (200 : Int) < N := by omega
        clear hgo h2
        go_wp2_with fail
        refine (HAW.out _ (Below.refl _ _)).mono ?_
        rintro e w' ⟨rfl, hb⟩
        have HB := Lib.hid hb
        clear hb
        go_wp2_with fail
        go_ret
        exact ⟨rfl, HB.out⟩
      · have li : ¬ (i : Int) < ps.length := by omega
        by_cases h3 : 200 < N ∨ 10 < thr.length ∨ 100 < sts.length
        · by_cases h4 : 200 < N
          · have l3 : (200 : Int) < N := by omega
            clear hgo h2 h3
            go_wp2_with fail
            refine (HAW.out _ (Below.refl _ _)).mono ?_
            rintro e w' ⟨rfl, hb⟩
            have HB := Lib.hid hb
            clear hb
            go_wp2_with fail
            go_ret
            exact ⟨rfl, HB.out⟩
          · have l3 : ¬ (200 : Int) < N := by omega
            by_cases h5 : 10 < thr.length
            · have l4 : (10 : Int) < thr.length := by omega
              clear hgo h2 h3
              go_wp2_with fail
              refine (HAW.out _ (Below.refl _ _)).mono ?_
              rintro e w' ⟨rfl, hb⟩
              have HB := Lib.hid hb
              clear hb
              go_wp2_with fail
              go_ret
              exact ⟨rfl, HB.out⟩
            · have l4 : ¬ (10 : Int) < thr.length := by omega
              have l5 : (100 : Int) < sts.length := by omega
              clear hgo h2 h3
              go_wp2_with fail
              refine (HAW.out _ (Below.refl _ _)).mono ?_
              rintro e w' ⟨rfl, hb⟩
              have HB := Lib.hid hb
              clear hb
              go_wp2_with fail
              go_ret
              exact ⟨rfl, HB.out⟩
        · have l3 : ¬ (200 : Int) < N := by omega
          have l4 : ¬ (10 : Int) < thr.length := by omega
          have l5 : ¬ (100 : Int) < sts.length := by omega
          have HSZ : Hid (repsSize (ps.map (·.1)) ≤ 1000000) := Lib.hid (by
            have e := HN.out
            rw [hex.out (by omega), List.take_of_length_le (by simp)] at e
            have e2 := repsSize_sum (ps.map (·.1))
            rw [List.length_map] at e2
            omega)
          clear hgo h2 h3
          go_upto_region 9 with fail
          have hb0 : Below w.heap.size w (w.alloc (.cells #[.slice none 0 0, .slice none 0 0, .slice none 0 0, .slice none 0 0, .slice At thr.length ct, .slice As sts.length cs] 70)) := by go_grown
          have B0 := Blk.new w 70 #[.slice none 0 0, .slice none 0 0, .slice none 0 0, .slice none 0 0, .slice At thr.length ct, .slice As sts.length cs]
          generalize w.alloc (.cells #[.slice none 0 0, .slice none 0 0, .slice none 0 0, .slice none 0 0, .slice At thr.length ct, .slice As sts.length cs] 70) = W at *
          have HB0 := Lib.hid hb0
          have HBX := Lib.hid B0
          clear hb0 B0
          have HSOF : Hid (∀ w', Below W.heap.size W w' → w'.cell? ⟨w.heap.size, 0, none⟩ = some (.slice none 0 0) ∧ w'.cell? ⟨w.heap.size, 1, none⟩ = some (.slice none 0 0) ∧ w'.cell? ⟨w.heap.size, 2, none⟩ = some (.slice none 0 0) ∧ w'.cell? ⟨w.heap.size, 3, none⟩ = some (.slice none 0 0) ∧ w'.cell? ⟨w.heap.size, 4, none⟩ = some (.slice At thr.length ct) ∧ w'.cell? ⟨w.heap.size, 5, none⟩ = some (.slice As sts.length cs)) := Lib.hid (fun w' h => ⟨(HBX.out.keep h).cell 0, (HBX.out.keep h).cell 1, (HBX.out.keep h).cell 2, (HBX.out.keep h).cell 3, (HBX.out.keep h).cell 4, (HBX.out.keep h).cell 5⟩)
          have HWD : Hid (∀ w', Below W.heap.size W w' → IsWld w' (.agg #[.slice none 0 0, .slice none 0 0, .slice none 0 0, .slice none 0 0, .slice At thr.length ct, .slice As sts.length cs]) thr sts ∧ Reps w' (.slice A ps.length c) (ps.map (·.1)) ∧ Tab w' ∧ WordsAt w' ∧ Below w.heap.size w w') := Lib.hid (fun w' h => by
            have hb := HB0.out.trans (h.mono HB0.out.size)
            exact ⟨⟨_, _, _, _, _, _, rfl, HTS.out.keep hb, HSS.out.keep hb⟩, HRR.out.keep hb, HT.out.keep hb HT.out.lt, HW.out.keep hb HW.out.1, hb⟩)
          obtain ⟨T, hTx⟩ : ∃ T, repsText thr sts (ps.map (·.1)) = T := ⟨_, rfl⟩
          have HTX := Lib.hid hTx
          clear hTx
          have HF1 : Hid (∀ w', Below W.heap.size W w' → Calls Tryd.prog 25 #[.agg #[.slice none 0 0, .slice none 0 0, .slice none 0 0, .slice none 0 0, .slice At thr.length ct, .slice As sts.length cs], .slice A ps.length c] w' fun e w2 => e = .returned (.string ⟨T.toArray⟩) ∧ Below W.heap.size W w2) := Lib.hid (fun w' h => by
            obtain ⟨g1, g2, g3, g4, g5⟩ := HWD.out w' h
            exact (rpformat_any _ _ thr sts _ w' g1 g2 g3 g4 HTH.out HSZ.out).mono fun e w2 r => ⟨by rw [r.1, HTX.out], h.trans (r.2.mono h.size)⟩)
          have HF2 : Hid (∀ w', Below W.heap.size W w' → Calls Tryd.prog 26 #[.agg #[.slice none 0 0, .slice none 0 0, .slice none 0 0, .slice none 0 0, .slice At thr.length ct, .slice As sts.length cs], .slice A ps.length c] w' fun e w2 => e = .returned (.string ⟨T.toArray⟩) ∧ Below W.heap.size W w2) := Lib.hid (fun w' h => by
            obtain ⟨g1, g2, g3, g4, g5⟩ := HWD.out w' h
            exact (rfmt_any _ _ thr sts _ w' g1 g2 g3 HTH.out HSZ.out).mono fun e w2 r => ⟨by rw [r.1, HTX.out], h.trans (r.2.mono h.size)⟩)
          have HAW2 := Lib.hid (awake39_from (HT.out.keep HB0.out HT.out.lt) (HW.out.keep HB0.out HW.out.1))
          have hs0 := HSOF.out _ (Below.refl _ _)
          obtain ⟨z1, z2, z3, z4, z5, z6⟩ := hs0
          go_region_held3 (fun w' => w'.cell? ⟨w.heap.size, 0, none⟩ = some (.slice none 0 0) ∧ w'.cell? ⟨w.heap.size, 1, none⟩ = some (.slice none 0 0) ∧ w'.cell? ⟨w.heap.size, 2, none⟩ = some (.slice none 0 0) ∧ w'.cell? ⟨w.heap.size, 3, none⟩ = some (.slice none 0 0) ∧ w'.cell? ⟨w.heap.size, 4, none⟩ = some (.slice At thr.length ct) ∧ w'.cell? ⟨w.heap.size, 5, none⟩ = some (.slice As sts.length cs)) (first | assumption | exact HSOF.out _ (Below.refl _ _).drew) (first
            | (go_at_call 25; (with_reducible refine (HF1.out _ (by exact (Below.refl _ _).drew)).mono ?_); rintro e w2 ⟨rfl, hb2⟩; have hs2 := HSOF.out _ hb2)
            | (go_at_call 26; (with_reducible refine (HF2.out _ (by exact hb2)).mono ?_); rintro e w3 ⟨rfl, hb3⟩; have hs3 := HSOF.out _ hb3)
            | (go_at_call 18; (with_reducible refine (HAW2.out _ (by exact hb3)).mono ?_); rintro e w4 ⟨rfl, hb4⟩; have hs4 := HSOF.out _ hb4))
          have HB4 := Lib.hid (HB0.out.trans (hb4.mono HB0.out.size))
          clear hs2 hs3 hs4 hb2 hb3 hb4
          go_wp2_with fail
          go_ret
          exact ⟨rfl, HB4.out⟩
end Go.Proofs.YtccpelfnkjckiaaDoor
