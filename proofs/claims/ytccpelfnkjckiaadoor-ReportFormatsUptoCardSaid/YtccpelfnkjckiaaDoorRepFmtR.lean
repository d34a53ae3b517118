/-
  WALK: interleaveref39.word, interleaveref39.FormatReports.
-/
import Derived.Test.YtccpelfnkjckiaaDoorRepFmt
import Derived.Shelf.SlSortCmp.QuietGrown
namespace Go.Proofs.YtccpelfnkjckiaaDoor
open Go.RowKit Go.Sort

set_option maxRecDepth 100000 in
theorem rword_any (k : Int) (w : World) : Calls Tryd.prog 52 #[.int .i64 k] w fun e w' => e = .returned (.string ⟨(kindWord k).toArray⟩) ∧ w' = w := by
  by_cases h1 : k = 1
  · subst h1
    go_enter Tryd.func52, Tryd.ntmps52
    go_wp2
    go_ret
    exact ⟨rfl, rfl⟩
  · by_cases h2 : k = 2
    · subst h2
      go_enter Tryd.func52, Tryd.ntmps52
      go_wp2
      go_ret
      exact ⟨rfl, rfl⟩
    · by_cases h3 : k = 3
      · subst h3
        go_enter Tryd.func52, Tryd.ntmps52
        go_wp2
        go_ret
        exact ⟨rfl, rfl⟩
      · by_cases h4 : k = 4
        · subst h4
          go_enter Tryd.func52, Tryd.ntmps52
          go_wp2
          go_ret
          exact ⟨rfl, rfl⟩
        · have HV : Hid (kindWord k = [103, 111, 97, 108]) := Lib.hid (kindWord_out (by omega))
          have e1 : (k == 1) = false := by simpa using h1
          have e2 : (k == 2) = false := by simpa using h2
          have e3 : (k == 3) = false := by simpa using h3
          have e4 : (k == 4) = false := by simpa using h4
          clear h1 h2 h3 h4
          go_enter Tryd.func52, Tryd.ntmps52
          go_wp2
          go_ret
          exact ⟨by rw [HV.out]; rfl, rfl⟩

theorem itoa_grown (n : Int) (w : World) (hn : I64 n) (hT : Tab w) (n' : Nat) (os' : Array Obj) :
    Calls Tryd.prog 48 #[.int .i64 n] (grow (w.drewN n') os') fun e w' => e = .returned (.string ⟨(Lib.itoa n).toArray⟩) ∧ ∃ q os2, w' = grow ((grow (w.drewN n') os').drewN q) os2 := by
  refine (Tryd.strconv_Itoa n hn.1 hn.2 _ (hT.keep (below_grow w n' os') hT.lt)).mono ?_
  rintro e w' ⟨rfl, k, os, rfl⟩
  exact ⟨rfl, k, os, rfl⟩
theorem rword_grown (k : Int) (w : World) (n' : Nat) (os' : Array Obj) : Calls Tryd.prog 52 #[.int .i64 k] (grow (w.drewN n') os') fun e w' => e = .returned (.string ⟨(kindWord k).toArray⟩) ∧ ∃ q os2, w' = grow ((grow (w.drewN n') os').drewN q) os2 := by
  refine (rword_any k _).mono ?_
  rintro e w' ⟨rfl, rfl⟩
  exact ⟨rfl, 0, #[], by unfold grow; simp [World.drewN]⟩
theorem str_site (U s t : List UInt8) : ByteArray.mk U.toArray ++ (ByteArray.mk #[32] ++ ByteArray.mk s.toArray ++ ByteArray.mk #[58] ++ ByteArray.mk t.toArray) = ByteArray.mk (U ++ (32 :: (s ++ [58] ++ t))).toArray := by
  rw [str_blank, show ByteArray.mk #[58] = ByteArray.mk [58].toArray from rfl, str_append2, str_append2, str_append2]; simp
theorem str_whole (r : Rep) (T : List UInt8) : ByteArray.mk T.toArray ++ (ByteArray.mk (kindWord r.kind).toArray ++ ByteArray.mk #[32] ++ ByteArray.mk (Lib.itoa r.score).toArray ++ ByteArray.mk #[32] ++ ByteArray.mk (Lib.itoa r.count).toArray) = ByteArray.mk (T ++ headOf r).toArray := by
  rw [str_head, str_append2]

set_option maxRecDepth 100000 in
set_option maxHeartbeats 4000000 in
theorem rfmt_any (wv rv : Value) (thr : List (List UInt8)) (sts : List Diff) (rs : List Rep) (w : World) (hw : IsWld w wv thr sts) (hr : Reps w rv rs) (hT : Tab w) (ht : ∀ s ∈ thr, s.length ≤ 1048576) (hsz : repsSize rs ≤ 1000000) :
    Calls Tryd.prog 26 #[wv, rv] w fun e w' => e = .returned (.string ⟨(repsText thr sts rs).toArray⟩) ∧ Below w.heap.size w w' := by
  obtain ⟨c0, c1, c2, c3, tv, sv, rfl, hts, hss⟩ := hw
  obtain ⟨At, ct, rfl, t1, t2, hth, htr⟩ := hts
  obtain ⟨As, cs, rfl, s1, s2, hsk, hsr⟩ := hss
  obtain ⟨A, c, ps, rfl, rfl, h3, h4, hrd, hps⟩ := hr
  unfold maxLen at t2 s2 h4
  have HT := Lib.hid hT
  have HRD := Lib.hid hrd
  have HPS := Lib.hid hps
  have HTH := Lib.hid ht
  have HSK := Lib.hid hsk
  have HSZ := Lib.hid hsz
  have HTR := Lib.hid htr
  have HSR := Lib.hid hsr
  have htl := hT.lt
  clear hT hrd hps ht hsk hsz hth htr hsr
  have mixed : Tryd.prog.follows .mixedOrders = true := by kernel_rfl
  have HOKR : Hid (∀ r ∈ ps.map (·.1), r.ok) := Lib.hid fun r hr => by obtain ⟨q, hq, rfl⟩ := List.mem_map.1 hr; exact (HPS.out q hq).2.2
  go_enter Tryd.func26, Tryd.ntmps26
  go_wp2_with fail
  obtain ⟨w1, hw1⟩ : ∃ w1 : World, w1 = w.alloc (.cells #[c0, c1, c2, c3, .slice At thr.length ct, .slice As sts.length cs] 70) := ⟨_, rfl⟩
  have HB1 : Hid (Below w.heap.size w w1) := by rw [hw1]; exact Lib.hid (by go_grown)
  have HBK : Hid (Blk w1 w.heap.size 70 #[c0, c1, c2, c3, .slice At thr.length ct, .slice As sts.length cs]) := by rw [hw1]; exact Lib.hid (Blk.new w _ _)
  have hz1 : w.heap.size + 1 ≤ w1.heap.size := by rw [hw1]; simp
  rw [← hw1]
  clear hw1
  go_loopw [5, 12] (fun sv i wr => ∃ (k : Nat) (T : List UInt8), k ≤ ps.length ∧ i = .int .i64 k ∧ sv = .string ⟨T.toArray⟩ ∧ Hid (T = repsText thr sts ((ps.map (·.1)).take k)) ∧ Hid (Below w1.heap.size w1 wr)) (fun _ i _ => ps.length - (intOf i).toNat)
  case atStart => exact ⟨0, [], by omega, rfl, rfl, Lib.hid rfl, Lib.hid (Below.refl _ _)⟩
  case round =>
    obtain ⟨k, T, hk, rfl, rfl, HTT, HKk⟩ := hrel
    have HBR : Hid (Below w.heap.size w wr) := Lib.hid (HB1.out.trans (HKk.out.mono (by omega)))
    have hBr : w.heap.size + 1 ≤ wr.heap.size := Nat.le_trans hz1 HKk.out.size
    by_cases hlt : k < ps.length
    · obtain ⟨p, hp⟩ : ∃ q, ps[k]? = some q := ⟨_, List.getElem?_eq_getElem hlt⟩
      obtain ⟨b, off, rfl, hbl, hci⟩ := Reps.at_ (HRD.out.keep HBR.out) hp
      have HR : Hid ((ps.map (·.1))[k]? = some p.1) := Lib.hid (by rw [List.getElem?_map, hp]; rfl)
      obtain ⟨hi1, hi2, hrok⟩ := HPS.out p (List.mem_of_getElem? hp)
      have HI1 := Lib.hid hi1
      have HRO := Lib.hid hrok
      obtain ⟨r, sv, tv⟩ := p
      obtain ⟨k0, k1, k2, k3, k4, k5⟩ := hci
      simp only at k0 k1 k2 k3 k4 k5 HI1 HRO HR
      have hi1' := HI1.out
      obtain ⟨As1, cs1, hsv, q1, q2, -, -⟩ := hi1'
      subst hsv
      unfold maxLen at q2
      have hi2' := hi2
      obtain ⟨At1, ct1, htv, -, -, -, -⟩ := hi2'
      simp only at htv
      subst htv
      have HLT : Hid (T.length + (r.sites.length + 1) * 1048601 ≤ 1048601 * 1000000) := Lib.hid (by
        have h1 := repsText_len thr sts ((ps.map (·.1)).take k) (fun q hq => HOKR.out q (List.mem_of_mem_take hq)) HTH.out HSK.out
        have h2 := repsSize_mem HR.out
        have h3 := HSZ.out
        rw [HTT.out]; omega)
      have hLT := HLT.out
      have HHL := Lib.hid (headOf_len r HRO.out)
      have li : (k : Int) < ps.length := by omega
      have hil1 := itoa_len r.score HRO.out.2.2.2
      have hil2 := itoa_len r.count HRO.out.2.1
      have hkl := kindWord_len r.kind
      have HACT : Hid (repsText thr sts ((ps.map (·.1)).take (k + 1)) = T ++ headOf r ++ sitesText thr sts r.sites ++ [10]) := Lib.hid (by rw [HTT.out]; exact repsText_succ HR.out)
      clear hp hi1 hi2 hrok
      go_wp2_with fail
      obtain ⟨w3, hw3⟩ : ∃ w3 : World, w3 = wr.alloc (.cells #[.int .i64 r.kind, .slice As1 r.sites.length cs1, .slice At1 r.starts.length ct1, .int .i64 r.count, .int .i64 r.best, .int .i64 r.score] 61) := ⟨_, rfl⟩
      have HB3 : Hid (Below w.heap.size w w3) := by rw [hw3]; exact Lib.hid (HBR.out.alloc HBR.out.size _)
      have HKW3 : Hid (Below w1.heap.size w1 w3) := by rw [hw3]; exact Lib.hid (HKk.out.alloc HKk.out.size _)
      have HK3 : Hid (Blk w3 wr.heap.size 61 #[.int .i64 r.kind, .slice As1 r.sites.length cs1, .slice At1 r.starts.length ct1, .int .i64 r.count, .int .i64 r.best, .int .i64 r.score]) := by rw [hw3]; exact Lib.hid (Blk.new _ _ _)
      rw [← hw3]
      clear hw3 k0 k1 k2 k3 k4 k5
      have r0 := HK3.out.cell 0
      have r1 := HK3.out.cell 1
      have r3 := HK3.out.cell 3
      have r5 := HK3.out.cell 5
      simp only [List.getElem?_toArray, List.getElem?_cons_zero, List.getElem?_cons_succ] at r0 r1 r3 r5
      have hl3 := HK3.out.lt
      have c0' := fun n' os' => cell_grown (a := ⟨wr.heap.size, 0, none⟩) hl3 r0 n' os'
      have c3' := fun n' os' => cell_grown (a := ⟨wr.heap.size, 3, none⟩) hl3 r3 n' os'
      have c5' := fun n' os' => cell_grown (a := ⟨wr.heap.size, 5, none⟩) hl3 r5 n' os'
      have f1 : (9223372036854775807 < (kindWord r.kind).length + 1) = False := eq_false (by omega)
      have f2 : (9223372036854775807 < (kindWord r.kind).length + 1 + (Lib.itoa r.score).length) = False := eq_false (by omega)
      have f3 : (9223372036854775807 < (kindWord r.kind).length + 1 + (Lib.itoa r.score).length + 1) = False := eq_false (by omega)
      have f4 : (9223372036854775807 < (kindWord r.kind).length + 1 + (Lib.itoa r.score).length + 1 + (Lib.itoa r.count).length) = False := eq_false (by omega)
      have f5 : (9223372036854775807 < T.length + ((kindWord r.kind).length + 1 + (Lib.itoa r.score).length + 1 + (Lib.itoa r.count).length)) = False := eq_false (by omega)
      have hcs := itoa_grown r.score w3 HRO.out.2.2.2 (HT.out.keep HB3.out htl)
      have hcc := itoa_grown r.count w3 HRO.out.2.1 (HT.out.keep HB3.out htl)
      have hcw := rword_grown r.kind w3
      go_quiet_grown (first | (go_at_call 52; exact Calls.grown_of (hcw _ _)) | (go_at_call 48; first | exact Calls.grown_of (hcs _ _) | exact Calls.grown_of (hcc _ _)))
      have HG4 : Hid (Below w3.heap.size w3 (grow (w3.drewN nq) osq)) := Lib.hid (below_grow w3 nq osq)
      generalize grow (w3.drewN nq) osq = w4 at HG4 ⊢
      clear nq osq c0' c3' c5' f1 f2 f3 f4 f5 hcs hcc hcw r0 r1 r3 r5 hil1 hil2 hkl
      have hl4 : wr.heap.size < w4.heap.size := Nat.lt_of_lt_of_le hl3 HG4.out.size
      have HB4 : Hid (Below w.heap.size w w4) := Lib.hid (HB3.out.trans (HG4.out.mono HB3.out.size))
      have HKW4 : Hid (Below w1.heap.size w1 w4) := Lib.hid (HKW3.out.trans (HG4.out.mono HKW3.out.size))
      have HBK4 : Hid (Blk w4 w.heap.size 70 #[c0, c1, c2, c3, .slice At thr.length ct, .slice As sts.length cs]) := Lib.hid (HBK.out.keep HKW4.out)
      have q1 := (HK3.out.keep HG4.out).cell 1
      simp only [List.getElem?_toArray, List.getElem?_cons_zero, List.getElem?_cons_succ] at q1
      go_wp2_with fail
      clear q1
      go_loopw [5, 34] (fun sv i wx => ∃ (j : Nat) (U : List UInt8), j ≤ r.sites.length ∧ i = .int .i64 j ∧ sv = .string ⟨U.toArray⟩ ∧ Hid (U = T ++ headOf r ++ sitesText thr sts (r.sites.take j)) ∧ Hid (Below w4.heap.size w4 wx)) (fun _ i _ => r.sites.length - (intOf i).toNat)
      case atStart => exact ⟨0, T ++ headOf r, by omega, rfl, congrArg Value.string (str_whole r T), Lib.hid (by simp [sitesText]), Lib.hid (Below.refl _ _)⟩
      case round =>
        obtain ⟨j, U, hj, rfl, rfl, HUU, HKJ⟩ := hrel
        have HBJ : Hid (Below w.heap.size w wr) := Lib.hid (HB4.out.trans (HKJ.out.mono HB4.out.size))
        have HLJ : Hid (U.length ≤ 1048601 * 1000000 + 52 ∧ (j < r.sites.length → U.length + 1048601 ≤ 1048601 * 1000000 + 52)) := Lib.hid (by
          have h1 := sitesText_len thr sts (r.sites.take j) HTH.out HSK.out
          have h2 := List.length_take_le j r.sites
          have h3 := HHL.out
          have h4 : 1048601 * (r.sites.take j).length ≤ 1048601 * j := by omega
          rw [HUU.out]
          simp only [List.length_append]
          omega)
        have hlj := HLJ.out.1
        by_cases hjt : j < r.sites.length
        · obtain ⟨x, hx⟩ : ∃ x, r.sites[j]? = some x := ⟨_, List.getElem?_eq_getElem hjt⟩
          obtain ⟨A9, c9, hv9, -, -, hI9, hr9⟩ := HI1.out.keep HBJ.out
          injection hv9 with e1 _ e2
          subst e1 e2
          obtain ⟨b9, o9, rfl, hb9, hc9⟩ := hr9.int hx
          have HXX := Lib.hid hx
          have HBX : Hid (Blk wr w.heap.size 70 #[c0, c1, c2, c3, .slice At thr.length ct, .slice As sts.length cs]) := Lib.hid (HBK4.out.keep HKJ.out)
          have q4 := HBX.out.cell 4
          have q5 := HBX.out.cell 5
          simp only [List.getElem?_toArray, List.getElem?_cons_zero, List.getElem?_cons_succ] at q4 q5
          have ljt : (j : Int) < r.sites.length := by omega
          have hlj2 := HLJ.out.2 hjt
          clear hx hI9 hr9
          by_cases h0 : x < 0
          · have HV := Lib.hid (siteText_neg (thr := thr) (sts := sts) h0)
            have d0 : decide (x < 0) = true := by simpa using h0
            go_wp2_with fail
            go_quiet (fail)
            go_wp2_with fail
            go_roundw
            case rel => exact ⟨j + 1, U ++ [32, 63], by omega, by go_num, congrArg Value.string (str_append2 U [32, 63]), Lib.hid (by rw [sitesText_succ HXX.out, HV.out, HUU.out]; simp), Lib.hid (bdrew HKJ.out _)⟩
            case measure => simp [intOf]; omega
          · obtain ⟨n, rfl⟩ : ∃ n : Nat, x = n := ⟨x.toNat, by omega⟩
            have d0 : decide ((n : Int) < 0) = false := by simp
            clear h0
            by_cases hn : n < sts.length
            · obtain ⟨d, hd⟩ : ∃ d, sts[n]? = some d := ⟨_, List.getElem?_eq_getElem hn⟩
              obtain ⟨b1, o1, rfl, hb1, hx1, hy1, hz1⟩ := (HSR.out.keep HBJ.out).diff hd
              have HD := Lib.hid hd
              have HOK := Lib.hid (HSK.out d (List.mem_of_getElem? hd))
              obtain ⟨dx, dy, dc⟩ := d
              simp only at hx1 hy1 hz1
              clear hd
              have d1 : decide (sts.length ≤ n) = false := by simp; omega
              have ln : (n : Int) < sts.length := by omega
              by_cases h1 : dx < 0
              · have d2 : decide (dx < 0) = true := by simp; omega
                have HV := Lib.hid (siteText_tneg (thr := thr) HD.out h1)
                go_wp2_with fail
                go_quiet (fail)
                go_wp2_with fail
                go_roundw
                case rel => exact ⟨j + 1, U ++ [32, 63], by omega, by go_num, congrArg Value.string (str_append2 U [32, 63]), Lib.hid (by rw [sitesText_succ HXX.out, HV.out, HUU.out]; simp), Lib.hid (bdrew HKJ.out _)⟩
                case measure => simp [intOf]; omega
              · obtain ⟨t, ht⟩ : ∃ t : Nat, dx = t := ⟨dx.toNat, by omega⟩
                subst ht
                have d2 : decide ((t : Int) < 0) = false := by simp
                by_cases h2 : t < thr.length
                · obtain ⟨s, hs⟩ : ∃ s, thr[t]? = some s := ⟨_, List.getElem?_eq_getElem h2⟩
                  obtain ⟨b2, o2, rfl, hb2, hc2⟩ := (HTR.out.keep HBJ.out).str hs
                  have HV := Lib.hid (siteText_at HD.out rfl hs)
                  have hsl := HTH.out s (List.mem_of_getElem? hs)
                  have d3 : decide (thr.length ≤ t) = false := by simp; omega
                  have lt2 : (t : Int) < thr.length := by omega
                  have hil := itoa_len dc HOK.out.2.2
                  have hwz : w.heap.size < wr.heap.size := HBX.out.lt
                  clear hs h1
                  go_wp2_with fail
                  go_quiet (fail)
                  go_wp2_with fail
                  obtain ⟨w5, hw5⟩ : ∃ w5 : World, w5 = wr.drewN nq := ⟨_, rfl⟩
                  have HB5 : Hid (Below wr.heap.size wr w5) := by rw [hw5]; exact Lib.hid (bdrew (Below.refl _ _) _)
                  rw [← hw5]
                  clear hw5
                  have hq4 := (HB5.out.cell (p := ⟨w.heap.size, 4, none⟩) hwz).trans q4
                  have hq5 := (HB5.out.cell (p := ⟨w.heap.size, 5, none⟩) hwz).trans q5
                  have hqx := (HB5.out.cell (p := ⟨b1, o1 + n * 3, none⟩) hb1).trans hx1
                  have hqz := (HB5.out.cell (p := ⟨b1, o1 + n * 3 + 2, none⟩) hb1).trans hz1
                  have hqs := (HB5.out.cell (p := ⟨b2, o2 + t, none⟩) hb2).trans hc2
                  have z5 := HB5.out.size
                  have g4 := fun n' os' => cell_grown (a := ⟨w.heap.size, 4, none⟩) (Nat.lt_of_lt_of_le hwz z5) hq4 n' os'
                  have g5 := fun n' os' => cell_grown (a := ⟨w.heap.size, 5, none⟩) (Nat.lt_of_lt_of_le hwz z5) hq5 n' os'
                  have gx := fun n' os' => cell_grown (a := ⟨b1, o1 + n * 3, none⟩) (Nat.lt_of_lt_of_le hb1 z5) hqx n' os'
                  have gz := fun n' os' => cell_grown (a := ⟨b1, o1 + n * 3 + 2, none⟩) (Nat.lt_of_lt_of_le hb1 z5) hqz n' os'
                  have gs := fun n' os' => cell_grown (a := ⟨b2, o2 + t, none⟩) (Nat.lt_of_lt_of_le hb2 z5) hqs n' os'
                  have hci := itoa_grown dc w5 HOK.out.2.2 (HT.out.keep (HBJ.out.trans (HB5.out.mono HBJ.out.size)) htl)
                  have f1 : (9223372036854775807 < 1 + s.length) = False := eq_false (by omega)
                  have f2 : (9223372036854775807 < 1 + s.length + 1) = False := eq_false (by omega)
                  have f3 : (9223372036854775807 < 1 + s.length + 1 + (Lib.itoa dc).length) = False := eq_false (by omega)
                  have f4 : (9223372036854775807 < U.length + (1 + s.length + 1 + (Lib.itoa dc).length)) = False := eq_false (by omega)
                  clear q4 q5 hx1 hy1 hz1 hc2 hq4 hq5 hqx hqz hqs hc9 d0 d1 d2 d3
                  go_quiet_grown (first | (go_at_call 48; exact Calls.grown_of (hci _ _)))
                  have HG6 : Hid (Below w5.heap.size w5 (grow (w5.drewN nq) osq)) := Lib.hid (below_grow w5 nq osq)
                  generalize grow (w5.drewN nq) osq = w6 at HG6 ⊢
                  clear nq osq g4 g5 gx gz gs hci f1 f2 f3 f4
                  go_wp2_with fail
                  go_roundw
                  case rel => exact ⟨j + 1, U ++ (32 :: siteText thr sts (n : Int)), by omega, by go_num, congrArg Value.string (by rw [HV.out]; exact str_site U s (Lib.itoa dc)), Lib.hid (by rw [sitesText_succ HXX.out, HUU.out]; simp), Lib.hid (HKJ.out.trans ((HB5.out.trans (HG6.out.mono HB5.out.size)).mono HKJ.out.size))⟩
                  case measure => simp [intOf]; omega
                · have d3 : decide (thr.length ≤ t) = true := by simp; omega
                  have HV := Lib.hid (siteText_tfar (thr := thr) HD.out rfl (by omega))
                  go_wp2_with fail
                  go_quiet (fail)
                  go_wp2_with fail
                  go_roundw
                  case rel => exact ⟨j + 1, U ++ [32, 63], by omega, by go_num, congrArg Value.string (str_append2 U [32, 63]), Lib.hid (by rw [sitesText_succ HXX.out, HV.out, HUU.out]; simp), Lib.hid (bdrew HKJ.out _)⟩
                  case measure => simp [intOf]; omega
            · have d1 : decide (sts.length ≤ n) = true := by simp; omega
              have HV := Lib.hid (siteText_far (thr := thr) (sts := sts) (k := n) (by omega))
              go_wp2_with fail
              go_quiet (fail)
              go_wp2_with fail
              go_roundw
              case rel => exact ⟨j + 1, U ++ [32, 63], by omega, by go_num, congrArg Value.string (str_append2 U [32, 63]), Lib.hid (by rw [sitesText_succ HXX.out, HV.out, HUU.out]; simp), Lib.hid (bdrew HKJ.out _)⟩
              case measure => simp [intOf]; omega
        · have HUE : Hid (U ++ [10] = repsText thr sts ((ps.map (·.1)).take (k + 1))) := Lib.hid (by rw [HACT.out, HUU.out, List.take_of_length_le (by omega)])
          have HKN : Hid (Below w1.heap.size w1 wr) := Lib.hid (HKW4.out.trans (HKJ.out.mono HKW4.out.size))
          go_wp2_with fail
          go_roundw
          case rel => exact ⟨k + 1, U ++ [10], by omega, by go_num, congrArg Value.string (str_append2 U [10]), HUE, HKN⟩
          case measure => simp [intOf]; omega
    · go_wp2_with fail
      go_ret
      refine ⟨?_, HBR.out⟩
      rw [HTT.out, List.take_of_length_le (by rw [List.length_map]; omega)]
      rfl
end Go.Proofs.YtccpelfnkjckiaaDoor
