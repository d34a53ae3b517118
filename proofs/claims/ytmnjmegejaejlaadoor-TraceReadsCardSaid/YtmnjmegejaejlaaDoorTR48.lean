/-
  WALK: interleaveref16.Parse.
-/
import Derived.Test.YtmnjmegejaejlaaDoorTR47
import Derived.Test.YtmnjmegejaejlaaDoorTR27
namespace Go.Proofs.YtmnjmegejaejlaaDoor
open Go.RowKit

theorem cut_line {s : List UInt8} {frm i : Nat} {c : UInt8} (h1 : frm ≤ i) (hs : s[i]? = some c) : s.drop frm = (s.drop frm).take (i - frm) ++ c :: s.drop (i + 1) := by
  have hlt := (List.getElem?_eq_some_iff.1 hs).1
  have h2 := (List.take_append_drop (i - frm) (s.drop frm)).symm
  rw [List.drop_drop, show frm + (i - frm) = i by omega] at h2
  rw [List.drop_eq_getElem_cons hlt] at h2
  have h3 : s[i] = c := by rw [List.getElem?_eq_getElem hlt] at hs; injection hs
  rw [h3] at h2
  exact h2
theorem no_mem {s : List UInt8} {frm i : Nat} {c : UInt8} (h : ∀ (j : Nat), frm ≤ j → j < i → s[j]? ≠ some c) : c ∉ (s.drop frm).take (i - frm) := by
  intro hm
  obtain ⟨k, hk⟩ := List.getElem?_of_mem hm
  rw [List.getElem?_take] at hk
  split at hk
  · rename_i hlt
    rw [List.getElem?_drop] at hk
    exact h (frm + k) (by omega) (by omega) hk
  · cases hk
set_option maxRecDepth 100000 in
set_option maxHeartbeats 16000000 in
theorem rtparse_any (s : List UInt8) (w : World) (hl : s.length ≤ 800000000) (hp : PT w) :
    Calls Tryd.prog 7 #[.string ⟨s.toArray⟩] w (TrcEnd w s) := by
  have hz1 := Blk.new w 31 #[.slice none 0 0, .slice none 0 0, .slice none 0 0, .slice none 0 0, .slice none 0 0, .slice none 0 0, .slice none 0 0]
  have hz2 := hz1.alloc (.cells #[.slice none 0 0, .slice none 0 0, .slice none 0 0, .slice none 0 0, .slice none 0 0, .slice none 0 0, .slice none 0 0] 31)
  have ht := Blk.new (w.alloc (.cells #[.slice none 0 0, .slice none 0 0, .slice none 0 0, .slice none 0 0, .slice none 0 0, .slice none 0 0, .slice none 0 0] 31)) 31 #[.slice none 0 0, .slice none 0 0, .slice none 0 0, .slice none 0 0, .slice none 0 0, .slice none 0 0, .slice none 0 0]
  rw [show ∀ (a : World) (o : Obj), (a.alloc o).heap.size = a.heap.size + 1 from fun a o => by simp] at ht
  have hb2 : Below w.heap.size w ((w.alloc (.cells #[.slice none 0 0, .slice none 0 0, .slice none 0 0, .slice none 0 0, .slice none 0 0, .slice none 0 0, .slice none 0 0] 31)).alloc (.cells #[.slice none 0 0, .slice none 0 0, .slice none 0 0, .slice none 0 0, .slice none 0 0, .slice none 0 0, .slice none 0 0] 31)) := by go_grown
  have HP2 := Lib.hid (hp.below hb2)
  have HGT : Hid (GT (w.heap.size + 1)) := Lib.hid (gt_mono hp.gb (by omega))
  have HB2 := Lib.hid hb2
  have HZ2 := Lib.hid hz2
  have HT2 := Lib.hid ht
  clear hz1 hz2 ht hb2 hp
  go_enter Tryd.func7, Tryd.ntmps7
  go_wp2_with fail
  generalize (w.alloc (.cells #[.slice none 0 0, .slice none 0 0, .slice none 0 0, .slice none 0 0, .slice none 0 0, .slice none 0 0, .slice none 0 0] 31)).alloc (.cells #[.slice none 0 0, .slice none 0 0, .slice none 0 0, .slice none 0 0, .slice none 0 0, .slice none 0 0, .slice none 0 0] 31) = W2 at *
  have HTS := Lib.hid (TrS.start HT2.out HT2.out.lt)
  have HWB : Hid (w.heap.size + 1 < W2.heap.size) := Lib.hid HT2.out.lt
  generalize W2.heap.size = base at *
  go_loopw [6, 7, 8, 9] (fun gv nv fv iv wr => ∃ (frm i g k : Nat) (v : Nat → Value) (t : Trc) (ds : List (Value × Value)), gv = .int .i64 (g : Int) ∧ nv = .int .i64 ((k : Int) + 1) ∧ fv = .int .i64 (frm : Int) ∧ iv = .int .i64 (i : Int) ∧ g ≤ 7 ∧ frm ≤ i ∧ i ≤ s.length ∧ k ≤ frm ∧ Hid (TrS wr base (w.heap.size + 1) v t ds) ∧ Hid (PT wr) ∧ Hid (Below w.heap.size w wr) ∧ Hid (∀ e, RunT t g (k + 1) (s.drop frm) e → RunT trc0 0 1 s e) ∧ Hid (∀ i, rowN t i ≤ k) ∧ Hid (Blk wr w.heap.size 31 #[.slice none 0 0, .slice none 0 0, .slice none 0 0, .slice none 0 0, .slice none 0 0, .slice none 0 0, .slice none 0 0]) ∧ Hid (∀ (j : Nat), frm ≤ j → j < i → s[j]? ≠ some 10)) (fun _ _ _ iv _ => s.length - (intOf iv).toNat)
  case atStart => exact ⟨0, 0, 0, 0, nilV, trc0, [], rfl, rfl, rfl, rfl, by omega, by omega, by omega, by omega, HTS, HP2, HB2, Lib.hid (fun e h => h), Lib.hid (fun i => by unfold rowN; split <;> simp [trc0]), HZ2, Lib.hid (fun j h1 h2 => by omega)⟩
  case round =>
    clear HTS HP2 HB2 HZ2 HT2
    obtain ⟨frm, i, g, k, v, t, ds, rfl, rfl, rfl, rfl, hg7, hfi, hil, hkf, HT, HPW, HB, HGO, HRN, HZ, HNL⟩ := hrel
    by_cases hlt : i < s.length
    · obtain ⟨d, hd⟩ : ∃ d, s[i]? = some d := ⟨_, List.getElem?_eq_getElem hlt⟩
      have hix := byte_at hd
      have HD := Lib.hid hd
      clear hd
      by_cases hsp : d = 10
      · have q0 : ((d.toNat : Int) == 10) = true := by rw [hsp]; rfl
        have HCUT := Lib.hid (cut_line hfi (by rw [HD.out, hsp]))
        have HNA := Lib.hid (no_mem HNL.out)
        have hsl := str_cut s frm i hfi hil
        have HPL : Hid (((s.drop frm).take (i - frm)).length ≤ 1000000000) := Lib.hid (by simp; omega)
        have HPX2 : Hid (((s.drop frm).take (i - frm)).length + 1 ≤ 900000000) := Lib.hid (by simp; omega)
        clear hsp
        generalize (s.drop frm).take (i - frm) = pc at *
        go_wp2_with fail
        clear hsl hix q0
        refine (rwords_any pc wr HPL.out).mono ?_
        rintro e w4 ⟨A4, c4, rfl, htx, hge, hb4⟩
        have hpe := pieces_ne 32 pc
        obtain ⟨h, ps, hps⟩ : ∃ h ps, pieces 32 pc = h :: ps := by
          cases e : pieces 32 pc with
          | nil => exact absurd e hpe
          | cons h ps => exact ⟨h, ps, rfl⟩
        have HLI := Lib.hid (lineI_of hps)
        have hpl := pieces_len 32 pc
        have HPX : Hid (pc.length ≤ 1000000000) := HPL
        have HPS : Hid (∀ p ∈ h :: ps, p.length ≤ 1000000000) := Lib.hid (fun p hp => by have := (pieces_mem (show p ∈ pieces 32 pc by rw [hps]; exact hp)).2; have := HPX.out; omega)
        rw [hps] at htx hpl ⊢
        have HPN : Hid (ps.length ≤ 900000000) := Lib.hid (by simp at hpl; have := HPX2.out; omega)
        obtain ⟨A', c', ex, kx1, kx2, hrd⟩ := htx
        injection ex with ex1 ex2 ex3
        subst ex1 ex3
        obtain ⟨ab, off, rfl, hab4, hc0⟩ := hrd (by simp)
        have hc0 : ∀ j s, (h :: ps)[j]? = some s → w4.cell? ⟨ab, off + j, none⟩ = some (.string ⟨s.toArray⟩) := fun j s hj => hc0 j _ (by rw [List.getElem?_map, hj]; rfl)
        have HT4 := Lib.hid (HT.out.keep hb4)
        have HP4 := Lib.hid (HPW.out.below hb4)
        have HB4 := Lib.hid (HB.out.trans (hb4.mono HB.out.size))
        have HZ4 := Lib.hid (HZ.out.keep hb4)
        have HRN2 : Hid (∀ i, rowN t i ≤ 1000000000) := Lib.hid (fun i => by have := HRN.out i; omega)
        have HCALL := Lib.hid (radd_any h wr.heap.size base (w.heap.size + 1) ab off (h :: ps).length c4 ps v t ds w4 HT4.out HP4.out HGT.out HT.out.le (fun i hi g e => HT.out.own hi g e) (hge ab off rfl) hab4 (by simp) kx1 kx2 hc0 HPS.out HRN2.out HPN.out)
        clear hb4 hc0 hab4 hrd ex2 kx1 kx2 hpl hps hpe hge
        generalize (h :: ps).length = n4 at *
        go_wp2_with fail
        refine HCALL.out.mono ?_
        rintro e w5 ⟨g2, rfl, hb5, hy, hn⟩
        have HY := Lib.hid hy
        have HNO := Lib.hid hn
        have HB5 : Hid (Below w.heap.size w w5) := Lib.hid (HB4.out.trans (hb5.mono (by omega)))
        have HZ5 := Lib.hid (HZ4.out.below hb5 (by omega))
        have HP5 : Hid (PT w5) := Lib.hid (HP4.out.keep hb5 HGT.out)
        clear hb5 hy hn
        cases hit : itemI h ps with
        | none =>
          have q2 : ((g2 : Int) == 0) = true := by rw [beq_iff_eq]; have := HNO.out hit; omega
          have HBAD : Hid (RunT trc0 0 1 s (.bad (k + 1))) := Lib.hid (HGO.out _ (.wrong HCUT.out HNA.out (fun i hi => by rw [HLI.out, hit] at hi; cases hi)))
          clear hit
          have y0 := HZ5.out.frozen 0
          have y1 := HZ5.out.frozen 1
          have y2 := HZ5.out.frozen 2
          have y3 := HZ5.out.frozen 3
          have y4 := HZ5.out.frozen 4
          have y5 := HZ5.out.frozen 5
          have y6 := HZ5.out.frozen 6
          have e0 := HZ5.out.cell 0
          have e1 := HZ5.out.cell 1
          have e2 := HZ5.out.cell 2
          have e3 := HZ5.out.cell 3
          have e4 := HZ5.out.cell 4
          have e5 := HZ5.out.cell 5
          have e6 := HZ5.out.cell 6
          simp only [List.getElem?_toArray, List.getElem?_cons_zero, List.getElem?_cons_succ] at e0 e1 e2 e3 e4 e5 e6
          have U := blk_set7 HZ5.out (.slice none 0 0) (.slice none 0 0) (.slice none 0 0) (.slice none 0 0) (.slice none 0 0) (.slice none 0 0) (.slice none 0 0)
          have hs := grown_set7 w5 w.heap.size (.slice none 0 0) (.slice none 0 0) (.slice none 0 0) (.slice none 0 0) (.slice none 0 0) (.slice none 0 0) (.slice none 0 0)
          have HSX : Below w.heap.size w (set7 w5 w.heap.size (.slice none 0 0) (.slice none 0 0) (.slice none 0 0) (.slice none 0 0) (.slice none 0 0) (.slice none 0 0) (.slice none 0 0)) := HB5.out.trans (grownBy_below hs (HB5.out.size) (fun g e => by injection e with e; omega))
          unfold set7 at U HSX
          have HU := Lib.hid U
          have HS := Lib.hid HSX
          clear U HSX hs
          go_wp2_with fail
          clear e0 e1 e2 e3 e4 e5 e6 y0 y1 y2 y3 y4 y5 y6
          generalize ((((((w5.setCell ⟨w.heap.size, 0, none⟩ (.slice none 0 0)).setCell ⟨w.heap.size, 1, none⟩ (.slice none 0 0)).setCell ⟨w.heap.size, 2, none⟩ (.slice none 0 0)).setCell ⟨w.heap.size, 3, none⟩ (.slice none 0 0)).setCell ⟨w.heap.size, 4, none⟩ (.slice none 0 0)).setCell ⟨w.heap.size, 5, none⟩ (.slice none 0 0)).setCell ⟨w.heap.size, 6, none⟩ (.slice none 0 0) = W9 at *
          have u0 := HU.out.cell 0
          have u1 := HU.out.cell 1
          have u2 := HU.out.cell 2
          have u3 := HU.out.cell 3
          have u4 := HU.out.cell 4
          have u5 := HU.out.cell 5
          have u6 := HU.out.cell 6
          simp only [List.getElem?_toArray, List.getElem?_cons_zero, List.getElem?_cons_succ] at u0 u1 u2 u3 u4 u5 u6
          exact bodyPost_ret (v := .tuple #[.agg #[.slice none 0 0, .slice none 0 0, .slice none 0 0, .slice none 0 0, .slice none 0 0, .slice none 0 0, .slice none 0 0], .int .i64 11, .int .i64 ((k : Int) + 1)]) (by simp [results, Tryd.results7, go_sem, u0, u1, u2, u3, u4, u5, u6]) rfl ⟨HS.out, .inr ⟨k + 1, HBAD.out, rfl⟩⟩
        | some it =>
          obtain ⟨rfl, v', ds', hT'⟩ := HY.out it hit
          have HIT : Hid (lineI pc = some it) := Lib.hid (by rw [HLI.out, hit])
          have HGL := Lib.hid it.group_le
          have HT5 := Lib.hid hT'
          have q2 : ((it.group : Int) == 0) = false := by rw [beq_eq_false_iff_ne]; have := HGL.out; omega
          clear hit hT'
          by_cases hlt : it.group < g
          · have HBAD : Hid (RunT trc0 0 1 s (.bad (k + 1))) := Lib.hid (HGO.out _ (.wrong HCUT.out HNA.out (fun i hi => by rw [HIT.out] at hi; injection hi with hi; subst hi; exact hlt)))
            have d1 : (it.group : Int) < (g : Int) := by omega
            have d2 : decide ((it.group : Int) < (g : Int)) = true := by simpa using hlt
            have d3 : decide (it.group < g) = true := by simpa using hlt
            clear hlt
            have y0 := HZ5.out.frozen 0
            have y1 := HZ5.out.frozen 1
            have y2 := HZ5.out.frozen 2
            have y3 := HZ5.out.frozen 3
            have y4 := HZ5.out.frozen 4
            have y5 := HZ5.out.frozen 5
            have y6 := HZ5.out.frozen 6
            have e0 := HZ5.out.cell 0
            have e1 := HZ5.out.cell 1
            have e2 := HZ5.out.cell 2
            have e3 := HZ5.out.cell 3
            have e4 := HZ5.out.cell 4
            have e5 := HZ5.out.cell 5
            have e6 := HZ5.out.cell 6
            simp only [List.getElem?_toArray, List.getElem?_cons_zero, List.getElem?_cons_succ] at e0 e1 e2 e3 e4 e5 e6
            have U := blk_set7 HZ5.out (.slice none 0 0) (.slice none 0 0) (.slice none 0 0) (.slice none 0 0) (.slice none 0 0) (.slice none 0 0) (.slice none 0 0)
            have hs := grown_set7 w5 w.heap.size (.slice none 0 0) (.slice none 0 0) (.slice none 0 0) (.slice none 0 0) (.slice none 0 0) (.slice none 0 0) (.slice none 0 0)
            have HSX : Below w.heap.size w (set7 w5 w.heap.size (.slice none 0 0) (.slice none 0 0) (.slice none 0 0) (.slice none 0 0) (.slice none 0 0) (.slice none 0 0) (.slice none 0 0)) := HB5.out.trans (grownBy_below hs (HB5.out.size) (fun g e => by injection e with e; omega))
            unfold set7 at U HSX
            have HU := Lib.hid U
            have HS := Lib.hid HSX
            clear U HSX hs
            go_wp2_with fail
            clear e0 e1 e2 e3 e4 e5 e6 y0 y1 y2 y3 y4 y5 y6
            generalize ((((((w5.setCell ⟨w.heap.size, 0, none⟩ (.slice none 0 0)).setCell ⟨w.heap.size, 1, none⟩ (.slice none 0 0)).setCell ⟨w.heap.size, 2, none⟩ (.slice none 0 0)).setCell ⟨w.heap.size, 3, none⟩ (.slice none 0 0)).setCell ⟨w.heap.size, 4, none⟩ (.slice none 0 0)).setCell ⟨w.heap.size, 5, none⟩ (.slice none 0 0)).setCell ⟨w.heap.size, 6, none⟩ (.slice none 0 0) = W9 at *
            have u0 := HU.out.cell 0
            have u1 := HU.out.cell 1
            have u2 := HU.out.cell 2
            have u3 := HU.out.cell 3
            have u4 := HU.out.cell 4
            have u5 := HU.out.cell 5
            have u6 := HU.out.cell 6
            simp only [List.getElem?_toArray, List.getElem?_cons_zero, List.getElem?_cons_succ] at u0 u1 u2 u3 u4 u5 u6
            exact bodyPost_ret (v := .tuple #[.agg #[.slice none 0 0, .slice none 0 0, .slice none 0 0, .slice none 0 0, .slice none 0 0, .slice none 0 0, .slice none 0 0], .int .i64 11, .int .i64 ((k : Int) + 1)]) (by simp [results, Tryd.results7, go_sem, u0, u1, u2, u3, u4, u5, u6]) rfl ⟨HS.out, .inr ⟨k + 1, HBAD.out, rfl⟩⟩
          · have HGO2 : Hid (∀ e, RunT (t.add it) it.group (k + 1 + 1) (s.drop (i + 1)) e → RunT trc0 0 1 s e) := Lib.hid (fun e he => HGO.out e (.next HCUT.out HNA.out HIT.out hlt he))
            have d1 : ¬ (it.group : Int) < (g : Int) := by omega
            have d2 : decide ((it.group : Int) < (g : Int)) = false := by simpa using hlt
            have d3 : decide (it.group < g) = false := by simpa using hlt
            have hgl := HGL.out.2
            have HRN3 : Hid (∀ i, rowN (t.add it) i ≤ k + 1) := Lib.hid (fun i => by have := rowN_add t it i; have := HRN.out i; omega)
            clear hlt
            go_wp2_with fail
            go_roundw
            case rel => exact ⟨i + 1, i + 1, it.group, k + 1, v', t.add it, ds', rfl, by go_num, by go_num, by go_num, hgl, by omega, by omega, by omega, HT5, HP5, HB5, HGO2, HRN3, HZ5, Lib.hid (fun j h1 h2 => by omega)⟩
            case measure => simp [intOf]; omega
      · have q0 : ((d.toNat : Int) == 10) = false := by
          rw [beq_eq_false_iff_ne]; intro e; exact hsp (UInt8.toNat_inj.1 (by show d.toNat = 10; omega))
        have HN2 : Hid (∀ (j : Nat), frm ≤ j → j < i + 1 → s[j]? ≠ some 10) := Lib.hid (fun j h1 h2 => by
          rcases Nat.lt_or_ge j i with h3 | h3
          · exact HNL.out j h1 h3
          · obtain rfl : j = i := by omega
            rw [HD.out]; intro e; injection e with e; exact hsp e)
        clear hsp
        go_wp2_with fail
        go_roundw
        case rel => exact ⟨frm, i + 1, g, k, v, t, ds, rfl, rfl, rfl, by go_num, hg7, by omega, by omega, hkf, HT, HPW, HB, HGO, HRN, HZ, HN2⟩
        case measure => simp [intOf]; omega
    · obtain rfl : i = s.length := by omega
      by_cases hfl : frm < s.length
      · have HBAD : Hid (RunT trc0 0 1 s (.bad (k + 1))) := Lib.hid (HGO.out _ (.cut (by intro e; have := congrArg List.length e; simp at this; omega) (by have := no_mem HNL.out; rwa [List.take_of_length_le (by simp)] at this)))
        have d1 : (frm : Int) < (s.length : Int) := by omega
        have y0 := HZ.out.frozen 0
        have y1 := HZ.out.frozen 1
        have y2 := HZ.out.frozen 2
        have y3 := HZ.out.frozen 3
        have y4 := HZ.out.frozen 4
        have y5 := HZ.out.frozen 5
        have y6 := HZ.out.frozen 6
        have e0 := HZ.out.cell 0
        have e1 := HZ.out.cell 1
        have e2 := HZ.out.cell 2
        have e3 := HZ.out.cell 3
        have e4 := HZ.out.cell 4
        have e5 := HZ.out.cell 5
        have e6 := HZ.out.cell 6
        simp only [List.getElem?_toArray, List.getElem?_cons_zero, List.getElem?_cons_succ] at e0 e1 e2 e3 e4 e5 e6
        have U := blk_set7 HZ.out (.slice none 0 0) (.slice none 0 0) (.slice none 0 0) (.slice none 0 0) (.slice none 0 0) (.slice none 0 0) (.slice none 0 0)
        have hs := grown_set7 wr w.heap.size (.slice none 0 0) (.slice none 0 0) (.slice none 0 0) (.slice none 0 0) (.slice none 0 0) (.slice none 0 0) (.slice none 0 0)
        have HSX : Below w.heap.size w (set7 wr w.heap.size (.slice none 0 0) (.slice none 0 0) (.slice none 0 0) (.slice none 0 0) (.slice none 0 0) (.slice none 0 0) (.slice none 0 0)) := HB.out.trans (grownBy_below hs (HB.out.size) (fun g e => by injection e with e; omega))
        unfold set7 at U HSX
        have HU := Lib.hid U
        have HS := Lib.hid HSX
        clear U HSX hs
        go_wp2_with fail
        clear e0 e1 e2 e3 e4 e5 e6 y0 y1 y2 y3 y4 y5 y6
        generalize ((((((wr.setCell ⟨w.heap.size, 0, none⟩ (.slice none 0 0)).setCell ⟨w.heap.size, 1, none⟩ (.slice none 0 0)).setCell ⟨w.heap.size, 2, none⟩ (.slice none 0 0)).setCell ⟨w.heap.size, 3, none⟩ (.slice none 0 0)).setCell ⟨w.heap.size, 4, none⟩ (.slice none 0 0)).setCell ⟨w.heap.size, 5, none⟩ (.slice none 0 0)).setCell ⟨w.heap.size, 6, none⟩ (.slice none 0 0) = W9 at *
        have u0 := HU.out.cell 0
        have u1 := HU.out.cell 1
        have u2 := HU.out.cell 2
        have u3 := HU.out.cell 3
        have u4 := HU.out.cell 4
        have u5 := HU.out.cell 5
        have u6 := HU.out.cell 6
        simp only [List.getElem?_toArray, List.getElem?_cons_zero, List.getElem?_cons_succ] at u0 u1 u2 u3 u4 u5 u6
        exact bodyPost_ret (v := .tuple #[.agg #[.slice none 0 0, .slice none 0 0, .slice none 0 0, .slice none 0 0, .slice none 0 0, .slice none 0 0, .slice none 0 0], .int .i64 11, .int .i64 ((k : Int) + 1)]) (by simp [results, Tryd.results7, go_sem, u0, u1, u2, u3, u4, u5, u6]) rfl ⟨HS.out, .inr ⟨k + 1, HBAD.out, rfl⟩⟩
      · obtain rfl : frm = s.length := by omega
        have HPO : Hid (RunT trc0 0 1 s (.ok t)) := Lib.hid (HGO.out _ (by rw [List.drop_length]; exact .done _ _ _))
        obtain ⟨A0, c0, f0, -⟩ := owns_rd (HT.out.row 0 (by omega))
        obtain ⟨A1, c1, f1, -⟩ := owns_rd (HT.out.row 1 (by omega))
        obtain ⟨A2, c2, f2, -⟩ := owns_rd (HT.out.row 2 (by omega))
        obtain ⟨A3, c3, f3, -⟩ := owns_rd (HT.out.row 3 (by omega))
        obtain ⟨A4, c4, f4, -⟩ := owns_rd (HT.out.row 4 (by omega))
        obtain ⟨A5, c5, f5, -⟩ := owns_rd (HT.out.row 5 (by omega))
        obtain ⟨A6, c6, f6, -⟩ := owns_rd (HT.out.row 6 (by omega))
        have HAG : Hid ((Value.agg #[v 0, v 1, v 2, v 3, v 4, v 5, v 6]) = .agg #[.slice A0 (rowN t 0) c0, .slice A1 (rowN t 1) c1, .slice A2 (rowN t 2) c2, .slice A3 (rowN t 3) c3, .slice A4 (rowN t 4) c4, .slice A5 (rowN t 5) c5, .slice A6 (rowN t 6) c6]) := Lib.hid (by rw [f0, f1, f2, f3, f4, f5, f6])
        have t0 := HT.out.blk.cell 0
        have t1 := HT.out.blk.cell 1
        have t2 := HT.out.blk.cell 2
        have t3 := HT.out.blk.cell 3
        have t4 := HT.out.blk.cell 4
        have t5 := HT.out.blk.cell 5
        have t6 := HT.out.blk.cell 6
        simp only [List.getElem?_toArray, List.getElem?_cons_zero, List.getElem?_cons_succ] at t0 t1 t2 t3 t4 t5 t6
        rw [f0] at t0
        rw [f1] at t1
        rw [f2] at t2
        rw [f3] at t3
        rw [f4] at t4
        rw [f5] at t5
        rw [f6] at t6
        clear f0 f1 f2 f3 f4 f5 f6
        have y0 := HZ.out.frozen 0
        have y1 := HZ.out.frozen 1
        have y2 := HZ.out.frozen 2
        have y3 := HZ.out.frozen 3
        have y4 := HZ.out.frozen 4
        have y5 := HZ.out.frozen 5
        have y6 := HZ.out.frozen 6
        have e0 := HZ.out.cell 0
        have e1 := HZ.out.cell 1
        have e2 := HZ.out.cell 2
        have e3 := HZ.out.cell 3
        have e4 := HZ.out.cell 4
        have e5 := HZ.out.cell 5
        have e6 := HZ.out.cell 6
        simp only [List.getElem?_toArray, List.getElem?_cons_zero, List.getElem?_cons_succ] at e0 e1 e2 e3 e4 e5 e6
        have U := blk_set7 HZ.out (.slice A0 (rowN t 0) c0) (.slice A1 (rowN t 1) c1) (.slice A2 (rowN t 2) c2) (.slice A3 (rowN t 3) c3) (.slice A4 (rowN t 4) c4) (.slice A5 (rowN t 5) c5) (.slice A6 (rowN t 6) c6)
        have hs := grown_set7 wr w.heap.size (.slice A0 (rowN t 0) c0) (.slice A1 (rowN t 1) c1) (.slice A2 (rowN t 2) c2) (.slice A3 (rowN t 3) c3) (.slice A4 (rowN t 4) c4) (.slice A5 (rowN t 5) c5) (.slice A6 (rowN t 6) c6)
        have HSX : IsTrc (set7 wr w.heap.size (.slice A0 (rowN t 0) c0) (.slice A1 (rowN t 1) c1) (.slice A2 (rowN t 2) c2) (.slice A3 (rowN t 3) c3) (.slice A4 (rowN t 4) c4) (.slice A5 (rowN t 5) c5) (.slice A6 (rowN t 6) c6)) (.agg #[.slice A0 (rowN t 0) c0, .slice A1 (rowN t 1) c1, .slice A2 (rowN t 2) c2, .slice A3 (rowN t 3) c3, .slice A4 (rowN t 4) c4, .slice A5 (rowN t 5) c5, .slice A6 (rowN t 6) c6]) t ∧ Below w.heap.size w (set7 wr w.heap.size (.slice A0 (rowN t 0) c0) (.slice A1 (rowN t 1) c1) (.slice A2 (rowN t 2) c2) (.slice A3 (rowN t 3) c3) (.slice A4 (rowN t 4) c4) (.slice A5 (rowN t 5) c5) (.slice A6 (rowN t 6) c6)) := ⟨by rw [← HAG.out]; exact (HT.out.far hs (by omega)).is, HB.out.trans (grownBy_below hs (HB.out.size) (fun g e => by injection e with e; omega))⟩
        unfold set7 at U HSX
        have HU := Lib.hid U
        have HS := Lib.hid HSX
        clear U HSX hs
        go_wp2_with fail
        clear t0 t1 t2 t3 t4 t5 t6 e0 e1 e2 e3 e4 e5 e6 y0 y1 y2 y3 y4 y5 y6
        generalize ((((((wr.setCell ⟨w.heap.size, 0, none⟩ (.slice A0 (rowN t 0) c0)).setCell ⟨w.heap.size, 1, none⟩ (.slice A1 (rowN t 1) c1)).setCell ⟨w.heap.size, 2, none⟩ (.slice A2 (rowN t 2) c2)).setCell ⟨w.heap.size, 3, none⟩ (.slice A3 (rowN t 3) c3)).setCell ⟨w.heap.size, 4, none⟩ (.slice A4 (rowN t 4) c4)).setCell ⟨w.heap.size, 5, none⟩ (.slice A5 (rowN t 5) c5)).setCell ⟨w.heap.size, 6, none⟩ (.slice A6 (rowN t 6) c6) = W9 at *
        have u0 := HU.out.cell 0
        have u1 := HU.out.cell 1
        have u2 := HU.out.cell 2
        have u3 := HU.out.cell 3
        have u4 := HU.out.cell 4
        have u5 := HU.out.cell 5
        have u6 := HU.out.cell 6
        simp only [List.getElem?_toArray, List.getElem?_cons_zero, List.getElem?_cons_succ] at u0 u1 u2 u3 u4 u5 u6
        exact bodyPost_ret (v := .tuple #[.agg #[.slice A0 (rowN t 0) c0, .slice A1 (rowN t 1) c1, .slice A2 (rowN t 2) c2, .slice A3 (rowN t 3) c3, .slice A4 (rowN t 4) c4, .slice A5 (rowN t 5) c5, .slice A6 (rowN t 6) c6], .int .i64 0, .int .i64 0]) (by simp [results, Tryd.results7, go_sem, u0, u1, u2, u3, u4, u5, u6]) rfl ⟨HS.out.2, .inl ⟨t, _, HPO.out, rfl, HS.out.1⟩⟩
end Go.Proofs.YtmnjmegejaejlaaDoor
