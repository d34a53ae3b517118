/-
  WALK: proof.parseLine.
-/
import Derived.Test.YtfffalfnjficaaaDoorPStep
import Derived.Deep.RegionHeld3
import Derived.Deep.Cut
namespace Go.Proofs.YtfffalfnjficaaaDoor
open Go.RowKit

set_option maxRecDepth 100000 in
set_option maxHeartbeats 16000000 in
theorem parseLine_any (line : List UInt8) (w : World) (hl : line.length ≤ 900000) (hp : PL w) :
    Calls Tryd.prog 36 #[.string ⟨line.toArray⟩] w (StepRet w (stepP line)) := by
  obtain ⟨iI, hiI, hzI0, hzI1, hzI2⟩ := info_parts info_int
  obtain ⟨h, ps, hps⟩ : ∃ h ps, pieces 32 line = h :: ps := by
    cases hc : pieces 32 line with
    | nil => exact absurd hc (pieces_ne _ _)
    | cons x y => exact ⟨x, y, rfl⟩
  have hpl := pieces_len 32 line
  have HPP : Hid (∀ p ∈ ps, p.length ≤ 1000000) := Lib.hid fun p hp => by
    have := (pieces_mem (c := 32) (s := line) (p := p) (by rw [hps]; simp [hp])).2
    omega
  obtain ⟨n, hn⟩ : ∃ n, (pieces 32 line).length = n := ⟨_, rfl⟩
  have hn2 : n = ps.length + 1 := by rw [← hn, hps]; rfl
  have HSP := Lib.hid (stepP_of hps)
  have HPS := Lib.hid hps
  have HN := Lib.hid hn
  have HN2 := Lib.hid hn2
  rw [hn] at hpl
  have hpsl : ps.length ≤ 1000000 := by omega
  have hwr : IntKind.i64.wrap ((n : Int) - 1) = (ps.length : Int) := by rw [show ((n : Int) - 1) = (ps.length : Int) by omega]; exact IntWalk.i64_in _ (by omega)
  clear hps hn hn2
  have hrb := Blk.new w 81 #[.int .i64 0, .int .i64 0, .slice none 0 0, .int .i64 0, .int .i64 0, .int .i64 0]
  have hb0 : Below w.heap.size w (w.alloc (.cells #[.int .i64 0, .int .i64 0, .slice none 0 0, .int .i64 0, .int .i64 0, .int .i64 0] 81)) := by go_grown
  have HP0 := Lib.hid (hp.below hb0)
  clear hp
  go_enter Tryd.func36, Tryd.ntmps36
  go_wp2_with fail
  generalize w.alloc (.cells #[.int .i64 0, .int .i64 0, .slice none 0 0, .int .i64 0, .int .i64 0, .int .i64 0] 81) = w0 at *
  refine (split_any 32 line w0 (by omega) HP0.out.ml).mono ?_
  rintro e w1 ⟨A, k, rfl, htx, hb1⟩
  rw [HN.out] at htx ⊢
  have htx2 : Txts w1 (.slice A n k) (h :: ps) := by rw [← HPS.out]; exact htx
  obtain ⟨A', c', ex, kx1, kx2, hrd⟩ := htx2
  injection ex with ex1 ex2 ex3
  subst ex1 ex3
  rw [← ex2] at kx1
  have hn0 : 0 < n := by have := HN2.out; omega
  obtain ⟨b, off, rfl, hb, hc0⟩ := hrd.at_ (k := 0) (u := .string ⟨h.toArray⟩) rfl
  rw [Nat.add_zero] at hc0
  have HRD := Lib.hid hrd
  unfold maxLen at kx2
  obtain ⟨dp, hdp, hda⟩ := cut_fromT (some ⟨b, off, none⟩) n k 1 (by have := HN2.out; omega) kx1
  have ct : ∀ w, (Instr.slice 58 (.slice (some ⟨b, off, none⟩) n k) (some (.int .i64 1)) none none).run Tryd.prog w = .ok (.slice dp ps.length (k - 1)) w := fun w => by
    have e := hdp w
    rw [show n - 1 = ps.length by have := HN2.out; omega] at e
    exact e
  have HDA : Hid (0 < ps.length → dp = some ⟨b, off + 1, none⟩) := Lib.hid (fun h => by rw [hda (by have := HN2.out; omega)]; rfl)
  obtain ⟨w2, hmk, hown, hb2⟩ := mk_ints0 ps.length hpsl w1
  have HOW := Lib.hid hown
  have HB2 := Lib.hid hb2
  have HB0 := Lib.hid hb0
  have HRB := Lib.hid (hrb.keep hb1)
  have HB1 := Lib.hid (hb0.trans (hb1.mono hb0.size))
  have HW1S : Hid (w.heap.size < w1.heap.size) := Lib.hid (Nat.lt_of_lt_of_le hrb.lt hb1.size)
  have HP1 := Lib.hid (HP0.out.below hb1)
  clear htx hb1 hrd ex2 hdp hda hown hb2 hb0 hrb hc0 HP0
  go_wp2_with fail
  clear ct hmk hwr
  go_loopw [5, 19] (fun o i wr => ∃ (j : Nat) (vs : List Int), j ≤ ps.length ∧ i = .int .i64 j ∧ Hid ((ps.take j).mapM canonI = some vs) ∧ Own wr w1.heap.size o vs ∧ Hid (Below w1.heap.size w1 wr)) (fun _ i _ => ps.length - (intOf i).toNat)
  case atStart => exact ⟨0, [], by omega, rfl, Lib.hid rfl, HOW.out, HB2⟩
  case round =>
    obtain ⟨j, vs, hj, rfl, HVS, how, HBW1⟩ := hrel
    have HBW : Hid (Below w.heap.size w wr) := Lib.hid (HB1.out.trans (HBW1.out.mono HB1.out.size))
    have HRBW : Hid (Blk wr w.heap.size 81 #[.int .i64 0, .int .i64 0, .slice none 0 0, .int .i64 0, .int .i64 0, .int .i64 0]) := Lib.hid (HRB.out.keep HBW1.out)
    have HO := Lib.hid how
    obtain ⟨Ao, co, ho, -, -, -⟩ := owns_rd how.1
    subst ho
    have hsz := HBW1.out.size
    have HVL : Hid (vs.length = j) := Lib.hid (by have := mapM_len HVS.out; rw [this, List.length_take]; omega)
    have HPW := Lib.hid (HP1.out.below HBW1.out)
    clear how
    by_cases hlt : j < ps.length
    · obtain ⟨p, hp⟩ : ∃ p, ps[j]? = some p := ⟨_, List.getElem?_eq_getElem hlt⟩
      have hpl2 := HPP.out p (List.mem_of_getElem? hp)
      obtain rfl := HDA.out (by omega)
      obtain ⟨b', off', eb, hbl, hcp⟩ := (HRD.out.keep HBW1.out).at_ (k := j + 1) (u := .string ⟨p.toArray⟩) (by rw [List.getElem?_map, List.getElem?_cons_succ, hp]; rfl)
      injection eb with eb
      injection eb with eb1 eb2 _
      subst eb1 eb2
      rw [show off + (j + 1) = off + 1 + j by omega] at hcp
      have HP := Lib.hid hp
      clear hp
      have BADP : ∀ (w4 : World), Below wr.heap.size wr w4 → canonI p = none → Hid (stepP line = none ∧ Below w.heap.size w w4 ∧ Blk w4 w.heap.size 81 #[.int .i64 0, .int .i64 0, .slice none 0 0, .int .i64 0, .int .i64 0, .int .i64 0]) := fun w4 hb hc => Lib.hid ⟨by rw [HSP.out, mapM_bad (List.mem_of_getElem? HP.out) hc]; rfl, HBW.out.trans (hb.mono HBW.out.size), HRBW.out.keep hb⟩
      have HBP := Lib.hid BADP
      clear BADP
      cases hcv : canonI p with
      | some v =>
        obtain ⟨ha, hi, hv1, hv2⟩ := canonI_some hcv
        have HA := Lib.hid ha
        have HI := Lib.hid hi
        have HVS2 := Lib.hid (mapM_take HVS.out HP.out hcv)
        have HV : Hid (I64 v) := Lib.hid ⟨hv1, hv2⟩
        clear ha hi hcv
        go_wp2_with fail
        refine (atoi_ok p v wr HA.out hpl2).mono ?_
        rintro e w3 ⟨rfl, hb3⟩
        have HB3 := Lib.hid hb3
        clear hb3
        go_wp2_with fail
        refine (itoa_any v w3 HV.out (HPW.out.below HB3.out).tab).mono ?_
        rintro e w4 ⟨rfl, hb4⟩
        rw [HI.out]
        have HB4 := Lib.hid (HB3.out.trans (hb4.mono HB3.out.size))
        have HO4 : Hid (Own w4 w1.heap.size (.slice Ao vs.length co) vs) := Lib.hid ⟨owns_keep HO.out.1 HB4.out, HO.out.2⟩
        have HBX4 : Hid (Below w1.heap.size w1 w4) := Lib.hid (HBW1.out.trans (HB4.out.mono HBW1.out.size))
        have hsz4 := HBX4.out.size
        clear hb4 hcp
        go_wp2_with (at_builtin; refine wpList_append_own_at _ rfl _ _ 49 rfl w1.heap.size 3 iI (.int .i64 0) 1 8 Tryd.underlying49 hiI hzI0 hzI1 hzI2 rfl (by decide) _ _ _ rfl (HO4.out.1.alloc _) ⟨w4.heap.size, 0, none⟩ 1 1 [.int .i64 v] rfl rfl ?a1 ?a2 ?a3 ?a4 ?a5 ?_)
        case a1 => exact one_at w4 _ _
        case a2 => intro u hu; simp at hu; subst hu; rfl
        case a3 => have := HVL.out; unfold maxLen; omega
        case a4 => have := HVL.out; omega
        case a5 => simp; omega
        intro v' w5 hown' hgrow _ hat
        have HO5 : Hid (Own w5 w1.heap.size v' (vs ++ [v])) := Lib.hid ⟨by simpa using hown', fun z hz => by
          rcases List.mem_append.1 hz with hz | hz
          · exact HO.out.2 z hz
          · rw [List.mem_singleton] at hz; subst hz; exact HV.out⟩
        have HX5 : Hid (Below w1.heap.size w1 w5) := Lib.hid ((HBX4.out.alloc hsz4 _).grown hgrow (by simp; omega) (fun g hg => (HO4.out.1.lt g hg).1))
        clear hown' hgrow hat
        go_wp2_with fail
        go_roundw
        case rel => exact ⟨j + 1, vs ++ [v], by omega, by go_num, HVS2, HO5.out, HX5⟩
        case measure => simp [intOf]; omega
      | none =>
        have HCV := Lib.hid hcv
        by_cases hok : ∃ v, Lib.atoiAll p = .ok v
        · obtain ⟨v, hat⟩ := hok
          have HNE : Hid (Lib.itoa v ≠ p) := Lib.hid (canonI_bad hat hcv)
          have HV : Hid (I64 v) := Lib.hid (atoi_range hat)
          have HA := Lib.hid hat
          clear hat hcv
          go_wp2_with fail
          refine (atoi_ok p v wr HA.out hpl2).mono ?_
          rintro e w3 ⟨rfl, hb3⟩
          have HB3 := Lib.hid hb3
          clear hb3
          go_wp2_with fail
          refine (itoa_any v w3 HV.out (HPW.out.below HB3.out).tab).mono ?_
          rintro e w4 ⟨rfl, hb4⟩
          obtain ⟨s, hs⟩ : ∃ s, s = Lib.itoa v := ⟨_, rfl⟩
          rw [← hs] at HNE ⊢
          have d1 : (s == p) = false := by rw [beq_eq_false_iff_ne]; exact HNE.out
          have HBQ := HBP.out w4 (HB3.out.trans (hb4.mono HB3.out.size)) HCV.out
          clear hb4 hs hcp
          have KK := HBQ.out.2.2
          have HBK : Hid (Below w.heap.size w w4) := Lib.hid HBQ.out.2.1
          have c0 := KK.cell 0
          have c1q := KK.cell 1
          have c2 := KK.cell 2
          have c3 := KK.cell 3
          have c4 := KK.cell 4
          have c5 := KK.cell 5
          have z0 := KK.frozen 0
          have z1 := KK.frozen 1
          have z2 := KK.frozen 2
          have z3 := KK.frozen 3
          have z4 := KK.frozen 4
          have z5 := KK.frozen 5
          simp only [List.getElem?_toArray, List.getElem?_cons_zero, List.getElem?_cons_succ] at c0 c1q c2 c3 c4 c5
          have U := blk_st6 KK (.int .i64 0) (.int .i64 0) (.slice none 0 0) (.int .i64 0) (.int .i64 0) (.int .i64 0)
          have HBZ := below_st6 HBK.out (.int .i64 0) (.int .i64 0) (.slice none 0 0) (.int .i64 0) (.int .i64 0) (.int .i64 0)
          have HGZ := grown_st6 w4 w.heap.size (.int .i64 0) (.int .i64 0) (.slice none 0 0) (.int .i64 0) (.int .i64 0) (.int .i64 0)
          unfold st6 at U HBZ HGZ
          have HU := Lib.hid U
          have HBZ := Lib.hid HBZ
          have HGZ := Lib.hid HGZ
          clear U KK
          go_wp2_with fail
          clear c0 c1q c2 c3 c4 c5 z0 z1 z2 z3 z4 z5
          generalize (((((w4.setCell ⟨w.heap.size, 0, none⟩ (.int .i64 0)).setCell ⟨w.heap.size, 1, none⟩ (.int .i64 0)).setCell ⟨w.heap.size, 2, none⟩ (.slice none 0 0)).setCell ⟨w.heap.size, 3, none⟩ (.int .i64 0)).setCell ⟨w.heap.size, 4, none⟩ (.int .i64 0)).setCell ⟨w.heap.size, 5, none⟩ (.int .i64 0) = W9 at *
          have u0 := HU.out.cell 0
          have u1 := HU.out.cell 1
          have u2 := HU.out.cell 2
          have u3 := HU.out.cell 3
          have u4 := HU.out.cell 4
          have u5 := HU.out.cell 5
          simp only [List.getElem?_toArray, List.getElem?_cons_zero, List.getElem?_cons_succ] at u0 u1 u2 u3 u4 u5
          exact bodyPost_ret (v := .tuple #[.agg #[.int .i64 0, .int .i64 0, .slice none 0 0, .int .i64 0, .int .i64 0, .int .i64 0], .bool false]) (by simp [results, Tryd.results36, go_sem, u0, u1, u2, u3, u4, u5]) rfl ⟨HBZ.out, .inl ⟨HBQ.out.1, rfl⟩⟩
        · have HAB : Hid (∀ v, Lib.atoiAll p ≠ .ok v) := Lib.hid (fun v e => hok ⟨v, e⟩)
          clear hok hcv
          go_wp2_with fail
          refine (atoi_bad p wr HAB.out hpl2 HPW.out).mono ?_
          rintro e w4 ⟨v, N, rfl, -, -, hb4⟩
          have HBQ := HBP.out w4 hb4 HCV.out
          clear hb4 hcp
          have KK := HBQ.out.2.2
          have HBK : Hid (Below w.heap.size w w4) := Lib.hid HBQ.out.2.1
          have c0 := KK.cell 0
          have c1q := KK.cell 1
          have c2 := KK.cell 2
          have c3 := KK.cell 3
          have c4 := KK.cell 4
          have c5 := KK.cell 5
          have z0 := KK.frozen 0
          have z1 := KK.frozen 1
          have z2 := KK.frozen 2
          have z3 := KK.frozen 3
          have z4 := KK.frozen 4
          have z5 := KK.frozen 5
          simp only [List.getElem?_toArray, List.getElem?_cons_zero, List.getElem?_cons_succ] at c0 c1q c2 c3 c4 c5
          have U := blk_st6 KK (.int .i64 0) (.int .i64 0) (.slice none 0 0) (.int .i64 0) (.int .i64 0) (.int .i64 0)
          have HBZ := below_st6 HBK.out (.int .i64 0) (.int .i64 0) (.slice none 0 0) (.int .i64 0) (.int .i64 0) (.int .i64 0)
          have HGZ := grown_st6 w4 w.heap.size (.int .i64 0) (.int .i64 0) (.slice none 0 0) (.int .i64 0) (.int .i64 0) (.int .i64 0)
          unfold st6 at U HBZ HGZ
          have HU := Lib.hid U
          have HBZ := Lib.hid HBZ
          have HGZ := Lib.hid HGZ
          clear U KK
          go_wp2_with fail
          clear c0 c1q c2 c3 c4 c5 z0 z1 z2 z3 z4 z5
          generalize (((((w4.setCell ⟨w.heap.size, 0, none⟩ (.int .i64 0)).setCell ⟨w.heap.size, 1, none⟩ (.int .i64 0)).setCell ⟨w.heap.size, 2, none⟩ (.slice none 0 0)).setCell ⟨w.heap.size, 3, none⟩ (.int .i64 0)).setCell ⟨w.heap.size, 4, none⟩ (.int .i64 0)).setCell ⟨w.heap.size, 5, none⟩ (.int .i64 0) = W9 at *
          have u0 := HU.out.cell 0
          have u1 := HU.out.cell 1
          have u2 := HU.out.cell 2
          have u3 := HU.out.cell 3
          have u4 := HU.out.cell 4
          have u5 := HU.out.cell 5
          simp only [List.getElem?_toArray, List.getElem?_cons_zero, List.getElem?_cons_succ] at u0 u1 u2 u3 u4 u5
          exact bodyPost_ret (v := .tuple #[.agg #[.int .i64 0, .int .i64 0, .slice none 0 0, .int .i64 0, .int .i64 0, .int .i64 0], .bool false]) (by simp [results, Tryd.results36, go_sem, u0, u1, u2, u3, u4, u5]) rfl ⟨HBZ.out, .inl ⟨HBQ.out.1, rfl⟩⟩
    · have HSP2 : Hid (stepP line = stepOf h vs) := Lib.hid (by
        have h := HVS.out
        rw [List.take_of_length_le (by omega)] at h
        rw [HSP.out, h]; rfl)
      have HSP := HSP2
      obtain ⟨b2q, o2q, e2q, hb2q, hch⟩ := (HRD.out.keep HBW1.out).at_ (k := 0) (u := .string ⟨h.toArray⟩) rfl
      injection e2q with e2q
      injection e2q with e2q1 e2q2 _
      subst e2q1 e2q2
      rw [Nat.add_zero] at hch
      by_cases hw : h = wInput
      · have e1 : (h == [105, 110, 112, 117, 116]) = true := by rw [beq_iff_eq]; exact hw
        have e2 : (h == [99, 121, 99, 108, 101]) = false := by rw [hw]; rfl
        have e3 : (h == [114, 101, 115, 111, 108, 118, 101]) = false := by rw [hw]; rfl
        have e4 : (h == [115, 116, 101, 112]) = false := by rw [hw]; rfl
        by_cases hln : vs.length = 1
        · have q1 : ((vs.length : Int) == 1) = true := by rw [hln]; rfl
          obtain ⟨a, hvs⟩ : ∃ a, vs = [a] := by
            match vs, hln with
            | [a], _ => exact ⟨a, rfl⟩
          obtain ⟨g, hg, -, hgl, hgc⟩ := own_cells HO.out (by rw [hvs]; simp)
          subst hg
          have j0 := hgc 0 a (by rw [hvs]; rfl)
          have hvl : vs.length = 1 := by rw [hvs]; rfl
          have HI := Lib.hid HO.out.2
          have HYS : Hid (stepOf h vs = some ⟨1, a, [], 0, 0, 0⟩) := Lib.hid (by rw [hvs, hw]; rfl)
          rw [hvs] at HI
          rw [hvl]
          clear hgc hvs hvl hln q1 hw
          have HYES : Hid (stepP line = some ⟨1, a, [], 0, 0, 0⟩) := Lib.hid (by rw [HSP.out]; exact HYS.out)
          have KK := HRBW.out
          have HBK := HBW
          have c0 := KK.cell 0
          have c1q := KK.cell 1
          have c2 := KK.cell 2
          have c3 := KK.cell 3
          have c4 := KK.cell 4
          have c5 := KK.cell 5
          have z0 := KK.frozen 0
          have z1 := KK.frozen 1
          have z2 := KK.frozen 2
          have z3 := KK.frozen 3
          have z4 := KK.frozen 4
          have z5 := KK.frozen 5
          simp only [List.getElem?_toArray, List.getElem?_cons_zero, List.getElem?_cons_succ] at c0 c1q c2 c3 c4 c5
          have U := blk_st6 KK (.int .i64 1) (.int .i64 a) (.slice none 0 0) (.int .i64 0) (.int .i64 0) (.int .i64 0)
          have HBZ := below_st6 HBK.out (.int .i64 1) (.int .i64 a) (.slice none 0 0) (.int .i64 0) (.int .i64 0) (.int .i64 0)
          have HGZ := grown_st6 wr w.heap.size (.int .i64 1) (.int .i64 a) (.slice none 0 0) (.int .i64 0) (.int .i64 0) (.int .i64 0)
          unfold st6 at U HBZ HGZ
          have HU := Lib.hid U
          have HBZ := Lib.hid HBZ
          have HGZ := Lib.hid HGZ
          clear U KK
          go_wp2_with fail
          clear c0 c1q c2 c3 c4 c5 z0 z1 z2 z3 z4 z5
          generalize (((((wr.setCell ⟨w.heap.size, 0, none⟩ (.int .i64 1)).setCell ⟨w.heap.size, 1, none⟩ (.int .i64 a)).setCell ⟨w.heap.size, 2, none⟩ (.slice none 0 0)).setCell ⟨w.heap.size, 3, none⟩ (.int .i64 0)).setCell ⟨w.heap.size, 4, none⟩ (.int .i64 0)).setCell ⟨w.heap.size, 5, none⟩ (.int .i64 0) = W9 at *
          have u0 := HU.out.cell 0
          have u1 := HU.out.cell 1
          have u2 := HU.out.cell 2
          have u3 := HU.out.cell 3
          have u4 := HU.out.cell 4
          have u5 := HU.out.cell 5
          simp only [List.getElem?_toArray, List.getElem?_cons_zero, List.getElem?_cons_succ] at u0 u1 u2 u3 u4 u5
          exact bodyPost_ret (v := .tuple #[.agg #[.int .i64 1, .int .i64 a, .slice none 0 0, .int .i64 0, .int .i64 0, .int .i64 0], .bool true]) (by simp [results, Tryd.results36, go_sem, u0, u1, u2, u3, u4, u5]) rfl ⟨HBZ.out, .inr ⟨⟨1, a, [], 0, 0, 0⟩, none, 0, HYES.out, rfl, ⟨none, 0, rfl, by simp, by unfold maxLen; omega, by simp, by simp⟩, ⟨i64_1, HI.out a (by simp), i64_0, i64_0, i64_0⟩⟩⟩
        · have q1 : ((vs.length : Int) == 1) = false := by rw [beq_eq_false_iff_ne]; omega
          have HNS : Hid (stepOf h vs = none) := Lib.hid (by
            rw [hw]; unfold stepOf
            rw [if_neg (fun e => hln e.2), if_neg (by decide), if_neg (fun e => absurd e.1 (by decide)), if_neg (fun e => absurd e.1 (by decide))])
          clear hw hln
          have HNO : Hid (stepP line = none) := Lib.hid (by rw [HSP.out]; exact HNS.out)
          have KK := HRBW.out
          have HBK := HBW
          have c0 := KK.cell 0
          have c1q := KK.cell 1
          have c2 := KK.cell 2
          have c3 := KK.cell 3
          have c4 := KK.cell 4
          have c5 := KK.cell 5
          have z0 := KK.frozen 0
          have z1 := KK.frozen 1
          have z2 := KK.frozen 2
          have z3 := KK.frozen 3
          have z4 := KK.frozen 4
          have z5 := KK.frozen 5
          simp only [List.getElem?_toArray, List.getElem?_cons_zero, List.getElem?_cons_succ] at c0 c1q c2 c3 c4 c5
          have U := blk_st6 KK (.int .i64 0) (.int .i64 0) (.slice none 0 0) (.int .i64 0) (.int .i64 0) (.int .i64 0)
          have HBZ := below_st6 HBK.out (.int .i64 0) (.int .i64 0) (.slice none 0 0) (.int .i64 0) (.int .i64 0) (.int .i64 0)
          have HGZ := grown_st6 wr w.heap.size (.int .i64 0) (.int .i64 0) (.slice none 0 0) (.int .i64 0) (.int .i64 0) (.int .i64 0)
          unfold st6 at U HBZ HGZ
          have HU := Lib.hid U
          have HBZ := Lib.hid HBZ
          have HGZ := Lib.hid HGZ
          clear U KK
          go_wp2_with fail
          clear c0 c1q c2 c3 c4 c5 z0 z1 z2 z3 z4 z5
          generalize (((((wr.setCell ⟨w.heap.size, 0, none⟩ (.int .i64 0)).setCell ⟨w.heap.size, 1, none⟩ (.int .i64 0)).setCell ⟨w.heap.size, 2, none⟩ (.slice none 0 0)).setCell ⟨w.heap.size, 3, none⟩ (.int .i64 0)).setCell ⟨w.heap.size, 4, none⟩ (.int .i64 0)).setCell ⟨w.heap.size, 5, none⟩ (.int .i64 0) = W9 at *
          have u0 := HU.out.cell 0
          have u1 := HU.out.cell 1
          have u2 := HU.out.cell 2
          have u3 := HU.out.cell 3
          have u4 := HU.out.cell 4
          have u5 := HU.out.cell 5
          simp only [List.getElem?_toArray, List.getElem?_cons_zero, List.getElem?_cons_succ] at u0 u1 u2 u3 u4 u5
          exact bodyPost_ret (v := .tuple #[.agg #[.int .i64 0, .int .i64 0, .slice none 0 0, .int .i64 0, .int .i64 0, .int .i64 0], .bool false]) (by simp [results, Tryd.results36, go_sem, u0, u1, u2, u3, u4, u5]) rfl ⟨HBZ.out, .inl ⟨HNO.out, rfl⟩⟩
      · have hw1 := hw
        clear hw
        by_cases hw : h = wCycle
        · clear hw1
          have e1 : (h == [105, 110, 112, 117, 116]) = false := by rw [hw]; rfl
          have e2 : (h == [99, 121, 99, 108, 101]) = true := by rw [beq_iff_eq]; exact hw
          have e3 : (h == [114, 101, 115, 111, 108, 118, 101]) = false := by rw [hw]; rfl
          have e4 : (h == [115, 116, 101, 112]) = false := by rw [hw]; rfl
          have HI := Lib.hid HO.out.2
          have HYS : Hid (stepOf h vs = some ⟨2, 0, vs, 0, 0, 0⟩) := Lib.hid (by unfold stepOf; rw [if_neg (fun e => wne.1 (e.1.symm.trans hw)), if_pos hw])
          clear hw
          have HYES : Hid (stepP line = some ⟨2, 0, vs, 0, 0, 0⟩) := Lib.hid (by rw [HSP.out]; exact HYS.out)
          have KK := HRBW.out
          have HBK := HBW
          have c0 := KK.cell 0
          have c1q := KK.cell 1
          have c2 := KK.cell 2
          have c3 := KK.cell 3
          have c4 := KK.cell 4
          have c5 := KK.cell 5
          have z0 := KK.frozen 0
          have z1 := KK.frozen 1
          have z2 := KK.frozen 2
          have z3 := KK.frozen 3
          have z4 := KK.frozen 4
          have z5 := KK.frozen 5
          simp only [List.getElem?_toArray, List.getElem?_cons_zero, List.getElem?_cons_succ] at c0 c1q c2 c3 c4 c5
          have U := blk_st6 KK (.int .i64 2) (.int .i64 0) (.slice Ao vs.length co) (.int .i64 0) (.int .i64 0) (.int .i64 0)
          have HBZ := below_st6 HBK.out (.int .i64 2) (.int .i64 0) (.slice Ao vs.length co) (.int .i64 0) (.int .i64 0) (.int .i64 0)
          have HGZ := grown_st6 wr w.heap.size (.int .i64 2) (.int .i64 0) (.slice Ao vs.length co) (.int .i64 0) (.int .i64 0) (.int .i64 0)
          unfold st6 at U HBZ HGZ
          have HU := Lib.hid U
          have HBZ := Lib.hid HBZ
          have HGZ := Lib.hid HGZ
          clear U KK
          go_wp2_with fail
          clear c0 c1q c2 c3 c4 c5 z0 z1 z2 z3 z4 z5
          generalize (((((wr.setCell ⟨w.heap.size, 0, none⟩ (.int .i64 2)).setCell ⟨w.heap.size, 1, none⟩ (.int .i64 0)).setCell ⟨w.heap.size, 2, none⟩ (.slice Ao vs.length co)).setCell ⟨w.heap.size, 3, none⟩ (.int .i64 0)).setCell ⟨w.heap.size, 4, none⟩ (.int .i64 0)).setCell ⟨w.heap.size, 5, none⟩ (.int .i64 0) = W9 at *
          have u0 := HU.out.cell 0
          have u1 := HU.out.cell 1
          have u2 := HU.out.cell 2
          have u3 := HU.out.cell 3
          have u4 := HU.out.cell 4
          have u5 := HU.out.cell 5
          simp only [List.getElem?_toArray, List.getElem?_cons_zero, List.getElem?_cons_succ] at u0 u1 u2 u3 u4 u5
          exact bodyPost_ret (v := .tuple #[.agg #[.int .i64 2, .int .i64 0, .slice Ao vs.length co, .int .i64 0, .int .i64 0, .int .i64 0], .bool true]) (by simp [results, Tryd.results36, go_sem, u0, u1, u2, u3, u4, u5]) rfl ⟨HBZ.out, .inr ⟨⟨2, 0, vs, 0, 0, 0⟩, Ao, co, HYES.out, rfl, (HO.out.intsO (P := fun b => w.heap.size < b) (fun b h1 _ _ => by have := HW1S.out; omega)).grown HGZ.out (fun b hb e => by injection e with e; omega) |>.mono (fun b _ hb => Nat.le_of_lt hb), ⟨i64_2, i64_0, i64_0, i64_0, i64_0⟩⟩⟩
        · have hw2 := hw
          clear hw
          by_cases hw : h = wResolve
          · clear hw1 hw2
            have e1 : (h == [105, 110, 112, 117, 116]) = false := by rw [hw]; rfl
            have e2 : (h == [99, 121, 99, 108, 101]) = false := by rw [hw]; rfl
            have e3 : (h == [114, 101, 115, 111, 108, 118, 101]) = true := by rw [beq_iff_eq]; exact hw
            have e4 : (h == [115, 116, 101, 112]) = false := by rw [hw]; rfl
            by_cases hln : vs.length = 3
            · have q1 : ((vs.length : Int) == 3) = true := by rw [hln]; rfl
              obtain ⟨a, b2, d2v, hvs⟩ : ∃ a b c, vs = [a, b, c] := by
                match vs, hln with
                | [a, b, c], _ => exact ⟨a, b, c, rfl⟩
              obtain ⟨g, hg, hgb, hgl, hgc⟩ := own_cells HO.out (by rw [hvs]; simp)
              subst hg
              have j0 := hgc 0 a (by rw [hvs]; rfl)
              have j1 := hgc 1 b2 (by rw [hvs]; rfl)
              have j2 := hgc 2 d2v (by rw [hvs]; rfl)
              have hne1 : ¬ g = w.heap.size := by have := HW1S.out; omega
              have hne2 : ¬ w.heap.size = g := fun e => hne1 e.symm
              have hvl : vs.length = 3 := by rw [hvs]; rfl
              have HI := Lib.hid HO.out.2
              have HYS : Hid (stepOf h vs = some ⟨3, 0, [], a, b2, d2v⟩) := Lib.hid (by rw [hvs, hw]; rfl)
              rw [hvs] at HI
              rw [hvl]
              clear hgc hvs hvl hln q1 hw
              have HYES : Hid (stepP line = some ⟨3, 0, [], a, b2, d2v⟩) := Lib.hid (by rw [HSP.out]; exact HYS.out)
              have KK := HRBW.out
              have HBK := HBW
              have c0 := KK.cell 0
              have c1q := KK.cell 1
              have c2 := KK.cell 2
              have c3 := KK.cell 3
              have c4 := KK.cell 4
              have c5 := KK.cell 5
              have z0 := KK.frozen 0
              have z1 := KK.frozen 1
              have z2 := KK.frozen 2
              have z3 := KK.frozen 3
              have z4 := KK.frozen 4
              have z5 := KK.frozen 5
              simp only [List.getElem?_toArray, List.getElem?_cons_zero, List.getElem?_cons_succ] at c0 c1q c2 c3 c4 c5
              have U := (blk_st6 KK (.int .i64 3) (.int .i64 0) (.slice none 0 0) (.int .i64 a) (.int .i64 b2) (.int .i64 d2v)).keep (Below.refl _ _).drew
              have HBZ := (below_st6 HBK.out (.int .i64 3) (.int .i64 0) (.slice none 0 0) (.int .i64 a) (.int .i64 b2) (.int .i64 d2v)).drew
              unfold st6 at U HBZ
              have HU := Lib.hid U
              have HBZ := Lib.hid HBZ
              clear U KK
              go_upto_region 16 with fail
              go_region_held3 (fun w' => w'.cell? ⟨g, 0, none⟩ = some (.int .i64 a) ∧ w'.cell? ⟨g, 1, none⟩ = some (.int .i64 b2) ∧ w'.cell? ⟨g, 2, none⟩ = some (.int .i64 d2v)) (go_keep) (fail)
              clear c0 c1q c2 c3 c4 c5 z0 z1 z2 z3 z4 z5
              clear j0 j1 j2
              generalize ((((((wr.setCell ⟨w.heap.size, 0, none⟩ (.int .i64 3)).setCell ⟨w.heap.size, 1, none⟩ (.int .i64 0)).setCell ⟨w.heap.size, 2, none⟩ (.slice none 0 0)).setCell ⟨w.heap.size, 3, none⟩ (.int .i64 a)).setCell ⟨w.heap.size, 4, none⟩ (.int .i64 b2)).setCell ⟨w.heap.size, 5, none⟩ (.int .i64 d2v)).drew = W9 at *
              go_wp2_with fail
              have u0 := HU.out.cell 0
              have u1 := HU.out.cell 1
              have u2 := HU.out.cell 2
              have u3 := HU.out.cell 3
              have u4 := HU.out.cell 4
              have u5 := HU.out.cell 5
              simp only [List.getElem?_toArray, List.getElem?_cons_zero, List.getElem?_cons_succ] at u0 u1 u2 u3 u4 u5
              exact bodyPost_ret (v := .tuple #[.agg #[.int .i64 3, .int .i64 0, .slice none 0 0, .int .i64 a, .int .i64 b2, .int .i64 d2v], .bool true]) (by simp [results, Tryd.results36, go_sem, u0, u1, u2, u3, u4, u5]) rfl ⟨HBZ.out, .inr ⟨⟨3, 0, [], a, b2, d2v⟩, none, 0, HYES.out, rfl, ⟨none, 0, rfl, by simp, by unfold maxLen; omega, by simp, by simp⟩, ⟨i64_3, i64_0, HI.out a (by simp), HI.out b2 (by simp), HI.out d2v (by simp)⟩⟩⟩
            · have q1 : ((vs.length : Int) == 3) = false := by rw [beq_eq_false_iff_ne]; omega
              have HNS : Hid (stepOf h vs = none) := Lib.hid (by
                rw [hw]; unfold stepOf
                rw [if_neg (fun e => absurd e.1 (by decide)), if_neg (by decide), if_neg (fun e => hln e.2), if_neg (fun e => absurd e.1 (by decide))])
              clear hw hln
              have HNO : Hid (stepP line = none) := Lib.hid (by rw [HSP.out]; exact HNS.out)
              have KK := HRBW.out
              have HBK := HBW
              have c0 := KK.cell 0
              have c1q := KK.cell 1
              have c2 := KK.cell 2
              have c3 := KK.cell 3
              have c4 := KK.cell 4
              have c5 := KK.cell 5
              have z0 := KK.frozen 0
              have z1 := KK.frozen 1
              have z2 := KK.frozen 2
              have z3 := KK.frozen 3
              have z4 := KK.frozen 4
              have z5 := KK.frozen 5
              simp only [List.getElem?_toArray, List.getElem?_cons_zero, List.getElem?_cons_succ] at c0 c1q c2 c3 c4 c5
              have U := blk_st6 KK (.int .i64 0) (.int .i64 0) (.slice none 0 0) (.int .i64 0) (.int .i64 0) (.int .i64 0)
              have HBZ := below_st6 HBK.out (.int .i64 0) (.int .i64 0) (.slice none 0 0) (.int .i64 0) (.int .i64 0) (.int .i64 0)
              have HGZ := grown_st6 wr w.heap.size (.int .i64 0) (.int .i64 0) (.slice none 0 0) (.int .i64 0) (.int .i64 0) (.int .i64 0)
              unfold st6 at U HBZ HGZ
              have HU := Lib.hid U
              have HBZ := Lib.hid HBZ
              have HGZ := Lib.hid HGZ
              clear U KK
              go_wp2_with fail
              clear c0 c1q c2 c3 c4 c5 z0 z1 z2 z3 z4 z5
              generalize (((((wr.setCell ⟨w.heap.size, 0, none⟩ (.int .i64 0)).setCell ⟨w.heap.size, 1, none⟩ (.int .i64 0)).setCell ⟨w.heap.size, 2, none⟩ (.slice none 0 0)).setCell ⟨w.heap.size, 3, none⟩ (.int .i64 0)).setCell ⟨w.heap.size, 4, none⟩ (.int .i64 0)).setCell ⟨w.heap.size, 5, none⟩ (.int .i64 0) = W9 at *
              have u0 := HU.out.cell 0
              have u1 := HU.out.cell 1
              have u2 := HU.out.cell 2
              have u3 := HU.out.cell 3
              have u4 := HU.out.cell 4
              have u5 := HU.out.cell 5
              simp only [List.getElem?_toArray, List.getElem?_cons_zero, List.getElem?_cons_succ] at u0 u1 u2 u3 u4 u5
              exact bodyPost_ret (v := .tuple #[.agg #[.int .i64 0, .int .i64 0, .slice none 0 0, .int .i64 0, .int .i64 0, .int .i64 0], .bool false]) (by simp [results, Tryd.results36, go_sem, u0, u1, u2, u3, u4, u5]) rfl ⟨HBZ.out, .inl ⟨HNO.out, rfl⟩⟩
          · have hw3 := hw
            clear hw
            by_cases hw : h = wStep
            · clear hw1 hw2 hw3
              have e1 : (h == [105, 110, 112, 117, 116]) = false := by rw [hw]; rfl
              have e2 : (h == [99, 121, 99, 108, 101]) = false := by rw [hw]; rfl
              have e3 : (h == [114, 101, 115, 111, 108, 118, 101]) = false := by rw [hw]; rfl
              have e4 : (h == [115, 116, 101, 112]) = true := by rw [beq_iff_eq]; exact hw
              by_cases hln : vs.length = 1
              · have q1 : ((vs.length : Int) == 1) = true := by rw [hln]; rfl
                obtain ⟨a, hvs⟩ : ∃ a, vs = [a] := by
                  match vs, hln with
                  | [a], _ => exact ⟨a, rfl⟩
                obtain ⟨g, hg, -, hgl, hgc⟩ := own_cells HO.out (by rw [hvs]; simp)
                subst hg
                have j0 := hgc 0 a (by rw [hvs]; rfl)
                have hvl : vs.length = 1 := by rw [hvs]; rfl
                have HI := Lib.hid HO.out.2
                rw [hvs] at HI
                have HSO : Hid (stepOf h vs = if a < 1 ∨ 3 < a then some ⟨a, 0, [], 0, 0, 0⟩ else none) := Lib.hid (by
                  rw [hvs, hw]; unfold stepOf
                  rw [if_neg (fun e => absurd e.1 (by decide)), if_neg (by decide), if_neg (fun e => absurd e.1 (by decide))]
                  by_cases hc : a < 1 ∨ 3 < a
                  · rw [if_pos hc, if_pos ⟨rfl, rfl, hc⟩]; rfl
                  · rw [if_neg hc, if_neg (fun e => hc e.2.2)])
                rw [hvl]
                clear hgc hvs hvl hln q1 hw
                by_cases ha : a < 1
                · have d1 : decide (a < 1) = true := by simpa using ha
                  have HYS : Hid (stepOf h vs = some ⟨a, 0, [], 0, 0, 0⟩) := Lib.hid (by rw [HSO.out, if_pos (.inl ha)])
                  clear ha
                  have HYES : Hid (stepP line = some ⟨a, 0, [], 0, 0, 0⟩) := Lib.hid (by rw [HSP.out]; exact HYS.out)
                  have KK := HRBW.out
                  have HBK := HBW
                  have c0 := KK.cell 0
                  have c1q := KK.cell 1
                  have c2 := KK.cell 2
                  have c3 := KK.cell 3
                  have c4 := KK.cell 4
                  have c5 := KK.cell 5
                  have z0 := KK.frozen 0
                  have z1 := KK.frozen 1
                  have z2 := KK.frozen 2
                  have z3 := KK.frozen 3
                  have z4 := KK.frozen 4
                  have z5 := KK.frozen 5
                  simp only [List.getElem?_toArray, List.getElem?_cons_zero, List.getElem?_cons_succ] at c0 c1q c2 c3 c4 c5
                  have U := blk_st6 KK (.int .i64 a) (.int .i64 0) (.slice none 0 0) (.int .i64 0) (.int .i64 0) (.int .i64 0)
                  have HBZ := below_st6 HBK.out (.int .i64 a) (.int .i64 0) (.slice none 0 0) (.int .i64 0) (.int .i64 0) (.int .i64 0)
                  have HGZ := grown_st6 wr w.heap.size (.int .i64 a) (.int .i64 0) (.slice none 0 0) (.int .i64 0) (.int .i64 0) (.int .i64 0)
                  unfold st6 at U HBZ HGZ
                  have HU := Lib.hid U
                  have HBZ := Lib.hid HBZ
                  have HGZ := Lib.hid HGZ
                  clear U KK
                  go_wp2_with fail
                  clear c0 c1q c2 c3 c4 c5 z0 z1 z2 z3 z4 z5
                  generalize (((((wr.setCell ⟨w.heap.size, 0, none⟩ (.int .i64 a)).setCell ⟨w.heap.size, 1, none⟩ (.int .i64 0)).setCell ⟨w.heap.size, 2, none⟩ (.slice none 0 0)).setCell ⟨w.heap.size, 3, none⟩ (.int .i64 0)).setCell ⟨w.heap.size, 4, none⟩ (.int .i64 0)).setCell ⟨w.heap.size, 5, none⟩ (.int .i64 0) = W9 at *
                  have u0 := HU.out.cell 0
                  have u1 := HU.out.cell 1
                  have u2 := HU.out.cell 2
                  have u3 := HU.out.cell 3
                  have u4 := HU.out.cell 4
                  have u5 := HU.out.cell 5
                  simp only [List.getElem?_toArray, List.getElem?_cons_zero, List.getElem?_cons_succ] at u0 u1 u2 u3 u4 u5
                  exact bodyPost_ret (v := .tuple #[.agg #[.int .i64 a, .int .i64 0, .slice none 0 0, .int .i64 0, .int .i64 0, .int .i64 0], .bool true]) (by simp [results, Tryd.results36, go_sem, u0, u1, u2, u3, u4, u5]) rfl ⟨HBZ.out, .inr ⟨⟨a, 0, [], 0, 0, 0⟩, none, 0, HYES.out, rfl, ⟨none, 0, rfl, by simp, by unfold maxLen; omega, by simp, by simp⟩, ⟨HI.out a (by simp), i64_0, i64_0, i64_0, i64_0⟩⟩⟩
                · have d1 : decide (a < 1) = false := by simpa using ha
                  by_cases hb : 3 < a
                  · have d2 : decide (3 < a) = true := by simpa using hb
                    have HYS : Hid (stepOf h vs = some ⟨a, 0, [], 0, 0, 0⟩) := Lib.hid (by rw [HSO.out, if_pos (.inr hb)])
                    clear ha hb
                    have HYES : Hid (stepP line = some ⟨a, 0, [], 0, 0, 0⟩) := Lib.hid (by rw [HSP.out]; exact HYS.out)
                    have KK := HRBW.out
                    have HBK := HBW
                    have c0 := KK.cell 0
                    have c1q := KK.cell 1
                    have c2 := KK.cell 2
                    have c3 := KK.cell 3
                    have c4 := KK.cell 4
                    have c5 := KK.cell 5
                    have z0 := KK.frozen 0
                    have z1 := KK.frozen 1
                    have z2 := KK.frozen 2
                    have z3 := KK.frozen 3
                    have z4 := KK.frozen 4
                    have z5 := KK.frozen 5
                    simp only [List.getElem?_toArray, List.getElem?_cons_zero, List.getElem?_cons_succ] at c0 c1q c2 c3 c4 c5
                    have U := blk_st6 KK (.int .i64 a) (.int .i64 0) (.slice none 0 0) (.int .i64 0) (.int .i64 0) (.int .i64 0)
                    have HBZ := below_st6 HBK.out (.int .i64 a) (.int .i64 0) (.slice none 0 0) (.int .i64 0) (.int .i64 0) (.int .i64 0)
                    have HGZ := grown_st6 wr w.heap.size (.int .i64 a) (.int .i64 0) (.slice none 0 0) (.int .i64 0) (.int .i64 0) (.int .i64 0)
                    unfold st6 at U HBZ HGZ
                    have HU := Lib.hid U
                    have HBZ := Lib.hid HBZ
                    have HGZ := Lib.hid HGZ
                    clear U KK
                    go_wp2_with fail
                    clear c0 c1q c2 c3 c4 c5 z0 z1 z2 z3 z4 z5
                    generalize (((((wr.setCell ⟨w.heap.size, 0, none⟩ (.int .i64 a)).setCell ⟨w.heap.size, 1, none⟩ (.int .i64 0)).setCell ⟨w.heap.size, 2, none⟩ (.slice none 0 0)).setCell ⟨w.heap.size, 3, none⟩ (.int .i64 0)).setCell ⟨w.heap.size, 4, none⟩ (.int .i64 0)).setCell ⟨w.heap.size, 5, none⟩ (.int .i64 0) = W9 at *
                    have u0 := HU.out.cell 0
                    have u1 := HU.out.cell 1
                    have u2 := HU.out.cell 2
                    have u3 := HU.out.cell 3
                    have u4 := HU.out.cell 4
                    have u5 := HU.out.cell 5
                    simp only [List.getElem?_toArray, List.getElem?_cons_zero, List.getElem?_cons_succ] at u0 u1 u2 u3 u4 u5
                    exact bodyPost_ret (v := .tuple #[.agg #[.int .i64 a, .int .i64 0, .slice none 0 0, .int .i64 0, .int .i64 0, .int .i64 0], .bool true]) (by simp [results, Tryd.results36, go_sem, u0, u1, u2, u3, u4, u5]) rfl ⟨HBZ.out, .inr ⟨⟨a, 0, [], 0, 0, 0⟩, none, 0, HYES.out, rfl, ⟨none, 0, rfl, by simp, by unfold maxLen; omega, by simp, by simp⟩, ⟨HI.out a (by simp), i64_0, i64_0, i64_0, i64_0⟩⟩⟩
                  · have d2 : decide (3 < a) = false := by simpa using hb
                    have HNS : Hid (stepOf h vs = none) := Lib.hid (by rw [HSO.out, if_neg (by omega)])
                    clear ha hb
                    have HNO : Hid (stepP line = none) := Lib.hid (by rw [HSP.out]; exact HNS.out)
                    have KK := HRBW.out
                    have HBK := HBW
                    have c0 := KK.cell 0
                    have c1q := KK.cell 1
                    have c2 := KK.cell 2
                    have c3 := KK.cell 3
                    have c4 := KK.cell 4
                    have c5 := KK.cell 5
                    have z0 := KK.frozen 0
                    have z1 := KK.frozen 1
                    have z2 := KK.frozen 2
                    have z3 := KK.frozen 3
                    have z4 := KK.frozen 4
                    have z5 := KK.frozen 5
                    simp only [List.getElem?_toArray, List.getElem?_cons_zero, List.getElem?_cons_succ] at c0 c1q c2 c3 c4 c5
                    have U := blk_st6 KK (.int .i64 0) (.int .i64 0) (.slice none 0 0) (.int .i64 0) (.int .i64 0) (.int .i64 0)
                    have HBZ := below_st6 HBK.out (.int .i64 0) (.int .i64 0) (.slice none 0 0) (.int .i64 0) (.int .i64 0) (.int .i64 0)
                    have HGZ := grown_st6 wr w.heap.size (.int .i64 0) (.int .i64 0) (.slice none 0 0) (.int .i64 0) (.int .i64 0) (.int .i64 0)
                    unfold st6 at U HBZ HGZ
                    have HU := Lib.hid U
                    have HBZ := Lib.hid HBZ
                    have HGZ := Lib.hid HGZ
                    clear U KK
                    go_wp2_with fail
                    clear c0 c1q c2 c3 c4 c5 z0 z1 z2 z3 z4 z5
                    generalize (((((wr.setCell ⟨w.heap.size, 0, none⟩ (.int .i64 0)).setCell ⟨w.heap.size, 1, none⟩ (.int .i64 0)).setCell ⟨w.heap.size, 2, none⟩ (.slice none 0 0)).setCell ⟨w.heap.size, 3, none⟩ (.int .i64 0)).setCell ⟨w.heap.size, 4, none⟩ (.int .i64 0)).setCell ⟨w.heap.size, 5, none⟩ (.int .i64 0) = W9 at *
                    have u0 := HU.out.cell 0
                    have u1 := HU.out.cell 1
                    have u2 := HU.out.cell 2
                    have u3 := HU.out.cell 3
                    have u4 := HU.out.cell 4
                    have u5 := HU.out.cell 5
                    simp only [List.getElem?_toArray, List.getElem?_cons_zero, List.getElem?_cons_succ] at u0 u1 u2 u3 u4 u5
                    exact bodyPost_ret (v := .tuple #[.agg #[.int .i64 0, .int .i64 0, .slice none 0 0, .int .i64 0, .int .i64 0, .int .i64 0], .bool false]) (by simp [results, Tryd.results36, go_sem, u0, u1, u2, u3, u4, u5]) rfl ⟨HBZ.out, .inl ⟨HNO.out, rfl⟩⟩
              · have q1 : ((vs.length : Int) == 1) = false := by rw [beq_eq_false_iff_ne]; omega
                have HNS : Hid (stepOf h vs = none) := Lib.hid (by
                  rw [hw]; unfold stepOf
                  rw [if_neg (fun e => absurd e.1 (by decide)), if_neg (by decide), if_neg (fun e => absurd e.1 (by decide)), if_neg (fun e => hln e.2.1)])
                clear hw hln
                have HNO : Hid (stepP line = none) := Lib.hid (by rw [HSP.out]; exact HNS.out)
                have KK := HRBW.out
                have HBK := HBW
                have c0 := KK.cell 0
                have c1q := KK.cell 1
                have c2 := KK.cell 2
                have c3 := KK.cell 3
                have c4 := KK.cell 4
                have c5 := KK.cell 5
                have z0 := KK.frozen 0
                have z1 := KK.frozen 1
                have z2 := KK.frozen 2
                have z3 := KK.frozen 3
                have z4 := KK.frozen 4
                have z5 := KK.frozen 5
                simp only [List.getElem?_toArray, List.getElem?_cons_zero, List.getElem?_cons_succ] at c0 c1q c2 c3 c4 c5
                have U := blk_st6 KK (.int .i64 0) (.int .i64 0) (.slice none 0 0) (.int .i64 0) (.int .i64 0) (.int .i64 0)
                have HBZ := below_st6 HBK.out (.int .i64 0) (.int .i64 0) (.slice none 0 0) (.int .i64 0) (.int .i64 0) (.int .i64 0)
                have HGZ := grown_st6 wr w.heap.size (.int .i64 0) (.int .i64 0) (.slice none 0 0) (.int .i64 0) (.int .i64 0) (.int .i64 0)
                unfold st6 at U HBZ HGZ
                have HU := Lib.hid U
                have HBZ := Lib.hid HBZ
                have HGZ := Lib.hid HGZ
                clear U KK
                go_wp2_with fail
                clear c0 c1q c2 c3 c4 c5 z0 z1 z2 z3 z4 z5
                generalize (((((wr.setCell ⟨w.heap.size, 0, none⟩ (.int .i64 0)).setCell ⟨w.heap.size, 1, none⟩ (.int .i64 0)).setCell ⟨w.heap.size, 2, none⟩ (.slice none 0 0)).setCell ⟨w.heap.size, 3, none⟩ (.int .i64 0)).setCell ⟨w.heap.size, 4, none⟩ (.int .i64 0)).setCell ⟨w.heap.size, 5, none⟩ (.int .i64 0) = W9 at *
                have u0 := HU.out.cell 0
                have u1 := HU.out.cell 1
                have u2 := HU.out.cell 2
                have u3 := HU.out.cell 3
                have u4 := HU.out.cell 4
                have u5 := HU.out.cell 5
                simp only [List.getElem?_toArray, List.getElem?_cons_zero, List.getElem?_cons_succ] at u0 u1 u2 u3 u4 u5
                exact bodyPost_ret (v := .tuple #[.agg #[.int .i64 0, .int .i64 0, .slice none 0 0, .int .i64 0, .int .i64 0, .int .i64 0], .bool false]) (by simp [results, Tryd.results36, go_sem, u0, u1, u2, u3, u4, u5]) rfl ⟨HBZ.out, .inl ⟨HNO.out, rfl⟩⟩
            · have hw4 := hw
              have HNS : Hid (stepOf h vs = none) := Lib.hid (by unfold stepOf; rw [if_neg (fun e => hw1 e.1), if_neg hw2, if_neg (fun e => hw3 e.1), if_neg (fun e => hw4 e.1)])
              have e1 : (h == [105, 110, 112, 117, 116]) = false := by rw [beq_eq_false_iff_ne]; exact hw1
              have e2 : (h == [99, 121, 99, 108, 101]) = false := by rw [beq_eq_false_iff_ne]; exact hw2
              have e3 : (h == [114, 101, 115, 111, 108, 118, 101]) = false := by rw [beq_eq_false_iff_ne]; exact hw3
              have e4 : (h == [115, 116, 101, 112]) = false := by rw [beq_eq_false_iff_ne]; exact hw4
              clear hw hw1 hw2 hw3 hw4
              have HNO : Hid (stepP line = none) := Lib.hid (by rw [HSP.out]; exact HNS.out)
              have KK := HRBW.out
              have HBK := HBW
              have c0 := KK.cell 0
              have c1q := KK.cell 1
              have c2 := KK.cell 2
              have c3 := KK.cell 3
              have c4 := KK.cell 4
              have c5 := KK.cell 5
              have z0 := KK.frozen 0
              have z1 := KK.frozen 1
              have z2 := KK.frozen 2
              have z3 := KK.frozen 3
              have z4 := KK.frozen 4
              have z5 := KK.frozen 5
              simp only [List.getElem?_toArray, List.getElem?_cons_zero, List.getElem?_cons_succ] at c0 c1q c2 c3 c4 c5
              have U := blk_st6 KK (.int .i64 0) (.int .i64 0) (.slice none 0 0) (.int .i64 0) (.int .i64 0) (.int .i64 0)
              have HBZ := below_st6 HBK.out (.int .i64 0) (.int .i64 0) (.slice none 0 0) (.int .i64 0) (.int .i64 0) (.int .i64 0)
              have HGZ := grown_st6 wr w.heap.size (.int .i64 0) (.int .i64 0) (.slice none 0 0) (.int .i64 0) (.int .i64 0) (.int .i64 0)
              unfold st6 at U HBZ HGZ
              have HU := Lib.hid U
              have HBZ := Lib.hid HBZ
              have HGZ := Lib.hid HGZ
              clear U KK
              go_wp2_with fail
              clear c0 c1q c2 c3 c4 c5 z0 z1 z2 z3 z4 z5
              generalize (((((wr.setCell ⟨w.heap.size, 0, none⟩ (.int .i64 0)).setCell ⟨w.heap.size, 1, none⟩ (.int .i64 0)).setCell ⟨w.heap.size, 2, none⟩ (.slice none 0 0)).setCell ⟨w.heap.size, 3, none⟩ (.int .i64 0)).setCell ⟨w.heap.size, 4, none⟩ (.int .i64 0)).setCell ⟨w.heap.size, 5, none⟩ (.int .i64 0) = W9 at *
              have u0 := HU.out.cell 0
              have u1 := HU.out.cell 1
              have u2 := HU.out.cell 2
              have u3 := HU.out.cell 3
              have u4 := HU.out.cell 4
              have u5 := HU.out.cell 5
              simp only [List.getElem?_toArray, List.getElem?_cons_zero, List.getElem?_cons_succ] at u0 u1 u2 u3 u4 u5
              exact bodyPost_ret (v := .tuple #[.agg #[.int .i64 0, .int .i64 0, .slice none 0 0, .int .i64 0, .int .i64 0, .int .i64 0], .bool false]) (by simp [results, Tryd.results36, go_sem, u0, u1, u2, u3, u4, u5]) rfl ⟨HBZ.out, .inl ⟨HNO.out, rfl⟩⟩
end Go.Proofs.YtfffalfnjficaaaDoor
