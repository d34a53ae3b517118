/-
  WALK: interleavelaw39.ReportCounts.
-/
import Derived.Test.YtccpelfnkjckiaaDoorFndRow
import Derived.Test.YtccpelfnkjckiaaDoorRepDesc
import Derived.Test.YtccpelfnkjckiaaDoorRepGrpR
import Derived.Test.YtccpelfnkjckiaaDoorMake
import Derived.Deep.RegionHeld3
import Derived.Deep.QuietTactic
import Derived.BigQuiet
namespace Go.Proofs.YtccpelfnkjckiaaDoor
open Go.RowKit

/-- How many of the first k findings a report counts. -/
def cntR (fs : List Fnd) (k : Nat) (r : Rep) : Nat := (withKey (fs.take k) r.key).length
def cntL (fs : List Fnd) (rs : List Rep) (k : Nat) : List Int := rs.map fun r => (cntR fs k r : Int)
def cntM (fs : List Fnd) (rs : List Rep) (k j : Nat) : List Int := (cntL fs rs (k + 1)).take j ++ (cntL fs rs k).drop j
def fnumR (rs : List Rep) (f : Fnd) (j : Nat) : Nat := ((rs.take j).filter fun r => decide (r.key = f.key)).length
section
variable {fs : List Fnd} {rs : List Rep} {k j : Nat} {f : Fnd} {r : Rep}
theorem cntR_succ (h : fs[k]? = some f) (r : Rep) : cntR fs (k + 1) r = cntR fs k r + if f.found && decide (f.key = r.key) then 1 else 0 := by
  unfold cntR withKey
  rw [take_succ_of h, List.filter_append, List.length_append]
  by_cases hc : (f.found && decide (f.key = r.key)) = true
  · simp [hc]
  · simp [hc]
theorem cntR_le : cntR fs k r ≤ fs.length := by
  unfold cntR withKey
  have h1 := List.length_filter_le (fun f : Fnd => f.found && decide (f.key = r.key)) (fs.take k)
  have h2 := List.length_take_le' k fs
  omega
theorem cntL_len : (cntL fs rs k).length = rs.length := by simp [cntL]
theorem cntL_zero : cntL fs rs 0 = List.replicate rs.length 0 := by
  unfold cntL cntR withKey
  rw [List.eq_replicate_iff]
  refine ⟨by simp, fun b hb => ?_⟩
  obtain ⟨r, _, rfl⟩ := List.mem_map.1 hb
  simp
theorem cntL_skip (h : fs[k]? = some f) (hf : f.found = false) : cntL fs rs (k + 1) = cntL fs rs k := by
  unfold cntL
  refine List.map_congr_left fun r _ => ?_
  rw [cntR_succ h, hf]; simp
theorem cntL_at (h : rs[j]? = some r) : (cntL fs rs k)[j]? = some (cntR fs k r : Int) := by unfold cntL; rw [List.getElem?_map, h]; rfl
theorem cntM_zero : cntM fs rs k 0 = cntL fs rs k := by simp [cntM]
theorem cntM_end : cntM fs rs k rs.length = cntL fs rs (k + 1) := by
  unfold cntM
  rw [List.take_of_length_le (by rw [cntL_len]; exact Nat.le_refl _), List.drop_of_length_le (by rw [cntL_len]; exact Nat.le_refl _), List.append_nil]
theorem cntM_at (h : rs[j]? = some r) : (cntM fs rs k j)[j]? = some (cntR fs k r : Int) := by
  have hj := (List.getElem?_eq_some_iff.1 h).1
  unfold cntM
  rw [List.getElem?_append_right (by rw [List.length_take, cntL_len]; omega), List.length_take, cntL_len, List.getElem?_drop, show j + (j - min j rs.length) = j by omega]
  exact cntL_at h
theorem cntM_set (h : rs[j]? = some r) : (cntM fs rs k j).set j (cntR fs (k + 1) r : Int) = cntM fs rs k (j + 1) := by
  have hj := (List.getElem?_eq_some_iff.1 h).1
  have e1 := cntL_at (fs := fs) (k := k + 1) h
  unfold cntM
  rw [List.set_append_right _ _ (by rw [List.length_take, cntL_len]; omega), List.length_take, cntL_len, show j - min j rs.length = 0 by omega, List.drop_eq_getElem_cons (by rw [cntL_len]; exact hj), List.set_cons_zero, take_succ_of e1]
  simp
theorem cntM_hit (h : rs[j]? = some r) (hf : fs[k]? = some f) (h1 : f.found = true) (h2 : f.key = r.key) : (cntM fs rs k j).set j ((cntR fs k r : Int) + 1) = cntM fs rs k (j + 1) := by
  rw [← cntM_set h, cntR_succ hf, h1, h2]; simp
theorem cntM_miss (h : rs[j]? = some r) (hf : fs[k]? = some f) (h2 : f.key ≠ r.key) : cntM fs rs k (j + 1) = cntM fs rs k j := by
  rw [← cntM_set h, cntR_succ hf, decide_eq_false h2, Bool.and_false, if_neg (by simp), Nat.add_zero]
  have e := cntM_at (fs := fs) (k := k) h
  obtain ⟨h3, h4⟩ := List.getElem?_eq_some_iff.1 e
  rw [← h4, List.set_getElem_self]
theorem fnumR_succ (h : rs[j]? = some r) : fnumR rs f (j + 1) = fnumR rs f j + if r.key = f.key then 1 else 0 := by
  unfold fnumR
  rw [take_succ_of h, List.filter_append, List.length_append]
  by_cases hc : r.key = f.key <;> simp [hc]
theorem fnumR_le : fnumR rs f j ≤ rs.length := by
  unfold fnumR
  have h1 := List.length_filter_le (fun r : Rep => decide (r.key = f.key)) (rs.take j)
  have h2 := List.length_take_le' j rs
  omega
theorem one_key (K : List Int) : ∀ l : List Rep, l.Pairwise (fun a b => a.key ≠ b.key) → (l.filter fun r => decide (r.key = K)).length ≤ 1 := by
  intro l
  induction l with
  | nil => intro _; simp
  | cons a t ih =>
    intro h
    obtain ⟨h1, h2⟩ := List.pairwise_cons.1 h
    have h3 := ih h2
    by_cases hk : a.key = K
    · have h4 : (t.filter fun r => decide (r.key = K)) = [] := by
        rw [List.filter_eq_nil_iff]
        intro b hb
        have := h1 b hb
        rw [hk] at this
        simpa using fun e => this e.symm
      rw [List.filter_cons, if_pos (by simpa using hk), h4]; simp
    · rw [List.filter_cons, if_neg (by simpa using hk)]; exact h3
theorem fnumR_all (h : AllDesc fs rs) (hf : f ∈ fs) (hfd : f.found = true) : fnumR rs f rs.length = 1 := by
  unfold fnumR
  rw [List.take_of_length_le (Nat.le_refl _)]
  have h1 := one_key f.key rs h.keys
  obtain ⟨r, hr, hk⟩ := h.all f hf hfd
  have h2 : r ∈ rs.filter fun r => decide (r.key = f.key) := by rw [List.mem_filter]; exact ⟨hr, by simpa using hk⟩
  have h3 := List.length_pos_of_mem h2
  omega
theorem cntL_count (h : AllDesc fs rs) (hr : rs[j]? = some r) : (cntL fs rs fs.length)[j]? = some r.count := by
  rw [cntL_at hr, (h.desc r (List.mem_of_getElem? hr)).count]
  unfold cntR
  rw [List.take_of_length_le (Nat.le_refl _)]
end
theorem key_iff {f : Fnd} {r : Rep} : f.key = r.key ↔ f.kind = r.kind ∧ f.sites = r.sites := by
  unfold Fnd.key Rep.key
  constructor
  · intro h; injection h with h1 h2; exact ⟨h1, h2⟩
  · rintro ⟨h1, h2⟩; rw [h1, h2]

set_option maxRecDepth 100000 in
set_option maxHeartbeats 8000000 in
theorem lawRCounts (v : Value) (xs : List (FIn × (Option Addr × Nat))) (w : World) (h : FIns w v xs) (hT : Tab w) (hW : WordsAt w) :
    Calls Tryd.prog 10 #[v] w fun e w' => e = .returned (.bool true) ∧ Below w.heap.size w w' := by
  have HAW := Lib.hid (awake39_from hT hW)
  have HFI := Lib.hid h
  clear hT hW h
  go_enter Tryd.func10, Tryd.ntmps10
  go_wp2_with fail
  refine (findings_any v xs w HFI.out).mono ?_
  rintro e w1 ⟨fv, ps, rfl, hown, hl, hb1⟩
  obtain ⟨A, c, rfl, h1, h2, hr, hok, hs⟩ := hown.fnds
  have HB1 := Lib.hid hb1
  have HR := Lib.hid hr
  have HOK := Lib.hid hok
  have HP4 : Hid (∀ q ∈ ps, q.1.sites.length ≤ 4) := Lib.hid hs
  unfold maxLen at h2
  clear hb1 hr hok hs hown
  go_wp2_with fail
  refine (group_any ps A c w1 HR.out HOK.out (by omega) (fun q hq => by have := HP4.out q hq; omega)).mono ?_
  rintro e w2 ⟨av, qs, rfl, hown, hrep, hb2⟩
  obtain ⟨Aq, cq, rfl, aq1, aq2, hrdq⟩ := owns_rd hown.1
  obtain ⟨hq30, hq4⟩ := reports_small hrep HP4.out
  rw [List.length_map] at hq30
  have HRQ := Lib.hid hrdq
  have HOWN := Lib.hid hown
  have HAD := Lib.hid (allDesc hrep)
  have HB2 := Lib.hid hb2
  have HB02 : Hid (Below w.heap.size w w2) := Lib.hid (HB1.out.trans (hb2.mono HB1.out.size))
  have mk := mk_ints qs.length (by omega)
  unfold maxLen at aq2
  clear hown hrep hb2 hrdq hq4
  go_wp2_with fail
  clear mk
  have hb3 : Below w2.heap.size w2 (w2.alloc (.cells (rowI (List.replicate qs.length 0)) 3)) := by go_grown
  have B3 := Blk.new w2 3 (rowI (List.replicate qs.length 0))
  generalize w2.alloc (.cells (rowI (List.replicate qs.length 0)) 3) = w3 at *
  have HB3 := Lib.hid hb3
  have HC3 : Hid (Blk w3 w2.heap.size 3 (rowI (cntL (ps.map (·.1)) (qs.map (·.1)) 0))) := Lib.hid (by rw [cntL_zero, List.length_map]; exact B3)
  clear hb3 B3
  go_loopw [22] (fun kv wr => ∃ k : Nat, k ≤ ps.length ∧ kv = .int .i64 k ∧ Hid (Below w2.heap.size w2 wr) ∧ Hid (Blk wr w2.heap.size 3 (rowI (cntL (ps.map (·.1)) (qs.map (·.1)) k)))) (fun kv _ => ps.length - (intOf kv).toNat)
  case atStart => exact ⟨0, by omega, rfl, HB3, HC3⟩
  case round =>
    clear HB3 HC3
    obtain ⟨k, hk, rfl, HBK, HCK⟩ := hrel
    obtain ⟨wo, hwo⟩ : ∃ wo : World, wo = wr := ⟨_, rfl⟩
    rw [← hwo] at HBK HCK ⊢
    clear hwo
    by_cases hlt : k < ps.length
    · have lk : (k : Int) < ps.length := by omega
      obtain ⟨p, hp⟩ : ∃ q, ps[k]? = some q := ⟨_, List.getElem?_eq_getElem hlt⟩
      have HPK : Hid ((ps.map (·.1))[k]? = some p.1) := Lib.hid (by rw [List.getElem?_map, hp]; rfl)
      have HPO := Lib.hid ((HOK.out p (List.mem_of_getElem? hp)).keep HB2.out)
      obtain ⟨b, off, rfl, hbb, hci⟩ := Fnds.at_ ((HR.out.keep HB2.out).keep HBK.out) hp
      obtain ⟨⟨st, kd, fd, wl, ss⟩, pm⟩ := p
      obtain ⟨k0, k1, k2, k3, k4, k5, k6, k7, k8, k9, k10, k11⟩ := hci
      simp only at k0 k1 k2 k3 k4 k5 k6 k7 k8 k9 k10 k11
      clear hp
      cases fd
      · go_wp2_with fail
        go_roundw
        case rel => exact ⟨k + 1, by omega, by go_num, Lib.hid (HBK.out.alloc HBK.out.size _), Lib.hid (by rw [cntL_skip HPK.out rfl]; exact HCK.out.alloc _)⟩
        case measure => simp [intOf]; omega
      · go_wp2_with fail
        have hb5 : Below w2.heap.size w2 (wo.alloc (.cells #[.int .i64 st, .int .i64 kd, .int .i64 pm.a, .int .i64 pm.b, .int .i64 pm.c, .int .i64 pm.d, .slice pm.cA pm.cn pm.cc, .bool true, .slice pm.wA wl pm.wc, .slice pm.pA pm.pn pm.pc, .int .i64 pm.r, .slice pm.sA ss.length pm.sc] 58)) := HBK.out.alloc HBK.out.size _
        have X5 := Blk.new wo 58 #[.int .i64 st, .int .i64 kd, .int .i64 pm.a, .int .i64 pm.b, .int .i64 pm.c, .int .i64 pm.d, .slice pm.cA pm.cn pm.cc, .bool true, .slice pm.wA wl pm.wc, .slice pm.pA pm.pn pm.pc, .int .i64 pm.r, .slice pm.sA ss.length pm.sc]
        have C5 := HCK.out.alloc (.cells #[.int .i64 st, .int .i64 kd, .int .i64 pm.a, .int .i64 pm.b, .int .i64 pm.c, .int .i64 pm.d, .slice pm.cA pm.cn pm.cc, .bool true, .slice pm.wA wl pm.wc, .slice pm.pA pm.pn pm.pc, .int .i64 pm.r, .slice pm.sA ss.length pm.sc] 58)
        generalize wo.alloc (.cells #[.int .i64 st, .int .i64 kd, .int .i64 pm.a, .int .i64 pm.b, .int .i64 pm.c, .int .i64 pm.d, .slice pm.cA pm.cn pm.cc, .bool true, .slice pm.wA wl pm.wc, .slice pm.pA pm.pn pm.pc, .int .i64 pm.r, .slice pm.sA ss.length pm.sc] 58) = W5 at *
        have HB5 := Lib.hid hb5
        have HX5 := Lib.hid X5
        have HC5 : Hid (Blk W5 w2.heap.size 3 (rowI (cntM (ps.map (·.1)) (qs.map (·.1)) k 0))) := Lib.hid (by rw [cntM_zero]; exact C5)
        have HXB : Hid (w2.heap.size < wo.heap.size) := Lib.hid HCK.out.lt
        clear hb5 X5 C5 k0 k1 k2 k3 k4 k5 k6 k7 k8 k9 k10 k11
        go_loopw [8, 32] (fun nv jv wi => ∃ j N : Nat, j ≤ qs.length ∧ jv = .int .i64 j ∧ nv = .int .i64 N ∧ N ≤ 1000000 ∧ Hid (N = fnumR (qs.map (·.1)) ⟨st, kd, true, wl, ss⟩ j) ∧ Hid (Below w2.heap.size w2 wi) ∧ Hid (Blk wi w2.heap.size 3 (rowI (cntM (ps.map (·.1)) (qs.map (·.1)) k j))) ∧ Hid (Blk wi wo.heap.size 58 #[.int .i64 st, .int .i64 kd, .int .i64 pm.a, .int .i64 pm.b, .int .i64 pm.c, .int .i64 pm.d, .slice pm.cA pm.cn pm.cc, .bool true, .slice pm.wA wl pm.wc, .slice pm.pA pm.pn pm.pc, .int .i64 pm.r, .slice pm.sA ss.length pm.sc])) (fun _ jv _ => qs.length - (intOf jv).toNat)
        case atStart => exact ⟨0, 0, by omega, rfl, rfl, by omega, Lib.hid (by simp [fnumR]), HB5, HC5, HX5⟩
        case round =>
          clear HB5 HC5 HX5
          obtain ⟨j, N, hj, rfl, rfl, hN, HN, HB5, HC5, HX5⟩ := hrel
          by_cases hjl : j < qs.length
          · have lj : (j : Int) < qs.length := by omega
            obtain ⟨q, hq⟩ : ∃ q, qs[j]? = some q := ⟨_, List.getElem?_eq_getElem hjl⟩
            have HQJ : Hid ((qs.map (·.1))[j]? = some q.1) := Lib.hid (by rw [List.getElem?_map, hq]; rfl)
            obtain ⟨hqs, hqt, hqo⟩ := HOWN.out.2 q (List.mem_of_getElem? hq)
            obtain ⟨bq, oq, rfl, hbq, hcq⟩ := Reps.at_ (HRQ.out.keep HB5.out) hq
            obtain ⟨⟨rk, rs, rt, rc, rb, rsc⟩, sv, tv⟩ := q
            obtain ⟨A1, c1, e1, -, -, -, -⟩ := id hqs
            obtain ⟨A2, c2, e2, -, -, -, -⟩ := id hqt
            simp only at e1 e2 hqs hqt hcq
            subst e1 e2
            have HQS := Lib.hid (hqs.ints.keep HB5.out)
            have HSS := Lib.hid ((HPO.out.1).keep HB5.out)
            simp only at HSS
            obtain ⟨m0, m1, m2, m3, m4, m5⟩ := hcq
            simp only at m0 m1 m2 m3 m4 m5
            clear hq hqs hqt hqo
            go_upto_region 12 with fail
            have hb6 : Below w2.heap.size w2 (wr.alloc (.cells #[.int .i64 rk, .slice A1 rs.length c1, .slice A2 rt.length c2, .int .i64 rc, .int .i64 rb, .int .i64 rsc] 61)) := HB5.out.alloc HB5.out.size _
            have R6 := Blk.new wr 61 #[.int .i64 rk, .slice A1 rs.length c1, .slice A2 rt.length c2, .int .i64 rc, .int .i64 rb, .int .i64 rsc]
            have C6 := HC5.out.alloc (.cells #[.int .i64 rk, .slice A1 rs.length c1, .slice A2 rt.length c2, .int .i64 rc, .int .i64 rb, .int .i64 rsc] 61)
            have X6 := HX5.out.alloc (.cells #[.int .i64 rk, .slice A1 rs.length c1, .slice A2 rt.length c2, .int .i64 rc, .int .i64 rb, .int .i64 rsc] 61)
            have q6 : Ints (wr.alloc (.cells #[.int .i64 rk, .slice A1 rs.length c1, .slice A2 rt.length c2, .int .i64 rc, .int .i64 rb, .int .i64 rsc] 61)) (.slice A1 rs.length c1) rs := HQS.out.keep (by go_grown)
            have s6 : Ints (wr.alloc (.cells #[.int .i64 rk, .slice A1 rs.length c1, .slice A2 rt.length c2, .int .i64 rc, .int .i64 rb, .int .i64 rsc] 61)) (.slice pm.sA ss.length pm.sc) ss := HSS.out.keep (by go_grown)
            generalize wr.alloc (.cells #[.int .i64 rk, .slice A1 rs.length c1, .slice A2 rt.length c2, .int .i64 rc, .int .i64 rb, .int .i64 rsc] 61) = W6 at *
            have HB6 := Lib.hid hb6
            have HC6 := Lib.hid C6
            have HX6 := Lib.hid X6
            have HQ6 := Lib.hid q6
            have HS6 := Lib.hid s6
            have r0 := R6.cell 0
            have r1 := R6.cell 1
            have x1 := X6.cell 1
            have x11 := X6.cell 11
            simp only [List.getElem?_toArray, List.getElem?_cons_zero, List.getElem?_cons_succ] at r0 r1 x1 x11
            obtain ⟨cN, hcN⟩ : ∃ cN, cntR (ps.map (·.1)) k ⟨rk, rs, rt, rc, rb, rsc⟩ = cN := ⟨_, rfl⟩
            have hcN30 : cN ≤ 30 := by
              have h := cntR_le (fs := ps.map (·.1)) (k := k) (r := ⟨rk, rs, rt, rc, rb, rsc⟩)
              rw [List.length_map] at h; omega
            have HCN := Lib.hid hcN
            clear hb6 C6 X6 q6 s6 R6 m0 m1 m2 m3 m4 m5 hcN HB5 HC5 HX5 HQS HSS
            by_cases hkd : rk = kd
            · subst hkd
              have e1 : (rk == rk) = true := by simp
              by_cases hs : rs = ss
              · have HSM : Hid (Calls Tryd.prog 28 #[.slice A1 rs.length c1, .slice pm.sA ss.length pm.sc] W6 fun e w' => e = .returned (.bool true) ∧ ∃ n, w' = W6.drewN n) := Lib.hid ((same_any _ _ rs ss W6 HQ6.out HS6.out).mono fun e w' h => ⟨by rw [h.1, decide_eq_true hs], h.2⟩)
                have HKY : Hid ((⟨st, rk, true, wl, ss⟩ : Fnd).key = (⟨rk, rs, rt, rc, rb, rsc⟩ : Rep).key) := Lib.hid (key_iff.2 ⟨rfl, hs.symm⟩)
                clear hs
                go_wp2_with fail
                refine HSM.out.mono ?_
                rintro e w' ⟨rfl, n, rfl⟩
                have hb7 : Below w2.heap.size w2 (W6.drewN n) := bdrew HB6.out n
                have C7 : Blk (W6.drewN n) w2.heap.size 3 (rowI (cntM (ps.map (·.1)) (qs.map (·.1)) k j)) := HC6.out
                have X7 : Blk (W6.drewN n) wo.heap.size 58 #[.int .i64 st, .int .i64 rk, .int .i64 pm.a, .int .i64 pm.b, .int .i64 pm.c, .int .i64 pm.d, .slice pm.cA pm.cn pm.cc, .bool true, .slice pm.wA wl pm.wc, .slice pm.pA pm.pn pm.pc, .int .i64 pm.r, .slice pm.sA ss.length pm.sc] := HX6.out
                generalize W6.drewN n = W7 at *
                have y0 := C7.cell j
                rw [rowI_at (cntM_at HQJ.out), HCN.out] at y0
                have y1 := C7.frozen j
                have HC7 : Hid (Blk (W7.setCell ⟨w2.heap.size, j, none⟩ (.int .i64 ((cN : Int) + 1))) w2.heap.size 3 (rowI (cntM (ps.map (·.1)) (qs.map (·.1)) k (j + 1)))) := Lib.hid (by
                  rw [← cntM_hit HQJ.out HPK.out rfl HKY.out, HCN.out]
                  exact C7.setI j ((cN : Int) + 1))
                have HX7 : Hid (Blk (W7.setCell ⟨w2.heap.size, j, none⟩ (.int .i64 ((cN : Int) + 1))) wo.heap.size 58 #[.int .i64 st, .int .i64 rk, .int .i64 pm.a, .int .i64 pm.b, .int .i64 pm.c, .int .i64 pm.d, .slice pm.cA pm.cn pm.cc, .bool true, .slice pm.wA wl pm.wc, .slice pm.pA pm.pn pm.pc, .int .i64 pm.r, .slice pm.sA ss.length pm.sc]) := Lib.hid (X7.far (by have := HXB.out; show wo.heap.size ≠ w2.heap.size; omega) _)
                have HB7 : Hid (Below w2.heap.size w2 (W7.setCell ⟨w2.heap.size, j, none⟩ (.int .i64 ((cN : Int) + 1)))) := Lib.hid (hb7.setCell (Nat.le_refl _) _)
                have HN2 : Hid (N + 1 = fnumR (qs.map (·.1)) ⟨st, rk, true, wl, ss⟩ (j + 1)) := Lib.hid (by rw [fnumR_succ HQJ.out, if_pos HKY.out.symm, HN.out])
                have hN2 : N ≤ 30 := by
                  have h := fnumR_le (rs := qs.map (·.1)) (f := ⟨st, rk, true, wl, ss⟩) (j := j)
                  rw [List.length_map, ← HN.out] at h; omega
                clear hb7 C7 X7
                go_wp2_with fail
                go_roundw
                case rel => exact ⟨j + 1, N + 1, by omega, by go_num, by go_num, by omega, HN2, HB7, HC7, HX7⟩
                case measure => simp [intOf]; omega
              · have HSM : Hid (Calls Tryd.prog 28 #[.slice A1 rs.length c1, .slice pm.sA ss.length pm.sc] W6 fun e w' => e = .returned (.bool false) ∧ ∃ n, w' = W6.drewN n) := Lib.hid ((same_any _ _ rs ss W6 HQ6.out HS6.out).mono fun e w' h => ⟨by rw [h.1, decide_eq_false hs], h.2⟩)
                have HKY : Hid ((⟨st, rk, true, wl, ss⟩ : Fnd).key ≠ (⟨rk, rs, rt, rc, rb, rsc⟩ : Rep).key) := Lib.hid (fun e => hs (key_iff.1 e).2.symm)
                have HN2 : Hid (N = fnumR (qs.map (·.1)) ⟨st, rk, true, wl, ss⟩ (j + 1)) := Lib.hid (by rw [fnumR_succ HQJ.out, if_neg (fun e => HKY.out e.symm), HN.out]; rfl)
                clear hs
                go_wp2_with fail
                refine HSM.out.mono ?_
                rintro e w' ⟨rfl, n, rfl⟩
                have HC7 : Hid (Blk (W6.drewN n) w2.heap.size 3 (rowI (cntM (ps.map (·.1)) (qs.map (·.1)) k (j + 1)))) := Lib.hid (by rw [cntM_miss HQJ.out HPK.out HKY.out]; exact HC6.out)
                have HX7 : Hid (Blk (W6.drewN n) wo.heap.size 58 #[.int .i64 st, .int .i64 rk, .int .i64 pm.a, .int .i64 pm.b, .int .i64 pm.c, .int .i64 pm.d, .slice pm.cA pm.cn pm.cc, .bool true, .slice pm.wA wl pm.wc, .slice pm.pA pm.pn pm.pc, .int .i64 pm.r, .slice pm.sA ss.length pm.sc]) := Lib.hid HX6.out
                have HB7 : Hid (Below w2.heap.size w2 (W6.drewN n)) := Lib.hid (bdrew HB6.out n)
                go_wp2_with fail
                go_roundw
                case rel => exact ⟨j + 1, N, by omega, by go_num, rfl, by omega, HN2, HB7, HC7, HX7⟩
                case measure => simp [intOf]; omega
            · have e1 : (rk == kd) = false := by rw [beq_eq_false_iff_ne]; exact hkd
              have HKY : Hid ((⟨st, kd, true, wl, ss⟩ : Fnd).key ≠ (⟨rk, rs, rt, rc, rb, rsc⟩ : Rep).key) := Lib.hid (fun e => hkd (key_iff.1 e).1.symm)
              have HN2 : Hid (N = fnumR (qs.map (·.1)) ⟨st, kd, true, wl, ss⟩ (j + 1)) := Lib.hid (by rw [fnumR_succ HQJ.out, if_neg (fun e => HKY.out e.symm), HN.out]; rfl)
              have HC7 : Hid (Blk W6 w2.heap.size 3 (rowI (cntM (ps.map (·.1)) (qs.map (·.1)) k (j + 1)))) := Lib.hid (by rw [cntM_miss HQJ.out HPK.out HKY.out]; exact HC6.out)
              clear hkd
              go_wp2_with fail
              go_roundw
              case rel => exact ⟨j + 1, N, by omega, by go_num, rfl, by omega, HN2, HB6, HC7, HX6⟩
              case measure => simp [intOf]; omega
          · have lj : ¬ (j : Int) < qs.length := by omega
            have hjn : j = qs.length := by omega
            have hN1 : N = 1 := by
              have h := HN.out
              rw [hjn] at h
              have h2 := fnumR_all HAD.out (List.mem_of_getElem? HPK.out) rfl
              rw [List.length_map] at h2
              omega
            have HC7 : Hid (Blk wr w2.heap.size 3 (rowI (cntL (ps.map (·.1)) (qs.map (·.1)) (k + 1)))) := Lib.hid (by
              have h := HC5.out
              rw [hjn] at h
              have e := cntM_end (fs := ps.map (·.1)) (rs := qs.map (·.1)) (k := k)
              rw [List.length_map] at e
              rwa [e] at h)
            clear hjn HN
            subst hN1
            go_wp2_with fail
            go_roundw
            case rel => exact ⟨k + 1, by omega, by go_num, HB5, HC7⟩
            case measure => simp [intOf]; omega
    · have lk : ¬ (k : Int) < ps.length := by omega
      have hkn : k = ps.length := by omega
      have HCF : Hid (Blk wo w2.heap.size 3 (rowI (cntL (ps.map (·.1)) (qs.map (·.1)) (ps.map (·.1)).length))) := Lib.hid (by
        have h := HCK.out
        rw [hkn] at h
        rwa [List.length_map])
      clear hkn
      go_wp2_with fail
      go_loopw [65] (fun iv wr => ∃ i : Nat, i ≤ qs.length ∧ iv = .int .i64 i ∧ Hid (Below w2.heap.size w2 wr) ∧ Hid (Blk wr w2.heap.size 3 (rowI (cntL (ps.map (·.1)) (qs.map (·.1)) (ps.map (·.1)).length)))) (fun iv _ => qs.length - (intOf iv).toNat)
      case atStart => exact ⟨0, by omega, rfl, HBK, HCF⟩
      case round =>
        clear HBK HCK HCF
        obtain ⟨i, hi, rfl, HBI, HCI⟩ := hrel
        by_cases hil : i < qs.length
        · have li : (i : Int) < qs.length := by omega
          obtain ⟨q, hq⟩ : ∃ q, qs[i]? = some q := ⟨_, List.getElem?_eq_getElem hil⟩
          have HQI : Hid ((qs.map (·.1))[i]? = some q.1) := Lib.hid (by rw [List.getElem?_map, hq]; rfl)
          obtain ⟨hqs, hqt, hqo⟩ := HOWN.out.2 q (List.mem_of_getElem? hq)
          have hqr : IsRep wr (.agg #[.int .i64 q.1.kind, q.2.1, q.2.2, .int .i64 q.1.count, .int .i64 q.1.best, .int .i64 q.1.score]) q.1 := ⟨_, _, rfl, hqs.ints.keep HBI.out, hqt.ints.keep HBI.out, hqo⟩
          obtain ⟨bq, oq, rfl, hbq, hcq⟩ := Reps.at_ (HRQ.out.keep HBI.out) hq
          have HDS := Lib.hid (HAD.out.desc q.1 (List.mem_of_getElem? HQI.out))
          obtain ⟨⟨rk, rs, rt, rc, rb, rsc⟩, sv, tv⟩ := q
          obtain ⟨A1, c1, e1, -, -, -, -⟩ := id hqs
          obtain ⟨A2, c2, e2, -, -, -, -⟩ := id hqt
          simp only at e1 e2 hcq hqr
          subst e1 e2
          obtain ⟨B, f, hBf, hBe, hBm, hBl, hBs⟩ := HDS.out.best
          simp only at hBe hBs
          subst hBe
          have HSC : Hid (scoreOf rk rt.length f.wl = rsc) := Lib.hid hBs.symm
          rw [List.getElem?_map] at hBf
          obtain ⟨p, hp, rfl⟩ := Option.map_eq_some_iff.1 hBf
          have hBlt : B < ps.length := (List.getElem?_eq_some_iff.1 hp).1
          obtain ⟨bf, ofs, rfl, hbbf, hcf⟩ := Fnds.at_ ((HR.out.keep HB2.out).keep HBI.out) hp
          obtain ⟨-, -, -, -, -, -, -, -, k8, -, -, -⟩ := hcf
          have hcnt : (cntL (ps.map (·.1)) (qs.map (·.1)) (ps.map (·.1)).length)[i]? = some rc := cntL_count HAD.out HQI.out
          have hc1 : (1 : Int) ≤ rc := by
            have h1 := HDS.out.count
            have h2 := List.length_pos_iff.2 HDS.out.ne
            simp only at h1 h2
            omega
          obtain ⟨m0, m1, m2, m3, m4, m5⟩ := hcq
          simp only at m0 m1 m2 m3 m4 m5
          have HQR := Lib.hid hqr
          have HBF := Lib.hid hbbf
          clear hq hqs hqt hqo hqr hBf hBm hBl hp hbbf hbq hBs
          go_upto_region 22 with fail
          have hb6 : Below w2.heap.size w2 (wr.alloc (.cells #[.int .i64 rk, .slice A1 rs.length c1, .slice A2 rt.length c2, .int .i64 rc, .int .i64 (B : Int), .int .i64 rsc] 61)) := HBI.out.alloc HBI.out.size _
          have hw6 : Below wr.heap.size wr (wr.alloc (.cells #[.int .i64 rk, .slice A1 rs.length c1, .slice A2 rt.length c2, .int .i64 rc, .int .i64 (B : Int), .int .i64 rsc] 61)) := by go_grown
          have R6 := Blk.new wr 61 #[.int .i64 rk, .slice A1 rs.length c1, .slice A2 rt.length c2, .int .i64 rc, .int .i64 (B : Int), .int .i64 rsc]
          have C6 := HCI.out.alloc (.cells #[.int .i64 rk, .slice A1 rs.length c1, .slice A2 rt.length c2, .int .i64 rc, .int .i64 (B : Int), .int .i64 rsc] 61)
          have q6 : IsRep (wr.alloc (.cells #[.int .i64 rk, .slice A1 rs.length c1, .slice A2 rt.length c2, .int .i64 rc, .int .i64 (B : Int), .int .i64 rsc] 61)) (.agg #[.int .i64 rk, .slice A1 rs.length c1, .slice A2 rt.length c2, .int .i64 rc, .int .i64 (B : Int), .int .i64 rsc]) ⟨rk, rs, rt, rc, (B : Int), rsc⟩ := HQR.out.keep (by go_grown)
          generalize wr.alloc (.cells #[.int .i64 rk, .slice A1 rs.length c1, .slice A2 rt.length c2, .int .i64 rc, .int .i64 (B : Int), .int .i64 rsc] 61) = W6 at *
          have k8' : W6.cell? ⟨bf, ofs + B * 12 + 8, none⟩ = some (.slice p.2.wA p.1.wl p.2.wc) := (hw6.cell (p := ⟨bf, ofs + B * 12 + 8, none⟩) HBF.out).trans k8
          have y0 := C6.cell i
          rw [rowI_at hcnt] at y0
          have HB6 := Lib.hid hb6
          have HW6 := Lib.hid hw6
          have HR6 := Lib.hid R6
          have HC6 := Lib.hid C6
          have HQ6 := Lib.hid q6
          have HY0 := Lib.hid y0
          have HK8 := Lib.hid k8'
          have HSCA : Hid (∀ w', Calls Tryd.prog 16 #[.int .i64 rk, .int .i64 rt.length, .int .i64 p.1.wl] w' fun e w2 => e = .returned (.int .i64 rsc) ∧ w' = w2) := Lib.hid (fun w' => (score_any rk rt.length p.1.wl w').mono fun e w2 h => ⟨by rw [h.1, HSC.out], h.2⟩)
          have lB : (B : Int) < ps.length := by omega
          clear hb6 hw6 R6 C6 q6 y0 k8 k8' hcnt
          by_cases hi0 : i = 0
          · have l0 : ¬ (0 : Int) < i := by omega
            have HSOF : Hid (∀ w', Below W6.heap.size W6 w' → w'.cell? ⟨wr.heap.size, 0, none⟩ = some (.int .i64 rk) ∧ w'.cell? ⟨wr.heap.size, 1, none⟩ = some (.slice A1 rs.length c1) ∧ w'.cell? ⟨wr.heap.size, 2, none⟩ = some (.slice A2 rt.length c2) ∧ w'.cell? ⟨wr.heap.size, 3, none⟩ = some (.int .i64 rc) ∧ w'.cell? ⟨wr.heap.size, 4, none⟩ = some (.int .i64 (B : Int)) ∧ w'.cell? ⟨wr.heap.size, 5, none⟩ = some (.int .i64 rsc) ∧ w'.cell? ⟨w2.heap.size, i, none⟩ = some (.int .i64 rc) ∧ w'.cell? ⟨bf, ofs + B * 12 + 8, none⟩ = some (.slice p.2.wA p.1.wl p.2.wc)) := Lib.hid (fun w' h => ⟨(HR6.out.keep h).cell 0, (HR6.out.keep h).cell 1, (HR6.out.keep h).cell 2, (HR6.out.keep h).cell 3, (HR6.out.keep h).cell 4, (HR6.out.keep h).cell 5, (h.cell (p := ⟨w2.heap.size, i, none⟩) HC6.out.lt).trans HY0.out, (h.cell (p := ⟨bf, ofs + B * 12 + 8, none⟩) (by have h1 := HBF.out; have h2 := HW6.out.size; show bf < _; omega)).trans HK8.out⟩)
            clear hi0
            have d0 : (rc != rc) = false := by simp
            have d1 : decide (rc < 1) = false := by simpa using hc1
            have d2 : decide ((B : Int) < 0) = false := by simp
            have d3 : decide ((ps.length : Int) ≤ (B : Int)) = false := by simp; omega
            have d3' : decide (ps.length ≤ B) = false := by simpa using hBlt
            have d5 : (rsc != rsc) = false := by simp
            have d4 : decide ((0 : Int) < (i : Int)) = false := by simpa using l0
            have d4' : decide (0 < i) = false := by simp; omega
            have hs0 := HSOF.out _ (Below.refl _ _)
            obtain ⟨z0, z1, z2, z3, z4, z5, z6, z7⟩ := hs0
            have HSCB : Hid (∀ w', Calls Tryd.prog 16 #[.int .i64 rk, .int .i64 rt.length, .int .i64 p.1.wl] w' fun e w2 => e = .returned (.int .i64 rsc) ∧ w2 = w') := Lib.hid (fun w' => (HSCA.out w').mono fun e w2 h => ⟨h.1, h.2.symm⟩)
            go_quiet ((go_at_call 16; exact Calls.quiet_of_same (HSCB.out _)))
            go_wp2_with fail
            go_roundw
            case rel => exact ⟨i + 1, by omega, by go_num, Lib.hid (bdrew HB6.out _), Lib.hid HC6.out⟩
            case measure => simp [intOf]; omega
          · obtain ⟨m, hm⟩ : ∃ m, i = m + 1 := ⟨i - 1, by omega⟩
            obtain ⟨q', hq'⟩ : ∃ q, qs[m]? = some q := ⟨_, List.getElem?_eq_getElem (by omega)⟩
            have hlr : lessR q'.1 ⟨rk, rs, rt, rc, (B : Int), rsc⟩ = true := by
              have h1 := List.pairwise_iff_getElem.1 HAD.out.ord m i (by rw [List.length_map]; omega) (by rw [List.length_map]; omega) (by omega)
              obtain ⟨h2, h3⟩ := List.getElem?_eq_some_iff.1 HQI.out
              obtain ⟨h4, h5⟩ := List.getElem?_eq_some_iff.1 hq'
              rw [h3] at h1
              simp only [List.getElem_map, h5] at h1
              exact h1
            obtain ⟨hqs, hqt, hqo⟩ := HOWN.out.2 q' (List.mem_of_getElem? hq')
            have hqr : IsRep wr (.agg #[.int .i64 q'.1.kind, q'.2.1, q'.2.2, .int .i64 q'.1.count, .int .i64 q'.1.best, .int .i64 q'.1.score]) q'.1 := ⟨_, _, rfl, hqs.ints.keep HBI.out, hqt.ints.keep HBI.out, hqo⟩
            obtain ⟨bq', oq', eqq, hbq', hcq'⟩ := Reps.at_ (HRQ.out.keep HBI.out) hq'
            injection eqq with eqq
            injection eqq with eq1 eq2 _
            subst eq1 eq2
            obtain ⟨⟨pk, px, pt, pc, pb, psc⟩, pv, pw⟩ := q'
            obtain ⟨A3, c3, e3, -, -, -, -⟩ := id hqs
            obtain ⟨A4, c4, e4, -, -, -, -⟩ := id hqt
            simp only at e3 e4 hcq' hqr hlr
            subst e3 e4
            have HQP := Lib.hid (hqr.keep HW6.out)
            have HBQ := Lib.hid hbq'
            have HP : Hid (W6.cell? ⟨bq, oq + m * 6, none⟩ = some (.int .i64 pk) ∧ W6.cell? ⟨bq, oq + m * 6 + 1, none⟩ = some (.slice A3 px.length c3) ∧ W6.cell? ⟨bq, oq + m * 6 + 2, none⟩ = some (.slice A4 pt.length c4) ∧ W6.cell? ⟨bq, oq + m * 6 + 3, none⟩ = some (.int .i64 pc) ∧ W6.cell? ⟨bq, oq + m * 6 + 4, none⟩ = some (.int .i64 pb) ∧ W6.cell? ⟨bq, oq + m * 6 + 5, none⟩ = some (.int .i64 psc)) := Lib.hid (hcq'.keep HW6.out hbq')
            have HSOF : Hid (∀ w', Below W6.heap.size W6 w' → w'.cell? ⟨wr.heap.size, 0, none⟩ = some (.int .i64 rk) ∧ w'.cell? ⟨wr.heap.size, 1, none⟩ = some (.slice A1 rs.length c1) ∧ w'.cell? ⟨wr.heap.size, 2, none⟩ = some (.slice A2 rt.length c2) ∧ w'.cell? ⟨wr.heap.size, 3, none⟩ = some (.int .i64 rc) ∧ w'.cell? ⟨wr.heap.size, 4, none⟩ = some (.int .i64 (B : Int)) ∧ w'.cell? ⟨wr.heap.size, 5, none⟩ = some (.int .i64 rsc) ∧ w'.cell? ⟨w2.heap.size, i, none⟩ = some (.int .i64 rc) ∧ w'.cell? ⟨bf, ofs + B * 12 + 8, none⟩ = some (.slice p.2.wA p.1.wl p.2.wc) ∧ w'.cell? ⟨bq, oq + m * 6, none⟩ = some (.int .i64 pk) ∧ w'.cell? ⟨bq, oq + m * 6 + 1, none⟩ = some (.slice A3 px.length c3) ∧ w'.cell? ⟨bq, oq + m * 6 + 2, none⟩ = some (.slice A4 pt.length c4) ∧ w'.cell? ⟨bq, oq + m * 6 + 3, none⟩ = some (.int .i64 pc) ∧ w'.cell? ⟨bq, oq + m * 6 + 4, none⟩ = some (.int .i64 pb) ∧ w'.cell? ⟨bq, oq + m * 6 + 5, none⟩ = some (.int .i64 psc)) := Lib.hid (fun w' h => ⟨(HR6.out.keep h).cell 0, (HR6.out.keep h).cell 1, (HR6.out.keep h).cell 2, (HR6.out.keep h).cell 3, (HR6.out.keep h).cell 4, (HR6.out.keep h).cell 5, (h.cell (p := ⟨w2.heap.size, i, none⟩) HC6.out.lt).trans HY0.out, (h.cell (p := ⟨bf, ofs + B * 12 + 8, none⟩) (by have h1 := HBF.out; have h2 := HW6.out.size; show bf < _; omega)).trans HK8.out, (h.cell (p := ⟨bq, oq + m * 6, none⟩) (by have h1 := HBQ.out; have h2 := HW6.out.size; show bq < _; omega)).trans HP.out.1, (h.cell (p := ⟨bq, oq + m * 6 + 1, none⟩) (by have h1 := HBQ.out; have h2 := HW6.out.size; show bq < _; omega)).trans HP.out.2.1, (h.cell (p := ⟨bq, oq + m * 6 + 2, none⟩) (by have h1 := HBQ.out; have h2 := HW6.out.size; show bq < _; omega)).trans HP.out.2.2.1, (h.cell (p := ⟨bq, oq + m * 6 + 3, none⟩) (by have h1 := HBQ.out; have h2 := HW6.out.size; show bq < _; omega)).trans HP.out.2.2.2.1, (h.cell (p := ⟨bq, oq + m * 6 + 4, none⟩) (by have h1 := HBQ.out; have h2 := HW6.out.size; show bq < _; omega)).trans HP.out.2.2.2.2.1, (h.cell (p := ⟨bq, oq + m * 6 + 5, none⟩) (by have h1 := HBQ.out; have h2 := HW6.out.size; show bq < _; omega)).trans HP.out.2.2.2.2.2⟩)
            have HLR := Lib.hid hlr
            have HLS : Hid (∀ w', Below W6.heap.size W6 w' → Calls Tryd.prog 23 #[(.agg #[.int .i64 pk, .slice A3 px.length c3, .slice A4 pt.length c4, .int .i64 pc, .int .i64 pb, .int .i64 psc]), (.agg #[.int .i64 rk, .slice A1 rs.length c1, .slice A2 rt.length c2, .int .i64 rc, .int .i64 (B : Int), .int .i64 rsc])] w' fun e w2 => e = .returned (.bool true) ∧ Below W6.heap.size W6 w2) := Lib.hid (fun w' h => (less_any _ _ _ _ w' (HQP.out.keep h) (HQ6.out.keep h)).mono fun e w2 r => ⟨by rw [r.1, HLR.out], h.trans (r.2.below.mono h.size)⟩)
            have l0 : (0 : Int) < i := by omega
            have lm : (m : Int) < qs.length := by omega
            have lm0 : (0 : Int) ≤ m := by omega
            have hmi : ((i : Int) - 1) = (m : Int) := by omega
            have d4 : decide ((0 : Int) < (i : Int)) = true := by simpa using l0
            have d4' : decide (0 < i) = true := by simp; omega
            have d0 : (rc != rc) = false := by simp
            have d1 : decide (rc < 1) = false := by simpa using hc1
            have d2 : decide ((B : Int) < 0) = false := by simp
            have d3 : decide ((ps.length : Int) ≤ (B : Int)) = false := by simp; omega
            have d3' : decide (ps.length ≤ B) = false := by simpa using hBlt
            have d5 : (rsc != rsc) = false := by simp
            have t1 : IntKind.i64.wrap ((i : Int) - 1) = (m : Int) := by rw [IntWalk.i64_in _ (by omega)]; exact hmi
            clear hi0 hm hq' hlr hqs hqt hqo hqr hbq' hcq' hmi
            have hs0 := HSOF.out _ (Below.refl _ _)
            obtain ⟨z0, z1, z2, z3, z4, z5, z6, z7, z8, z9, z10, z11, z12, z13⟩ := hs0
            go_region_held3 (fun w' => w'.cell? ⟨wr.heap.size, 0, none⟩ = some (.int .i64 rk) ∧ w'.cell? ⟨wr.heap.size, 1, none⟩ = some (.slice A1 rs.length c1) ∧ w'.cell? ⟨wr.heap.size, 2, none⟩ = some (.slice A2 rt.length c2) ∧ w'.cell? ⟨wr.heap.size, 3, none⟩ = some (.int .i64 rc) ∧ w'.cell? ⟨wr.heap.size, 4, none⟩ = some (.int .i64 (B : Int)) ∧ w'.cell? ⟨wr.heap.size, 5, none⟩ = some (.int .i64 rsc) ∧ w'.cell? ⟨w2.heap.size, i, none⟩ = some (.int .i64 rc) ∧ w'.cell? ⟨bf, ofs + B * 12 + 8, none⟩ = some (.slice p.2.wA p.1.wl p.2.wc) ∧ w'.cell? ⟨bq, oq + m * 6, none⟩ = some (.int .i64 pk) ∧ w'.cell? ⟨bq, oq + m * 6 + 1, none⟩ = some (.slice A3 px.length c3) ∧ w'.cell? ⟨bq, oq + m * 6 + 2, none⟩ = some (.slice A4 pt.length c4) ∧ w'.cell? ⟨bq, oq + m * 6 + 3, none⟩ = some (.int .i64 pc) ∧ w'.cell? ⟨bq, oq + m * 6 + 4, none⟩ = some (.int .i64 pb) ∧ w'.cell? ⟨bq, oq + m * 6 + 5, none⟩ = some (.int .i64 psc)) (first | assumption | exact HSOF.out _ (Below.refl _ _).drew) (first
              | (go_at_call 23; (with_reducible refine (HLS.out _ (by exact (Below.refl _ _).drew)).mono ?_); rintro e w4 ⟨rfl, hb4⟩; have hs4 := HSOF.out _ hb4)
              | (go_at_call 16; (with_reducible refine (HSCA.out _).mono ?_); rintro e w5 ⟨rfl, rfl⟩))
            have HB7 : Hid (Below w2.heap.size w2 w4) := Lib.hid (HB6.out.trans (hb4.mono HB6.out.size))
            have HC7 := Lib.hid (HC6.out.keep hb4)
            clear hs4 hb4 t1
            go_wp2_with fail
            go_roundw
            case rel => exact ⟨i + 1, by omega, by go_num, HB7, HC7⟩
            case measure => simp [intOf]; omega
        · have li : ¬ (i : Int) < qs.length := by omega
          have HBF : Hid (Below w.heap.size w wr) := Lib.hid (HB02.out.trans (HBI.out.mono HB02.out.size))
          go_wp2_with fail
          refine (HAW.out _ HBF.out).mono ?_
          rintro e w' ⟨rfl, hb⟩
          have HB := Lib.hid hb
          clear hb
          go_wp2_with fail
          go_ret
          exact ⟨rfl, HB.out⟩
end Go.Proofs.YtccpelfnkjckiaaDoor
