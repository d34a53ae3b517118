/-
  WALKS: interleaveref31.contains and interleaveref31.Resolvent.
-/
import Derived.Test.YtfffalfnjficaaaGreatDoorPs19
import Derived.Test.YtfffalfnjficaaaGreatDoorPs43
namespace Go.Proofs.YtfffalfnjficaaaGreatDoor
open Go.RowKit

set_option maxRecDepth 100000 in
theorem rcontains_any (v : Value) (zs : List Int) (x : Int) (w : World) (hv : Ints w v zs) :
    Calls Tryz.prog 61 #[v, .int .i64 x] w fun e w' => e = .returned (.bool (decide (x ∈ zs))) ∧ w = w' := by
  obtain ⟨A, c, rfl, h1, h2, h3, hr⟩ := hv
  unfold maxLen at h2
  have HR := Lib.hid hr
  clear h3 hr
  go_enter Tryz.func61, Tryz.ntmps61
  go_wp2_with fail
  go_loop [9] (fun i => ∃ k : Nat, k ≤ zs.length ∧ i = .int .i64 k ∧ x ∉ zs.take k) (fun i => zs.length - (intOf i).toNat)
  case atStart => exact ⟨0, by omega, rfl, by simp⟩
  case round =>
    obtain ⟨k, hk, rfl, hno⟩ := hrel
    have HNO := Lib.hid hno
    clear hno
    by_cases hlt : k < zs.length
    · obtain ⟨y, hy⟩ : ∃ y, zs[k]? = some y := ⟨_, List.getElem?_eq_getElem hlt⟩
      obtain ⟨b, o, rfl, hb, hc⟩ := HR.out.int hy
      have HY := Lib.hid hy
      clear hy
      by_cases e : y = x
      · have de : (y == x) = true := by simp [e]
        have HIN : Hid (x ∈ zs) := e ▸ List.mem_of_getElem? HY.out
        clear e
        go_wp2_with fail
        go_ret
        exact ⟨ret_bool (by simp [HIN.out]), rfl⟩
      · have de : (y == x) = false := by simp [e]
        have HN : Hid (x ∉ zs.take (k + 1)) := by
          refine Lib.hid ?_
          rw [take_succ_of HY.out]
          simp only [List.mem_append, List.mem_singleton, not_or]
          exact ⟨HNO.out, fun h => e h.symm⟩
        clear e
        go_wp2_with fail
        go_round
        case rel => exact ⟨k + 1, by omega, by go_num, HN.out⟩
        case measure => simp [intOf]; omega
    · have HN : Hid (x ∉ zs) := by
        have h := HNO.out
        rwa [List.take_of_length_le (by omega)] at h
      go_wp2_with fail
      go_ret
      exact ⟨ret_bool (by simp [HN.out]), rfl⟩

def neB (a x : Int) : Bool := decide (x ≠ a)
theorem filter_yes {l : List Int} {k : Nat} {x a : Int} (hk : l[k]? = some x) (h : x ≠ a) : (l.take (k + 1)).filter (neB a) = (l.take k).filter (neB a) ++ [x] := by
  rw [take_succ_of hk, List.filter_append]; simp [neB, h]
theorem filter_not {l : List Int} {k : Nat} {x a : Int} (hk : l[k]? = some x) (h : x = a) : (l.take (k + 1)).filter (neB a) = (l.take k).filter (neB a) := by
  rw [take_succ_of hk, List.filter_append]; simp [neB, h]

set_option maxRecDepth 100000 in
set_option maxHeartbeats 2000000 in
theorem rresolvent_any (pv qv : Value) (P Q : List Int) (v : Int) (w : World) (hp : Ints w pv P) (hq : Ints w qv Q) (hlP : P.length ≤ 500000) (hlQ : Q.length ≤ 500000) :
    Calls Tryz.prog 44 #[pv, qv, .int .i64 v] w (ClRet w (res P Q v)) := by
  have HP := Lib.hid hp
  have HQ := Lib.hid hq
  obtain ⟨A1, c1, rfl, p1, p2, p3, p4⟩ := hp
  obtain ⟨A2, c2, rfl, q1, q2, q3, q4⟩ := hq
  unfold maxLen at p2 q2
  have HRP := Lib.hid p4
  have HRQ := Lib.hid q4
  have HXP := Lib.hid p3
  have HXQ := Lib.hid q3
  clear p3 p4 q3 q4
  obtain ⟨iI, hiI, hzI0, hzI1, hzI2⟩ := info_parts info_int
  by_cases a1 : v < 0
  · have d1 : decide (v < 0) = true := by simpa using a1
    have HN : Hid (res P Q v = none) := by refine Lib.hid ?_; unfold res; rw [if_neg (by omega)]
    clear a1
    go_enter Tryz.func44, Tryz.ntmps44
    go_wp2_with fail
    go_ret2
    exact ClRet.no HN.out (Below.refl _ _)
  have d1 : decide (v < 0) = false := by simpa using a1
  by_cases a2 : 1024 ≤ v
  · have d2 : decide ((1024 : Int) ≤ v) = true := by simpa using a2
    have HN : Hid (res P Q v = none) := by refine Lib.hid ?_; unfold res; rw [if_neg (by omega)]
    clear a1 a2
    go_enter Tryz.func44, Tryz.ntmps44
    go_wp2_with fail
    go_ret2
    exact ClRet.no HN.out (Below.refl _ _)
  have d2 : decide ((1024 : Int) ≤ v) = false := by simpa using a2
  by_cases h3 : v + 1 ∈ P
  · by_cases h4 : -(v + 1) ∈ Q
    · have HN : Hid (res P Q v = norm (P.filter (neB (v + 1)) ++ Q.filter (neB (-(v + 1))))) := by refine Lib.hid ?_; unfold res; rw [if_pos ⟨by omega, by omega, h3, h4⟩]; rfl
      have e3 : Hid (decide (v + 1 ∈ P) = true) := by refine Lib.hid ?_; simpa using h3
      have e4 : Hid (decide (-(v + 1) ∈ Q) = true) := by refine Lib.hid ?_; simpa using h4
      clear h3 h4
      go_enter Tryz.func44, Tryz.ntmps44
      go_wp2_with fail
      refine (rcontains_any _ P (v + 1) w HP.out).mono ?_
      rintro e w' ⟨rfl, rfl⟩
      rw [e3.out]
      go_wp2_with fail
      refine (rcontains_any _ Q (-(v + 1)) w HQ.out).mono ?_
      rintro e w' ⟨rfl, rfl⟩
      rw [e4.out]
      go_wp2_with fail
      go_loopw [8, 36] (fun o i wr => ∃ k : Nat, k ≤ P.length ∧ i = .int .i64 k ∧ Own wr w.heap.size o ((P.take k).filter (neB (v + 1))) ∧ Below w.heap.size w wr) (fun _ i _ => P.length - (intOf i).toNat)
      case atStart => exact ⟨0, by omega, rfl, ⟨World.ownsRow_nil _ _ _ _, by simp⟩, Below.refl _ _⟩
      case round =>
        obtain ⟨k, hk, rfl, how, hbw⟩ := hrel
        have HO := Lib.hid how
        have HB := Lib.hid hbw
        generalize hys : (P.take k).filter (neB (v + 1)) = ys at *
        have HYS := Lib.hid hys
        have hyl : ys.length ≤ k := by rw [← hys]; exact Nat.le_trans (List.length_filter_le _ _) (List.length_take_le _ _)
        obtain ⟨Ao, co, ho, -, -, -⟩ := owns_rd how.1
        subst ho
        have hsz := hbw.size
        clear hys how hbw
        by_cases hlt : k < P.length
        · obtain ⟨x, hx⟩ : ∃ x, P[k]? = some x := ⟨_, List.getElem?_eq_getElem hlt⟩
          obtain ⟨b1, o1, rfl, hb1, hc1⟩ := (HRP.out.keep HB.out).int hx
          have HX := Lib.hid hx
          clear hx
          by_cases e : x = v + 1
          · have de : (x != v + 1) = false := by simp [e]
            have HF := Lib.hid (filter_not (a := v + 1) HX.out e)
            clear e
            go_wp2_with fail
            go_roundw
            case rel => exact ⟨k + 1, by omega, by go_num, by rw [HF.out, HYS.out]; exact HO.out, HB.out⟩
            case measure => simp [intOf]; omega
          · have de : (x != v + 1) = true := by simp [e]
            have HF := Lib.hid (filter_yes (a := v + 1) HX.out e)
            clear e
            go_wp2_with (at_builtin; refine wpList_append_own_at _ rfl _ _ 44 rfl w.heap.size 3 iI (.int .i64 0) 1 8 Tryz.underlying44 hiI hzI0 hzI1 hzI2 rfl (by decide) _ _ _ rfl (HO.out.1.alloc _) ⟨wr.heap.size, 0, none⟩ 1 1 [.int .i64 x] rfl rfl ?a1 ?a2 ?a3 ?a4 ?a5 ?_)
            case a1 => exact one_at wr _ _
            case a2 => intro u hu; simp at hu; subst hu; rfl
            case a3 => unfold maxLen; omega
            case a4 => omega
            case a5 => simp; omega
            intro v' w2 hown' hgrow _ hat
            have HO2 : Hid (Own w2 w.heap.size v' ((P.take (k + 1)).filter (neB (v + 1)))) := by
              rw [HF.out, HYS.out]
              refine Lib.hid ⟨by simpa using hown', fun z hz => ?_⟩
              rcases List.mem_append.1 hz with hz | hz
              · exact HO.out.2 z hz
              · rw [List.mem_singleton] at hz; subst hz; exact HXP.out z (List.mem_of_getElem? HX.out)
            have HB2 : Hid (Below w.heap.size w w2) := (HB.out.alloc hsz _).grown hgrow (by simp; omega) (fun g hg => (HO.out.1.lt g hg).1)
            clear hown' hgrow hat
            go_wp2_with fail
            go_roundw
            case rel => exact ⟨k + 1, by omega, by go_num, HO2.out, HB2.out⟩
            case measure => simp [intOf]; omega
        · have hys2 : P.filter (neB (v + 1)) = ys := by rw [← HYS.out, List.take_of_length_le (by omega)]
          rw [hys2] at HN
          clear hys2
          go_wp2_with fail
          go_loopw [8, 51] (fun o i wr => ∃ k : Nat, k ≤ Q.length ∧ i = .int .i64 k ∧ Own wr w.heap.size o (ys ++ (Q.take k).filter (neB (-(v + 1)))) ∧ Below w.heap.size w wr) (fun _ i _ => Q.length - (intOf i).toNat)
          case atStart => exact ⟨0, by omega, rfl, by simpa using HO.out, HB.out⟩
          case round =>
            obtain ⟨j, hj, rfl, how, hbw⟩ := hrel
            obtain ⟨wo, rfl⟩ : ∃ wo : World, wo = wr := ⟨_, rfl⟩
            have HO3 := Lib.hid how
            have HB3 := Lib.hid hbw
            generalize hzs : ys ++ (Q.take j).filter (neB (-(v + 1))) = zs at *
            have HZS := Lib.hid hzs
            have hzl : zs.length ≤ ys.length + j := by rw [← hzs, List.length_append]; have := Nat.le_trans (List.length_filter_le (neB (-(v + 1))) (Q.take j)) (List.length_take_le _ _); omega
            obtain ⟨Az, cz, hz, -, -, -⟩ := owns_rd how.1
            subst hz
            have hsz3 := hbw.size
            clear hzs how hbw
            by_cases hjt : j < Q.length
            · obtain ⟨x, hx⟩ : ∃ x, Q[j]? = some x := ⟨_, List.getElem?_eq_getElem hjt⟩
              obtain ⟨b1, o1, rfl, hb1, hc1⟩ := (HRQ.out.keep HB3.out).int hx
              have HX := Lib.hid hx
              clear hx
              by_cases e : x = -(v + 1)
              · have de : (x != -(v + 1)) = false := by simp [e]
                have HF := Lib.hid (filter_not (a := -(v + 1)) HX.out e)
                clear e
                go_wp2_with fail
                go_roundw
                case rel => exact ⟨j + 1, by omega, by go_num, by rw [HF.out, HZS.out]; exact HO3.out, HB3.out⟩
                case measure => simp [intOf]; omega
              · have de : (x != -(v + 1)) = true := by simp [e]
                have HF := Lib.hid (filter_yes (a := -(v + 1)) HX.out e)
                clear e
                go_wp2_with (at_builtin; refine wpList_append_own_at _ rfl _ _ 44 rfl w.heap.size 3 iI (.int .i64 0) 1 8 Tryz.underlying44 hiI hzI0 hzI1 hzI2 rfl (by decide) _ _ _ rfl (HO3.out.1.alloc _) ⟨wo.heap.size, 0, none⟩ 1 1 [.int .i64 x] rfl rfl ?b1 ?b2 ?b3 ?b4 ?b5 ?_)
                case b1 => exact one_at wo _ _
                case b2 => intro u hu; simp at hu; subst hu; rfl
                case b3 => unfold maxLen; omega
                case b4 => omega
                case b5 => simp; omega
                intro v' w2 hown' hgrow _ hat
                have HO2 : Hid (Own w2 w.heap.size v' (ys ++ (Q.take (j + 1)).filter (neB (-(v + 1))))) := by
                  rw [HF.out, ← List.append_assoc, HZS.out]
                  refine Lib.hid ⟨by simpa using hown', fun z hz => ?_⟩
                  rcases List.mem_append.1 hz with hz | hz
                  · exact HO3.out.2 z hz
                  · rw [List.mem_singleton] at hz; subst hz; exact HXQ.out z (List.mem_of_getElem? HX.out)
                have HB2 : Hid (Below w.heap.size w w2) := (HB3.out.alloc hsz3 _).grown hgrow (by simp; omega) (fun g hg => (HO3.out.1.lt g hg).1)
                clear hown' hgrow hat
                go_wp2_with fail
                go_roundw
                case rel => exact ⟨j + 1, by omega, by go_num, HO2.out, HB2.out⟩
                case measure => simp [intOf]; omega
            · have hzs2 : ys ++ Q.filter (neB (-(v + 1))) = zs := by rw [← HZS.out, List.take_of_length_le (by omega)]
              rw [hzs2] at HN
              clear hzs2
              go_wp2_with fail
              refine (rnormal_any _ zs _ HO3.out.ints (by omega)).mono ?_
              intro e w3 hnr
              have hcl := NormRet.cl (w := w) hnr HN.out HB3.out
              clear hnr
              obtain ⟨v, rfl, h5, h6⟩ := hcl
              have H5 := Lib.hid h5
              have H6 := Lib.hid h6
              clear h5 h6
              go_wp2_with fail
              go_ret2
              exact ⟨v, rfl, H5.out, H6.out⟩
    · have HN : Hid (res P Q v = none) := by refine Lib.hid ?_; unfold res; rw [if_neg (fun h => h4 h.2.2.2)]
      have e3 : Hid (decide (v + 1 ∈ P) = true) := by refine Lib.hid ?_; simpa using h3
      have e4 : Hid (decide (-(v + 1) ∈ Q) = false) := by refine Lib.hid ?_; simpa using h4
      clear h3 h4
      go_enter Tryz.func44, Tryz.ntmps44
      go_wp2_with fail
      refine (rcontains_any _ P (v + 1) w HP.out).mono ?_
      rintro e w' ⟨rfl, rfl⟩
      rw [e3.out]
      go_wp2_with fail
      refine (rcontains_any _ Q (-(v + 1)) w HQ.out).mono ?_
      rintro e w' ⟨rfl, rfl⟩
      rw [e4.out]
      go_wp2_with fail
      go_ret2
      exact ClRet.no HN.out (Below.refl _ _)
  · have HN : Hid (res P Q v = none) := by refine Lib.hid ?_; unfold res; rw [if_neg (fun h => h3 h.2.2.1)]
    have e3 : Hid (decide (v + 1 ∈ P) = false) := by refine Lib.hid ?_; simpa using h3
    clear h3
    go_enter Tryz.func44, Tryz.ntmps44
    go_wp2_with fail
    refine (rcontains_any _ P (v + 1) w HP.out).mono ?_
    rintro e w' ⟨rfl, rfl⟩
    rw [e3.out]
    go_wp2_with fail
    go_ret2
    exact ClRet.no HN.out (Below.refl _ _)
end Go.Proofs.YtfffalfnjficaaaGreatDoor
