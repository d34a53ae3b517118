/-
  WALK: interleavelaw39.ReportAny.
-/
import Derived.Test.YtccpelfnkjckiaaDoorAwake39
import Derived.Test.YtccpelfnkjckiaaDoorRepGrpR
import Derived.Test.YtccpelfnkjckiaaDoorRepSame
namespace Go.Proofs.YtccpelfnkjckiaaDoor
open Go.RowKit

/-- How many sites the findings have. -/
def sitesSum (ps : List (Fnd × FndM)) : Nat := (ps.map fun q => q.1.sites.length).sum
theorem sitesSum_succ {ps : List (Fnd × FndM)} {k : Nat} {q : Fnd × FndM} (h : ps[k]? = some q) : sitesSum (ps.take (k + 1)) = sitesSum (ps.take k) + q.1.sites.length := by
  rw [take_succ_of h]; simp [sitesSum]
theorem sitesSum_mem {ps : List (Fnd × FndM)} {q : Fnd × FndM} (h : q ∈ ps) : q.1.sites.length ≤ sitesSum ps := by
  unfold sitesSum
  induction ps with
  | nil => cases h
  | cons a t ih =>
    rcases List.mem_cons.1 h with rfl | h
    · simp
    · have := ih h; simp; omega

set_option maxRecDepth 100000 in
set_option maxHeartbeats 4000000 in
theorem lawRAny (ps : List (Fnd × FndM)) (A : Option Addr) (c : Nat) (w : World) (hr : Rd w A (ps.flatMap Fnd.cells)) (hok : ∀ q ∈ ps, FndOk w q) (hl : ps.length ≤ 17592186044416) (hs : ∀ q ∈ ps, q.1.sites.length ≤ 17592186044416) (hT : Tab w) (hW : WordsAt w) :
    Calls Tryd.prog 6 #[.slice A ps.length c] w fun e w' => e = .returned (.bool true) ∧ Below w.heap.size w w' := by
  have HAW := Lib.hid (awake39_from hT hW)
  have HR := Lib.hid hr
  have HOK := Lib.hid hok
  have HS := Lib.hid hs
  clear hT hW hr hok hs
  go_enter Tryd.func6, Tryd.ntmps6
  go_wp2_with fail
  go_loop [3, 4] (fun nv iv => ∃ i N : Nat, i ≤ ps.length ∧ iv = .int .i64 i ∧ nv = .int .i64 N ∧ N ≤ 17592186045416 ∧ Hid (N = ps.length + sitesSum (ps.take i))) (fun _ iv => ps.length - (intOf iv).toNat)
  case atStart => exact ⟨0, ps.length, by omega, rfl, rfl, by omega, Lib.hid (by simp [sitesSum])⟩
  case round =>
    obtain ⟨i, N, hi, rfl, rfl, hN, HN⟩ := hrel
    by_cases hgo : i < ps.length ∧ N < 1000
    · obtain ⟨hil, hNl⟩ := hgo
      obtain ⟨p, hp⟩ : ∃ q, ps[i]? = some q := ⟨_, List.getElem?_eq_getElem hil⟩
      obtain ⟨b, off, rfl, hbl, hci⟩ := Fnds.at_ HR.out hp
      have hsl := HS.out p (List.mem_of_getElem? hp)
      have HPP := Lib.hid hp
      obtain ⟨p, pm⟩ := p
      obtain ⟨-, -, -, -, -, -, -, -, -, -, -, k11⟩ := hci
      simp only at k11 hsl
      have li : (i : Int) < ps.length := by omega
      have lN : (N : Int) < 1000 := by omega
      clear hp
      go_wp2_with fail
      go_round
      case rel => exact ⟨i + 1, N + p.sites.length, by omega, by go_num, by go_num, by omega, Lib.hid (by rw [sitesSum_succ HPP.out, HN.out]; simp only; omega)⟩
      case measure => simp [intOf]; omega
    · have hex : Hid (N ≤ 300 → i = ps.length) := Lib.hid (fun h => by omega)
      have h2 : (i : Int) < ps.length → ¬ (N : Int) < 1000 := fun h1 h2 => hgo ⟨by omega, by omega⟩
      by_cases hil : i < ps.length
      · have li : (i : Int) < ps.length := by omega
        have lN : ¬ (N : Int) < 1000 := by omega
        have l3 : (300 : Int) < N := by omega
        clear hgo h2
        go_wp2_with fail
        refine (HAW.out _ (Below.refl _ _)).mono ?_
        rintro e w' ⟨rfl, hb⟩
        have HB := Lib.hid hb
        clear hb
        go_wp2_with fail
        go_ret
        exact ⟨rfl, HB.out⟩
      · have li : ¬ (i : Int) < ps.length := by omega
        by_cases h3 : 300 < N
        · have l3 : (300 : Int) < N := by omega
          clear hgo h2
          go_wp2_with fail
          refine (HAW.out _ (Below.refl _ _)).mono ?_
          rintro e w' ⟨rfl, hb⟩
          have HB := Lib.hid hb
          clear hb
          go_wp2_with fail
          go_ret
          exact ⟨rfl, HB.out⟩
        · have l3 : ¬ (300 : Int) < N := by omega
          have HPL : Hid (ps.length ≤ 1000000 ∧ ∀ q ∈ ps, q.1.sites.length ≤ 1000000) := Lib.hid (by
            have e := HN.out
            rw [hex.out (by omega), List.take_length] at e
            refine ⟨by omega, fun q hq => ?_⟩
            have := sitesSum_mem hq
            omega)
          clear hgo h2
          go_wp2_with fail
          refine (group_any ps A c w HR.out HOK.out HPL.out.1 HPL.out.2).mono ?_
          rintro e w2 ⟨v, qs, rfl, hown, hrep, hb2⟩
          have HB2 := Lib.hid hb2
          have HRP := Lib.hid hown.reps
          have HIR := Lib.hid hrep
          clear hown hrep hb2
          go_wp2_with fail
          refine (rgroup_any ps A c w2 (HR.out.keep HB2.out) (fun q hq => (HOK.out q hq).keep HB2.out) HPL.out.1 HPL.out.2).mono ?_
          rintro e w3 ⟨v', qs', rfl, hrq, hrep, hb3⟩
          have HB3 := Lib.hid (HB2.out.trans (hb3.mono HB2.out.size))
          have HR1 : Hid (Reps w3 v (qs.map (·.1))) := Lib.hid (HRP.out.keep hb3)
          have HR2 : Hid (Reps w3 v' (qs.map (·.1))) := Lib.hid (by rw [reports_unique HIR.out hrep]; exact hrq.reps)
          clear hrq hrep hb3
          go_wp2_with fail
          refine (srep_same v v' _ w3 HR1.out HR2.out).mono ?_
          rintro e w4 ⟨rfl, n, rfl⟩
          go_wp2_with fail
          refine (HAW.out _ (bdrew HB3.out n)).mono ?_
          rintro e w' ⟨rfl, hb⟩
          have HB := Lib.hid hb
          clear hb
          go_wp2_with fail
          go_ret
          exact ⟨rfl, HB.out⟩
end Go.Proofs.YtccpelfnkjckiaaDoor
