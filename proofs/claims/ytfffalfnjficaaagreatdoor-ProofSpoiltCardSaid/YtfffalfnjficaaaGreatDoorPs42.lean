/-
  WALK: interleaveref31.Cycle, at all constraints in their order.
-/
import Derived.Test.YtfffalfnjficaaaGreatDoorPs14
namespace Go.Proofs.YtfffalfnjficaaaGreatDoor
open Go.RowKit

set_option maxRecDepth 100000 in
set_option maxHeartbeats 2000000 in
theorem rcycle_any (lv cv : Value) (ds : List Diff) (w : World) (hl : Diffs w lv ds) (hc : Ints w cv (idx ds.length)) (hM : ∀ d ∈ ds, -1048577 ≤ d.c ∧ d.c ≤ 1048577) (hn : ds.length ≤ 1000000) :
    Calls Tryz.prog 64 #[lv, cv] w (CycRet w (cycB ds)) := by
  obtain ⟨A, c, rfl, h1, h2, h3, hr⟩ := hl
  obtain ⟨A2, c2, rfl, g1, g2, g3, hr2⟩ := hc
  rw [idx_len] at g1 ⊢
  unfold maxLen at h2 g2
  have HR := Lib.hid hr
  have HR2 := Lib.hid hr2
  have HM := Lib.hid hM
  clear h3 hr g3 hr2 hM
  have HC2 : Hid (∀ k, k < ds.length → ∃ b2 o2, A2 = some ⟨b2, o2, none⟩ ∧ w.cell? ⟨b2, o2 + k, none⟩ = some (.int .i64 (k : Int))) := by
    intro k hk
    obtain ⟨b2, o2, hA2, hb2, hc2⟩ := HR2.out (by simp [idx_len]; omega)
    exact ⟨b2, o2, hA2, hc2 k _ (by rw [List.getElem?_map, idx_at hk]; rfl)⟩
  go_enter Tryz.func64, Tryz.ntmps64
  go_wp2_with fail
  go_loopw [5, 11] (fun s i wr => ∃ (k n : Nat), k ≤ ds.length ∧ i = .int .i64 k ∧ s = .int .i64 (csum (ds.take k)) ∧ Linked ds k ∧ wr = w.drewN n) (fun _ i _ => ds.length - (intOf i).toNat)
  case atStart => exact ⟨0, 0, by omega, rfl, rfl, fun i a b h => by omega, rfl⟩
  case round =>
    obtain ⟨j, n, hj, rfl, rfl, hlink, rfl⟩ := hrel
    have HLK := Lib.hid hlink
    have hsb := csum_bound (M := 1048577) (ds := ds.take j) fun d hd => HM.out d (List.mem_of_mem_take hd)
    have hlen : (ds.take j).length ≤ j := List.length_take_le _ _
    have hs1 : -1048577000000 ≤ csum (ds.take j) ∧ csum (ds.take j) ≤ 1048577000000 := by omega
    obtain ⟨hs1, hs2⟩ := hs1
    clear hlink hsb hlen
    by_cases hjt : j < ds.length
    · obtain ⟨a, ha⟩ : ∃ x, ds[j]? = some x := ⟨_, List.getElem?_eq_getElem hjt⟩
      have hrl : (j + 1) % ds.length < ds.length := Nat.mod_lt _ (by omega)
      obtain ⟨b, hb⟩ : ∃ x, ds[(j + 1) % ds.length]? = some x := ⟨_, List.getElem?_eq_getElem hrl⟩
      obtain ⟨b1, o1, rfl, hb1, hx1, hy1, hz1⟩ := HR.out.diff ha
      obtain ⟨b1', o1', hA', hb1', hx2, hy2, hz2⟩ := HR.out.diff hb
      injection hA' with hA'
      injection hA' with e1 e2
      subst e1 e2
      obtain ⟨b2, o2, rfl, hcell⟩ := HC2.out j hjt
      obtain ⟨b2', o2', hA2', hcell2⟩ := HC2.out _ hrl
      injection hA2' with hA2'
      injection hA2' with e1 e2
      subst e1 e2
      have hca1 := (HM.out a (List.mem_of_getElem? ha)).1
      have hca2 := (HM.out a (List.mem_of_getElem? ha)).2
      have HLS : Hid (a.y = b.x → Linked ds (j + 1)) := fun e => linked_succ HLK.out ha hb e
      have HLN : Hid (a.y ≠ b.x → cycB ds = false) := fun e => cycB_no ha hb e
      have HCS := Lib.hid (csum_take ha)
      generalize hr : (j + 1) % ds.length = r at *
      have y1 : IntKind.i64.wrap ((j : Int) + 1) = (j : Int) + 1 := IntWalk.i64_in _ (by omega)
      have y2 : ((j : Int) + 1).tmod (ds.length : Int) = (r : Int) := by rw [Int.tmod_eq_emod_of_nonneg (by omega), ← hr]; simp
      have y2b : ((j : Int) + 1) % (ds.length : Int) = (r : Int) := by rw [← hr]; simp
      have y3 : IntKind.i64.wrap (r : Int) = (r : Int) := IntWalk.i64_in _ (by omega)
      have y4 : ¬ ds.length = 0 := by omega
      have d1 : decide ((r : Int) < 0) = false := by simp
      have d2 : decide ((ds.length : Int) ≤ (r : Int)) = false := by simp; omega
      clear ha hb hr hb1' hx1 hz2 hy2
      by_cases e : a.y = b.x
      · have de : (a.y != b.x) = false := by simp [e]
        have HN := Lib.hid (HLS.out e)
        have HE := Lib.hid e
        clear e
        go_wp2_with fail
        go_quiet (fail)
        clear y1 y2 y2b y3 y4
        go_wp2_with fail
        go_roundw
        case rel => exact ⟨j + 1, _, by omega, by go_num, by rw [HCS.out], HN.out, rfl⟩
        case measure => simp [intOf]; omega
      · have de : (a.y != b.x) = true := by simp [e]
        have HE := Lib.hid (HLN.out e)
        clear e
        go_wp2_with fail
        go_quiet (fail)
        clear y1 y2 y2b y3 y4
        go_wp2_with fail
        go_ret
        exact ⟨by rw [HE.out]; rfl, bdrew (bdrew (Below.refl _ _) _) _⟩
    · by_cases h0 : ds.length = 0
      · have HC : Hid (cycB ds = false) := by
          refine Lib.hid ?_
          unfold cycB; simp only [decide_eq_false_iff_not]; rintro ⟨h, _⟩; omega
        have d0 : decide ((0 : Int) < (ds.length : Int)) = false := by simp; exact List.eq_nil_of_length_eq_zero h0
        have d0' : decide (0 < ds.length) = false := by simp; exact List.eq_nil_of_length_eq_zero h0
        clear h0
        go_wp2_with fail
        go_ret
        exact ⟨by rw [HC.out]; rfl, bdrew (Below.refl _ _) _⟩
      · have HE := Lib.hid (cycB_yes (by omega) HLK.out (by omega))
        have d0 : decide ((0 : Int) < (ds.length : Int)) = true := by simp; omega
        have d0' : decide (0 < ds.length) = true := by simp; omega
        go_wp2_with fail
        go_ret
        exact ⟨by rw [HE.out]; rfl, bdrew (Below.refl _ _) _⟩
end Go.Proofs.YtfffalfnjficaaaGreatDoor
