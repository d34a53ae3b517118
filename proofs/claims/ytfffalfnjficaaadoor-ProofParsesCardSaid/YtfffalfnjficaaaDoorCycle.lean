/-
  WALK: diff.Cycle, at all constraints in their order.
-/
import Derived.Test.YtfffalfnjficaaaDoorStep
import Derived.Test.YtfffalfnjficaaaDoorOwn
import Derived.IntWalk
namespace Go.Proofs.YtfffalfnjficaaaDoor
open Go.RowKit

/-- The numbers below n. -/
def idx (n : Nat) : List Int := (List.range n).map (fun i : Nat => (i : Int))
theorem idx_len (n : Nat) : (idx n).length = n := by simp [idx]
theorem idx_at {n k : Nat} (h : k < n) : (idx n)[k]? = some (k : Int) := by simp [idx, h]
theorem idx_succ (n : Nat) : idx (n + 1) = idx n ++ [(n : Int)] := by simp [idx, List.range_succ]

theorem csum_take {ds : List Diff} {k : Nat} {d : Diff} (h : ds[k]? = some d) : csum (ds.take (k + 1)) = csum (ds.take k) + d.c := by
  rw [take_succ_of h]; simp [csum]
theorem csum_bound {ds : List Diff} {M : Int} (h : ∀ d ∈ ds, -M ≤ d.c ∧ d.c ≤ M) : -(M * ds.length) ≤ csum ds ∧ csum ds ≤ M * ds.length := by
  induction ds with
  | nil => simp [csum]
  | cons d r ih =>
    have h1 := h d (by simp)
    have h2 := ih fun e he => h e (by simp [he])
    have h3 : M * ((d :: r).length : Int) = M * (r.length : Int) + M := by rw [List.length_cons, Int.natCast_succ, Int.mul_add, Int.mul_one]
    simp only [csum, List.map_cons, List.sum_cons] at h2 ⊢
    omega
theorem linked_succ {ds : List Diff} {k : Nat} (h : Linked ds k) {a b : Diff} (ha : ds[k]? = some a) (hb : ds[(k + 1) % ds.length]? = some b) (e : a.y = b.x) : Linked ds (k + 1) := by
  intro i x y hi hx hy
  by_cases hk : i = k
  · subst hk
    rw [ha] at hx; rw [hb] at hy
    injection hx with hx; injection hy with hy
    subst hx hy; exact e
  · exact h i x y (by omega) hx hy
theorem cycB_no {ds : List Diff} {k : Nat} {a b : Diff} (ha : ds[k]? = some a) (hb : ds[(k + 1) % ds.length]? = some b) (e : a.y ≠ b.x) : cycB ds = false := by
  unfold cycB
  simp only [decide_eq_false_iff_not]
  rintro ⟨_, h, _⟩
  exact e (h k a b (List.getElem?_eq_some_iff.1 ha).1 ha hb)
open Classical in
theorem cycB_yes {ds : List Diff} {k : Nat} (h0 : 0 < ds.length) (h : Linked ds k) (hk : ds.length ≤ k) : cycB ds = decide (csum (ds.take k) < 0) := by
  unfold cycB
  rw [List.take_of_length_le hk]
  refine decide_congr ⟨fun h => h.2.2, fun h' => ⟨h0, fun i a b hi => h i a b (by omega), h'⟩⟩

def CycRet (w : World) (b : Bool) (e : Ending) (w' : World) : Prop := e = .returned (.bool b) ∧ Below w.heap.size w w'

set_option maxRecDepth 100000 in
set_option maxHeartbeats 2000000 in
theorem fcycle_any (lv cv : Value) (ds : List Diff) (w : World) (hl : Diffs w lv ds) (hc : Ints w cv (idx ds.length)) (hM : ∀ d ∈ ds, -1048577 ≤ d.c ∧ d.c ≤ 1048577) (hn : ds.length ≤ 1000000) :
    Calls Tryd.prog 83 #[lv, cv] w (CycRet w (cycB ds)) := by
  obtain ⟨A, c, rfl, h1, h2, h3, hr⟩ := hl
  obtain ⟨A2, c2, rfl, g1, g2, g3, hr2⟩ := hc
  rw [idx_len] at g1 ⊢
  unfold maxLen at h2 g2
  have HR := Lib.hid hr
  have HR2 := Lib.hid hr2
  have HM := Lib.hid hM
  clear h3 hr g3 hr2 hM
  by_cases h0 : ds.length = 0
  · have HC : Hid (cycB ds = false) := by
      refine Lib.hid ?_
      unfold cycB; simp only [decide_eq_false_iff_not]; rintro ⟨h, _⟩; omega
    have d0 : ((ds.length : Int) == 0) = true := by simp; exact List.eq_nil_of_length_eq_zero h0
    clear h0
    go_enter Tryd.func83, Tryd.ntmps83
    go_wp2_with fail
    go_ret
    exact ⟨by rw [HC.out]; rfl, Below.refl _ _⟩
  · have d0 : ((ds.length : Int) == 0) = false := by simp; intro h; exact h0 (by rw [h]; rfl)
    have h0' : 0 < ds.length := by omega
    have HP : Hid (0 < ds.length) := h0'
    obtain ⟨b2, o2, hA2, hb2, hc2⟩ := HR2.out (by simp [idx_len]; omega)
    subst hA2
    have HC2 : Hid (∀ k, k < ds.length → w.cell? ⟨b2, o2 + k, none⟩ = some (.int .i64 (k : Int))) := fun k hk => hc2 k _ (by rw [List.getElem?_map, idx_at hk]; rfl)
    clear hc2 h0
    go_enter Tryd.func83, Tryd.ntmps83
    go_wp2_with fail
    go_loop [15] (fun i => ∃ k : Nat, k ≤ ds.length ∧ i = .int .i64 k) (fun i => ds.length - (intOf i).toNat)
    case atStart => exact ⟨0, by omega, rfl⟩
    case round =>
      obtain ⟨k, hk, rfl⟩ := hrel
      by_cases hlt : k < ds.length
      · have hcell := HC2.out k hlt
        go_wp2_with fail
        go_round
        case rel => exact ⟨k + 1, by omega, by go_num⟩
        case measure => simp [intOf]; omega
      · go_wp2_with fail
        go_loopw [7, 30] (fun s i wr => ∃ (k n : Nat), k ≤ ds.length ∧ i = .int .i64 k ∧ s = .int .i64 (csum (ds.take k)) ∧ Linked ds k ∧ wr = w.drewN n) (fun _ i _ => ds.length - (intOf i).toNat)
        case atStart => exact ⟨0, 0, by omega, rfl, rfl, fun i a b h => by omega, rfl⟩
        case round =>
          obtain ⟨j, n, hj, rfl, rfl, hlink, rfl⟩ := hrel
          have HLK := Lib.hid hlink
          have hsb := csum_bound (M := 1048577) (ds := ds.take j) fun d hd => HM.out d (List.mem_of_mem_take hd)
          have hlen : (ds.take j).length ≤ j := List.length_take_le _ _
          have hs1 : -1048577000000 ≤ csum (ds.take j) ∧ csum (ds.take j) ≤ 1048577000000 := by omega
          obtain ⟨hs1, hs2⟩ := hs1
          clear hlink hsb hlen
          by_cases hjt : j < ds.length
          · obtain ⟨a, ha⟩ : ∃ x, ds[j]? = some x := ⟨_, List.getElem?_eq_getElem hjt⟩
            have hrl : (j + 1) % ds.length < ds.length := Nat.mod_lt _ (by omega)
            obtain ⟨b, hb⟩ : ∃ x, ds[(j + 1) % ds.length]? = some x := ⟨_, List.getElem?_eq_getElem hrl⟩
            obtain ⟨b1, o1, rfl, hb1, hx1, hy1, hz1⟩ := HR.out.diff ha
            obtain ⟨b1', o1', hA', hb1', hx2, hy2, hz2⟩ := HR.out.diff hb
            injection hA' with hA'
            injection hA' with e1 e2
            subst e1 e2
            have hcell := HC2.out j hjt
            have hcell2 := HC2.out _ hrl
            have HA := Lib.hid ha
            have HB := Lib.hid hb
            have HCA := Lib.hid (HM.out a (List.mem_of_getElem? ha))
            have hca1 := HCA.out.1
            have hca2 := HCA.out.2
            have HLS : Hid (a.y = b.x → Linked ds (j + 1)) := fun e => linked_succ HLK.out ha hb e
            have HLN : Hid (a.y ≠ b.x → cycB ds = false) := fun e => cycB_no ha hb e
            have HCS := Lib.hid (csum_take ha)
            generalize hr : (j + 1) % ds.length = r at *
            have y1 : IntKind.i64.wrap ((j : Int) + 1) = (j : Int) + 1 := IntWalk.i64_in _ (by omega)
            have y2 : ((j : Int) + 1).tmod (ds.length : Int) = (r : Int) := by rw [Int.tmod_eq_emod_of_nonneg (by omega), ← hr]; simp
            have y3 : IntKind.i64.wrap (r : Int) = (r : Int) := IntWalk.i64_in _ (by omega)
            have y4 : ¬ ds.length = 0 := by omega
            clear ha hb hr hb1' hx1 hz2 hy2
            by_cases e : a.y = b.x
            · have de : (a.y != b.x) = false := by simp [e]
              have HN := Lib.hid (HLS.out e)
              have HE := Lib.hid e
              clear e
              go_wp2_with fail
              go_quiet (fail)
              clear y1 y2 y3 y4
              go_wp2_with fail
              go_roundw
              case rel => exact ⟨j + 1, _, by omega, by go_num, by rw [HCS.out], HN.out, rfl⟩
              case measure => simp [intOf]; omega
            · have de : (a.y != b.x) = true := by simp [e]
              have HE := Lib.hid (HLN.out e)
              clear e
              go_wp2_with fail
              go_quiet (fail)
              clear y1 y2 y3 y4
              go_wp2_with fail
              go_ret
              exact ⟨by rw [HE.out]; rfl, bdrew (bdrew (Below.refl _ _) _) _⟩
          · have HE := Lib.hid (cycB_yes HP.out HLK.out (by omega))
            go_wp2_with fail
            go_ret
            exact ⟨by rw [HE.out]; rfl, bdrew (Below.refl _ _) _⟩

end Go.Proofs.YtfffalfnjficaaaDoor
