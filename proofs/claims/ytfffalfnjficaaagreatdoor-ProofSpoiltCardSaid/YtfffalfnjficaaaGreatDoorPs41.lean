/-
  WALK: interleaveref31.Bound: the constraint of a literal.
-/
import Derived.Test.YtfffalfnjficaaaGreatDoorPs2
namespace Go.Proofs.YtfffalfnjficaaaGreatDoor
open Go.RowKit

section
variable (i j : Value) (av cv : Value) (ds : List Diff) (w : World)

theorem rbound_zero (hb : Diffs w av ds) :
    Calls Tryz.prog 29 #[.agg #[i, j, av, cv], .int .i64 0] w fun e w' => e = .returned (boundVal none) ∧ Below w.heap.size w w' := by
  obtain ⟨A, c, rfl, h1, h2, h3, hr⟩ := hb
  unfold maxLen at h2
  clear h3 hr
  go_enter Tryz.func29, Tryz.ntmps29
  go_wp2
  go_returns
  exact ⟨rfl, by go_grown⟩

theorem rbound_pos (n : Nat) (d : Diff) (hb : Diffs w av ds) (hd : ds[n]? = some d) (hl : n + 1 ≤ 9223372036854775807) :
    Calls Tryz.prog 29 #[.agg #[i, j, av, cv], .int .i64 ((n : Int) + 1)] w fun e w' => e = .returned (boundVal (some d)) ∧ Below w.heap.size w w' := by
  obtain ⟨A, c, rfl, h1, h2, h3, hr⟩ := hb
  unfold maxLen at h2
  have hlt : n < ds.length := (List.getElem?_eq_some_iff.1 hd).1
  obtain ⟨b1, o1, rfl, hb1, hc1, hc2, hc3⟩ := hr.diff hd
  obtain ⟨x, y, z⟩ := d
  clear hd h3 hr
  have hz : (((n : Int) + 1) == 0) = false := by simp; omega
  have hz2 : decide ((ds.length : Int) < (n : Int) + 1) = false := by simp; omega
  have hz3 : decide ((n : Int) + 1 < -(ds.length : Int)) = false := by simp; omega
  go_enter Tryz.func29, Tryz.ntmps29
  go_wp2
  go_returns
  exact ⟨rfl, by go_grown⟩

theorem rbound_over (n : Nat) (hb : Diffs w av ds) (hge : ds.length ≤ n) (hl : n + 1 ≤ 9223372036854775807) :
    Calls Tryz.prog 29 #[.agg #[i, j, av, cv], .int .i64 ((n : Int) + 1)] w fun e w' => e = .returned (boundVal none) ∧ Below w.heap.size w w' := by
  obtain ⟨A, c, rfl, h1, h2, h3, hr⟩ := hb
  unfold maxLen at h2
  clear h3 hr
  have hz : (((n : Int) + 1) == 0) = false := by simp; omega
  have hz2 : decide ((ds.length : Int) < (n : Int) + 1) = true := by simp; omega
  go_enter Tryz.func29, Tryz.ntmps29
  go_wp2
  go_returns
  exact ⟨rfl, by go_grown⟩

theorem rbound_neg (n : Nat) (d : Diff) (hb : Diffs w av ds) (hd : ds[n]? = some d) (hl : n + 1 ≤ 9223372036854775808) (hC : -9223372036854775807 ≤ d.c) :
    Calls Tryz.prog 29 #[.agg #[i, j, av, cv], .int .i64 (-((n : Int) + 1))] w fun e w' => e = .returned (boundVal (some d.opp)) ∧ Below w.heap.size w w' := by
  obtain ⟨A, c, rfl, h1, h2, h3, hr⟩ := hb
  unfold maxLen at h2
  have hlt : n < ds.length := (List.getElem?_eq_some_iff.1 hd).1
  obtain ⟨b1, o1, rfl, hb1, hc1, hc2, hc3⟩ := hr.diff hd
  obtain ⟨x, y, z⟩ := d
  obtain ⟨k1, k2⟩ := (h3 _ (List.mem_of_getElem? hd)).2.2
  simp only at hC k1 k2
  clear hd h3 hr
  have hz : ((-((n : Int) + 1)) == 0) = false := by simp; omega
  have hz2 : decide ((ds.length : Int) < -((n : Int) + 1)) = false := by simp; omega
  have hz3 : decide (-((n : Int) + 1) < -(ds.length : Int)) = false := by simp; omega
  go_enter Tryz.func29, Tryz.ntmps29
  go_wp2
  go_returns
  exact ⟨rfl, by go_grown⟩

theorem rbound_under (n : Nat) (hb : Diffs w av ds) (hge : ds.length ≤ n) (hl : n + 1 ≤ 9223372036854775808) :
    Calls Tryz.prog 29 #[.agg #[i, j, av, cv], .int .i64 (-((n : Int) + 1))] w fun e w' => e = .returned (boundVal none) ∧ Below w.heap.size w w' := by
  obtain ⟨A, c, rfl, h1, h2, h3, hr⟩ := hb
  unfold maxLen at h2
  clear h3 hr
  have hz : ((-((n : Int) + 1)) == 0) = false := by simp; omega
  have hz2 : decide ((ds.length : Int) < -((n : Int) + 1)) = false := by simp; omega
  have hz3 : decide (-((n : Int) + 1) < -(ds.length : Int)) = true := by simp; omega
  go_enter Tryz.func29, Tryz.ntmps29
  go_wp2
  go_returns
  exact ⟨rfl, by go_grown⟩

theorem rbound_any (lit : Int) (hb : Diffs w av ds) (hC : ∀ d ∈ ds, -9223372036854775807 ≤ d.c) (hl : I64 lit) :
    Calls Tryz.prog 29 #[.agg #[i, j, av, cv], .int .i64 lit] w fun e w' => e = .returned (boundVal (bound ds lit)) ∧ Below w.heap.size w w' := by
  obtain ⟨hl1, hl2⟩ := hl
  rcases lit_cases lit with rfl | ⟨n, rfl⟩ | ⟨n, rfl⟩
  · exact rbound_zero i j av cv ds w hb
  · rw [bound_pos]
    rcases Nat.lt_or_ge n ds.length with h | h
    · rw [List.getElem?_eq_getElem h]; exact rbound_pos i j av cv ds w n _ hb (List.getElem?_eq_getElem h) (by omega)
    · rw [List.getElem?_eq_none h]; exact rbound_over i j av cv ds w n hb h (by omega)
  · rw [bound_neg]
    rcases Nat.lt_or_ge n ds.length with h | h
    · rw [List.getElem?_eq_getElem h]; exact rbound_neg i j av cv ds w n _ hb (List.getElem?_eq_getElem h) (by omega) (hC _ (List.getElem_mem h))
    · rw [List.getElem?_eq_none h]; exact rbound_under i j av cv ds w n hb h (by omega)

end
end Go.Proofs.YtfffalfnjficaaaGreatDoor
