/-
  WALKS: formula.Bound and interleaveref31.Bound: the constraint of a literal.
-/
import Derived.Test.YtfffalfnjficaaaDoorModel
namespace Go.Proofs.YtfffalfnjficaaaDoor
open Go.RowKit

/-- A constraint: X, Y, C. -/
structure Diff where
  x : Int
  y : Int
  c : Int

def Diff.cells (d : Diff) : List Value := [.int .i64 d.x, .int .i64 d.y, .int .i64 d.c]
def Diff.val (d : Diff) : Value := .agg #[.int .i64 d.x, .int .i64 d.y, .int .i64 d.c]
def Diff.ok (d : Diff) : Prop := I64 d.x ∧ I64 d.y ∧ I64 d.c

/-- The value v is a slice of the constraints ds. -/
def Diffs (w : World) (v : Value) (ds : List Diff) : Prop :=
  ∃ A c, v = .slice A ds.length c ∧ ds.length ≤ c ∧ c ≤ maxLen ∧ (∀ d ∈ ds, d.ok) ∧ Rd w A (ds.flatMap Diff.cells)

theorem Diffs.keep {w w' : World} {v : Value} {xs : List Diff} (h : Diffs w v xs) (hb : Below w.heap.size w w') : Diffs w' v xs := by
  obtain ⟨A, c, hv, hl, hm, hx, hr⟩ := h
  exact ⟨A, c, hv, hl, hm, hx, hr.keep hb⟩

theorem flat_at {ds : List Diff} {k : Nat} {d : Diff} (h : ds[k]? = some d) :
    (ds.flatMap Diff.cells)[k * 3]? = some (.int .i64 d.x) ∧ (ds.flatMap Diff.cells)[k * 3 + 1]? = some (.int .i64 d.y) ∧ (ds.flatMap Diff.cells)[k * 3 + 2]? = some (.int .i64 d.c) := by
  induction ds generalizing k with
  | nil => simp at h
  | cons e r ih =>
    cases k with
    | zero => simp at h; subst h; simp [Diff.cells]
    | succ k =>
      obtain ⟨h1, h2, h3⟩ := ih (k := k) (by simpa using h)
      simp only [List.flatMap_cons]
      have hl : e.cells.length = 3 := rfl
      refine ⟨?_, ?_, ?_⟩
      · rw [List.getElem?_append_right (by omega), hl, show (k + 1) * 3 - 3 = k * 3 from by omega]; exact h1
      · rw [List.getElem?_append_right (by omega), hl, show (k + 1) * 3 + 1 - 3 = k * 3 + 1 from by omega]; exact h2
      · rw [List.getElem?_append_right (by omega), hl, show (k + 1) * 3 + 2 - 3 = k * 3 + 2 from by omega]; exact h3

theorem Rd.diff {w : World} {A : Option Addr} {ds : List Diff} (h : Rd w A (ds.flatMap Diff.cells)) {k : Nat} {d : Diff} (hk : ds[k]? = some d) :
    ∃ b off, A = some ⟨b, off, none⟩ ∧ b < w.heap.size ∧ w.cell? ⟨b, off + k * 3, none⟩ = some (.int .i64 d.x) ∧ w.cell? ⟨b, off + k * 3 + 1, none⟩ = some (.int .i64 d.y) ∧ w.cell? ⟨b, off + k * 3 + 2, none⟩ = some (.int .i64 d.c) := by
  obtain ⟨h1, h2, h3⟩ := flat_at hk
  obtain ⟨b, off, hA, hlt, hc⟩ := h (by have := (List.getElem?_eq_some_iff.1 h1).1; omega)
  exact ⟨b, off, hA, hlt, hc _ _ h1, hc _ _ h2, hc _ _ h3⟩

/-- The opposite constraint. -/
def Diff.opp (d : Diff) : Diff := ⟨d.y, d.x, -d.c - 1⟩
/-- The constraint of a literal. -/
def bound (ds : List Diff) (lit : Int) : Option Diff :=
  if 0 < lit then ds[(lit - 1).toNat]? else if lit < 0 then (ds[(-lit - 1).toNat]?).map Diff.opp else none
/-- What Bound returns. -/
def boundVal : Option Diff → Value
  | some d => .tuple #[d.val, .bool true]
  | none => .tuple #[Diff.val ⟨0, 0, 0⟩, .bool false]

theorem bound_zero (ds : List Diff) : bound ds 0 = none := rfl
theorem bound_pos (ds : List Diff) (n : Nat) : bound ds ((n : Int) + 1) = ds[n]? := by
  unfold bound
  rw [if_pos (by omega), show ((n : Int) + 1 - 1).toNat = n from by omega]
theorem bound_neg (ds : List Diff) (n : Nat) : bound ds (-((n : Int) + 1)) = (ds[n]?).map Diff.opp := by
  unfold bound
  rw [if_neg (by omega), if_pos (by omega), show (-(-((n : Int) + 1)) - 1).toNat = n from by omega]

section
variable (i j : Value) (av cv : Value) (ds : List Diff) (w : World)

theorem fbound_zero (hb : Diffs w av ds) :
    Calls Tryd.prog 20 #[.agg #[i, j, av, cv], .int .i64 0] w fun e w' => e = .returned (boundVal none) ∧ Below w.heap.size w w' := by
  obtain ⟨A, c, rfl, h1, h2, h3, hr⟩ := hb
  unfold maxLen at h2
  clear h3 hr
  go_enter Tryd.func20, Tryd.ntmps20
  go_wp2_with (go_at_call 38; refine (variable_zero _).mono ?_; rintro e w' ⟨rfl, rfl⟩)
  go_returns
  exact ⟨rfl, by go_grown⟩

theorem fbound_pos (n : Nat) (d : Diff) (hb : Diffs w av ds) (hd : ds[n]? = some d) (hl : n + 1 ≤ 9223372036854775807) :
    Calls Tryd.prog 20 #[.agg #[i, j, av, cv], .int .i64 ((n : Int) + 1)] w fun e w' => e = .returned (boundVal (some d)) ∧ Below w.heap.size w w' := by
  obtain ⟨A, c, rfl, h1, h2, h3, hr⟩ := hb
  unfold maxLen at h2
  have hlt : n < ds.length := (List.getElem?_eq_some_iff.1 hd).1
  obtain ⟨b1, o1, rfl, hb1, hc1, hc2, hc3⟩ := hr.diff hd
  obtain ⟨x, y, z⟩ := d
  clear hd h3 hr
  go_enter Tryd.func20, Tryd.ntmps20
  go_wp2_with (go_at_call 38; refine (variable_pos _ _ (by omega) (by omega)).mono ?_; rintro e w' ⟨rfl, rfl⟩)
  go_returns
  exact ⟨rfl, by go_grown⟩

theorem fbound_over (n : Nat) (hb : Diffs w av ds) (hge : ds.length ≤ n) (hl : n + 1 ≤ 9223372036854775807) :
    Calls Tryd.prog 20 #[.agg #[i, j, av, cv], .int .i64 ((n : Int) + 1)] w fun e w' => e = .returned (boundVal none) ∧ Below w.heap.size w w' := by
  obtain ⟨A, c, rfl, h1, h2, h3, hr⟩ := hb
  unfold maxLen at h2
  clear h3 hr
  go_enter Tryd.func20, Tryd.ntmps20
  go_wp2_with (go_at_call 38; refine (variable_pos _ _ (by omega) (by omega)).mono ?_; rintro e w' ⟨rfl, rfl⟩)
  go_returns
  exact ⟨rfl, by go_grown⟩

theorem fbound_neg (n : Nat) (d : Diff) (hb : Diffs w av ds) (hd : ds[n]? = some d) (hl : n + 1 ≤ 9223372036854775808) (hC : -9223372036854775807 ≤ d.c) :
    Calls Tryd.prog 20 #[.agg #[i, j, av, cv], .int .i64 (-((n : Int) + 1))] w fun e w' => e = .returned (boundVal (some d.opp)) ∧ Below w.heap.size w w' := by
  obtain ⟨A, c, rfl, h1, h2, h3, hr⟩ := hb
  unfold maxLen at h2
  have hlt : n < ds.length := (List.getElem?_eq_some_iff.1 hd).1
  obtain ⟨b1, o1, rfl, hb1, hc1, hc2, hc3⟩ := hr.diff hd
  obtain ⟨x, y, z⟩ := d
  obtain ⟨k1, k2⟩ := (h3 _ (List.mem_of_getElem? hd)).2.2
  simp only at hC k1 k2
  clear hd h3 hr
  go_enter Tryd.func20, Tryd.ntmps20
  go_wp2_with (go_at_call 38; refine (variable_neg _ _ (by omega) (by omega)).mono ?_; rintro e w' ⟨rfl, rfl⟩; rw [show -(-((n : Int) + 1) + 1) = (n : Int) from by omega])
  go_returns
  exact ⟨rfl, by go_grown⟩

theorem fbound_under (n : Nat) (hb : Diffs w av ds) (hge : ds.length ≤ n) (hl : n + 1 ≤ 9223372036854775808) :
    Calls Tryd.prog 20 #[.agg #[i, j, av, cv], .int .i64 (-((n : Int) + 1))] w fun e w' => e = .returned (boundVal none) ∧ Below w.heap.size w w' := by
  obtain ⟨A, c, rfl, h1, h2, h3, hr⟩ := hb
  unfold maxLen at h2
  clear h3 hr
  go_enter Tryd.func20, Tryd.ntmps20
  go_wp2_with (go_at_call 38; refine (variable_neg _ _ (by omega) (by omega)).mono ?_; rintro e w' ⟨rfl, rfl⟩; rw [show -(-((n : Int) + 1) + 1) = (n : Int) from by omega])
  go_returns
  exact ⟨rfl, by go_grown⟩

theorem fbound_any (lit : Int) (hb : Diffs w av ds) (hC : ∀ d ∈ ds, -9223372036854775807 ≤ d.c) (hl : I64 lit) :
    Calls Tryd.prog 20 #[.agg #[i, j, av, cv], .int .i64 lit] w fun e w' => e = .returned (boundVal (bound ds lit)) ∧ Below w.heap.size w w' := by
  obtain ⟨hl1, hl2⟩ := hl
  rcases lit_cases lit with rfl | ⟨n, rfl⟩ | ⟨n, rfl⟩
  · exact fbound_zero i j av cv ds w hb
  · rw [bound_pos]
    rcases Nat.lt_or_ge n ds.length with h | h
    · rw [List.getElem?_eq_getElem h]; exact fbound_pos i j av cv ds w n _ hb (List.getElem?_eq_getElem h) (by omega)
    · rw [List.getElem?_eq_none h]; exact fbound_over i j av cv ds w n hb h (by omega)
  · rw [bound_neg]
    rcases Nat.lt_or_ge n ds.length with h | h
    · rw [List.getElem?_eq_getElem h]; exact fbound_neg i j av cv ds w n _ hb (List.getElem?_eq_getElem h) (by omega) (hC _ (List.getElem_mem h))
    · rw [List.getElem?_eq_none h]; exact fbound_under i j av cv ds w n hb h (by omega)

end
end Go.Proofs.YtfffalfnjficaaaDoor
