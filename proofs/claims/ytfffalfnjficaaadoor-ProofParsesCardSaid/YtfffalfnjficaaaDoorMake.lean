/-
  WORDS: rows made by make, of a length that does not change: known whole; filled place by place.
-/
import Derived.Test.YtfffalfnjficaaaDoorOwn
import Derived.Test.YtfffalfnjficaaaDoorModel
import Derived.Laws.MakeOwn
import Derived.Laws.OwnMore
namespace Go.Proofs.YtfffalfnjficaaaDoor
open Go.RowKit

/-- ys, filled up to n places with z. -/
def pad {α : Type} (z : α) (n : Nat) (ys : List α) : List α := ys ++ List.replicate (n - ys.length) z
section
variable {α : Type} {z x : α} {n : Nat} {ys : List α}
theorem pad_nil : pad z n [] = List.replicate n z := by simp [pad]
theorem pad_len (h : ys.length ≤ n) : (pad z n ys).length = n := by simp [pad]; omega
theorem pad_full (h : ys.length = n) : pad z n ys = ys := by simp [pad, h]
theorem pad_set (h : ys.length < n) {k : Nat} (hk : ys.length = k) : (pad z n ys).set k x = pad z n (ys ++ [x]) := by
  subst hk
  obtain ⟨m, hm⟩ : ∃ m, n - ys.length = m + 1 := ⟨n - ys.length - 1, by omega⟩
  have hm2 : n - (ys.length + 1) = m := by omega
  simp [pad, hm, hm2, List.replicate_succ]
theorem pad_at {k : Nat} (h : k < n) (hk : ys.length ≤ k) : (pad z n ys)[k]? = some z := by
  rw [pad, List.getElem?_append_right hk, List.getElem?_replicate, if_pos (by omega)]
theorem pad_old {k : Nat} (hk : k < ys.length) : (pad z n ys)[k]? = ys[k]? := by rw [pad, List.getElem?_append_left hk]
end

def rowI (xs : List Int) : Array Value := (xs.map (Value.int .i64)).toArray
def rowB (xs : List Bool) : Array Value := (xs.map Value.bool).toArray
def rowD (ds : List Diff) : Array Value := (ds.flatMap Diff.cells).toArray

section
variable {w : World} {g k : Nat} {t : TypeId} {xs : List Int} {bs : List Bool} {ds : List Diff}
theorem rowI_at {x : Int} (h : xs[k]? = some x) : (rowI xs)[k]? = some (.int .i64 x) := by simp [rowI, h]
theorem rowB_at {x : Bool} (h : bs[k]? = some x) : (rowB bs)[k]? = some (.bool x) := by simp [rowB, h]
theorem Blk.setI (h : Blk w g t (rowI xs)) (k : Nat) (x : Int) : Blk (w.setCell ⟨g, k, none⟩ (.int .i64 x)) g t (rowI (xs.set k x)) := by
  have := h.set_ k (.int .i64 x)
  rwa [show (rowI xs).setIfInBounds k (.int .i64 x) = rowI (xs.set k x) by simp [rowI]] at this
theorem Blk.setB (h : Blk w g t (rowB bs)) (k : Nat) (x : Bool) : Blk (w.setCell ⟨g, k, none⟩ (.bool x)) g t (rowB (bs.set k x)) := by
  have := h.set_ k (.bool x)
  rwa [show (rowB bs).setIfInBounds k (.bool x) = rowB (bs.set k x) by simp [rowB]] at this
theorem flat_setD (ds : List Diff) (k : Nat) (d : Diff) : (((ds.flatMap Diff.cells).set (k * 3) (.int .i64 d.x)).set (k * 3 + 1) (.int .i64 d.y)).set (k * 3 + 2) (.int .i64 d.c) = (ds.set k d).flatMap Diff.cells := by
  induction ds generalizing k with
  | nil => simp
  | cons e r ih =>
    cases k with
    | zero => simp [Diff.cells]
    | succ k =>
      have h := ih k
      simp only [List.flatMap_cons, List.set_cons_succ]
      have a1 : ∀ (t : List Value) (j : Nat) (v : Value), 3 ≤ j → (e.cells ++ t).set j v = e.cells ++ t.set (j - 3) v := by
        intro t j v hj
        have hl : e.cells.length = 3 := rfl
        rw [List.set_append, if_neg (by omega), hl]
      rw [a1 _ _ _ (by omega), a1 _ _ _ (by omega), a1 _ _ _ (by omega), show (k + 1) * 3 - 3 = k * 3 by omega, show (k + 1) * 3 + 1 - 3 = k * 3 + 1 by omega, show (k + 1) * 3 + 2 - 3 = k * 3 + 2 by omega, h]
theorem Blk.setD (h : Blk w g t (rowD ds)) (k : Nat) (d : Diff) : Blk (((w.setCell ⟨g, k * 3, none⟩ (.int .i64 d.x)).setCell ⟨g, k * 3 + 1, none⟩ (.int .i64 d.y)).setCell ⟨g, k * 3 + 2, none⟩ (.int .i64 d.c)) g t (rowD (ds.set k d)) := by
  have := ((h.set_ (k * 3) (.int .i64 d.x)).set_ (k * 3 + 1) (.int .i64 d.y)).set_ (k * 3 + 2) (.int .i64 d.c)
  rwa [show (((rowD ds).setIfInBounds (k * 3) (.int .i64 d.x)).setIfInBounds (k * 3 + 1) (.int .i64 d.y)).setIfInBounds (k * 3 + 2) (.int .i64 d.c) = rowD (ds.set k d) by simp [rowD, flat_setD]] at this
theorem rowD_at {d : Diff} (h : ds[k]? = some d) : (rowD ds)[k * 3]? = some (.int .i64 d.x) ∧ (rowD ds)[k * 3 + 1]? = some (.int .i64 d.y) ∧ (rowD ds)[k * 3 + 2]? = some (.int .i64 d.c) := by
  simpa [rowD] using flat_at h
theorem Blk.rd (h : Blk w g t (xs.map (Value.int .i64)).toArray) (hx : ∀ x ∈ xs, I64 x) (hl : xs.length ≤ maxLen) : Ints w (.slice (some ⟨g, 0, none⟩) xs.length xs.length) xs :=
  ⟨_, _, rfl, Nat.le_refl _, hl, hx, fun _ => ⟨g, 0, rfl, h.lt, fun j u hu => by rw [Nat.zero_add, h.cell j, List.getElem?_toArray]; exact hu⟩⟩
theorem Blk.ints (h : Blk w g t (rowI xs)) (hx : ∀ x ∈ xs, I64 x) (hl : xs.length ≤ maxLen) : Ints w (.slice (some ⟨g, 0, none⟩) xs.length xs.length) xs := Blk.rd h hx hl
theorem Blk.bools (h : Blk w g t (rowB bs)) (hl : bs.length ≤ maxLen) : Bools w (.slice (some ⟨g, 0, none⟩) bs.length bs.length) bs :=
  ⟨_, _, rfl, Nat.le_refl _, hl, fun _ => ⟨g, 0, rfl, h.lt, fun j u hu => by rw [Nat.zero_add, h.cell j, rowB, List.getElem?_toArray]; exact hu⟩⟩
theorem Blk.diffs (h : Blk w g t (rowD ds)) (hx : ∀ d ∈ ds, d.ok) (hl : ds.length ≤ maxLen) : Diffs w (.slice (some ⟨g, 0, none⟩) ds.length ds.length) ds :=
  ⟨_, _, rfl, Nat.le_refl _, hl, hx, fun _ => ⟨g, 0, rfl, h.lt, fun j u hu => by rw [Nat.zero_add, h.cell j, rowD, List.getElem?_toArray]; exact hu⟩⟩
end

theorem made_zero (zs : Array Value) (z : Value) (n : Nat) (h0 : 0 < zs.size) (h : ∀ i, i < zs.size → zs[i]! = z) : madeCells zs n = (List.replicate n z).toArray := by
  apply Array.ext
  · simp [madeCells]
  · intro i h1 h2
    simp only [madeCells, Array.getElem_map, Array.getElem_range]
    rw [h _ (Nat.mod_lt _ h0)]
    simp
theorem rowD_zero (n : Nat) : rowD (List.replicate n ⟨0, 0, 0⟩) = (List.replicate (n * 3) (Value.int .i64 0)).toArray := by
  unfold rowD
  congr 1
  induction n with
  | zero => rfl
  | succ n ih => rw [List.replicate_succ, List.flatMap_cons, ih, show (n + 1) * 3 = n * 3 + 1 + 1 + 1 by omega, List.replicate_succ, List.replicate_succ, List.replicate_succ]; rfl

theorem run_make_n {P : Program} (t e : TypeId) (i : TypeInfo) (z : Value) (ht : P.underlying t = some (.slice e)) (hi : P.info? e = some i) (hz : i.zero = some z)
    (n : Nat) (hbytes : i.bytes * n ≤ 281474976710656) (h63 : n ≤ 9223372036854775807) (w : World) :
    (Instr.makeSlice t (.int .i64 (n : Int)) (.int .i64 (n : Int))).run P w = .ok (.slice (some ⟨w.heap.size, 0, none⟩) n n) (w.alloc (.cells (madeCells z.cells (n * i.size)) e)) := by
  have hb : (i.bytes : Int) * (n : Int) ≤ 281474976710656 := by
    have h : ((i.bytes * n : Nat) : Int) ≤ 281474976710656 := by omega
    rwa [Int.natCast_mul] at h
  have hr := run_make (P := P) w t e i z ht hi hz .i64 .i64 n n (by omega) (by omega) hb (by omega)
  simp only [Int.toNat_natCast] at hr
  exact hr

theorem info_bool : (Tryd.prog.info? 4).map (fun i => (i.zero, i.size, i.bytes)) = some (some (.bool false), 1, 1) := by kernel_rfl

theorem zero_i : ∀ i, i < (Value.int .i64 0).cells.size → (Value.int .i64 0).cells[i]! = .int .i64 0 := fun i hi => by
  have hi' : i < 1 := hi
  obtain rfl : i = 0 := by omega
  rfl
theorem zero_b : ∀ i, i < (Value.bool false).cells.size → (Value.bool false).cells[i]! = .bool false := fun i hi => by
  have hi' : i < 1 := hi
  obtain rfl : i = 0 := by omega
  rfl
theorem zero_d : ∀ i, i < (Value.agg #[.int .i64 0, .int .i64 0, .int .i64 0]).cells.size → (Value.agg #[.int .i64 0, .int .i64 0, .int .i64 0]).cells[i]! = .int .i64 0 := fun i hi => by
  have hi' : i < 3 := hi
  have : i = 0 ∨ i = 1 ∨ i = 2 := by omega
  rcases this with rfl | rfl | rfl <;> rfl
theorem mk_ints (n : Nat) (h : n ≤ 1000000) (w : World) : (Instr.makeSlice 49 (.int .i64 (n : Int)) (.int .i64 (n : Int))).run Tryd.prog w = .ok (.slice (some ⟨w.heap.size, 0, none⟩) n n) (w.alloc (.cells (rowI (List.replicate n 0)) 3)) := by
  obtain ⟨i, hi, h0, h1, h2⟩ := info_parts info_int
  rw [run_make_n _ _ i _ Tryd.underlying49 hi h0 n (by rw [h2]; omega) (by omega) w, h1, made_zero _ (.int .i64 0) _ (by decide) zero_i, Nat.mul_one]
  simp [rowI]
theorem mk_diffs (n : Nat) (h : n ≤ 1000000) (w : World) : (Instr.makeSlice 23 (.int .i64 (n : Int)) (.int .i64 (n : Int))).run Tryd.prog w = .ok (.slice (some ⟨w.heap.size, 0, none⟩) n n) (w.alloc (.cells (rowD (List.replicate n ⟨0, 0, 0⟩)) 48)) := by
  obtain ⟨i, hi, h0, h1, h2⟩ := info_parts info_diff
  rw [run_make_n _ _ i _ Tryd.underlying23 hi h0 n (by rw [h2]; omega) (by omega) w, h1, made_zero _ (.int .i64 0) _ (by decide) zero_d, rowD_zero]
end Go.Proofs.YtfffalfnjficaaaDoor
