/-
  WALKS: interleavelaw33.example and awake: the examples of chapter 33.
-/
import Derived.Test.YtfffalfnjficaaaDoorClauses
import Derived.Test.YtfffalfnjficaaaDoorSame
import Derived.Deep.RegionHeld3
import Derived.Test.YtfffalfnjficaaaDoorLit
namespace Go.Proofs.YtfffalfnjficaaaDoor
open Go.RowKit

def exF : Form := ⟨2, 2, [⟨0, 1, -1⟩, ⟨1, 0, -1⟩], [[1], [2]]⟩
def exL : List Stp := [⟨1, 0, [], 0, 0, 0⟩, ⟨1, 1, [], 0, 0, 0⟩, ⟨2, 0, [1, 2], 0, 0, 0⟩, ⟨3, 0, [], 0, 2, 0⟩, ⟨3, 0, [], 1, 3, 1⟩]
theorem exF_valid : validF exF = 0 := by decide
theorem ex_cyc : cyc exF.atoms [1, 2] = some [-1, -2] := by
  unfold cyc
  rw [show bnds exF.atoms [1, 2] = some [⟨0, 1, -1⟩, ⟨1, 0, -1⟩] from rfl]
  have hc : cycB [⟨0, 1, -1⟩, ⟨1, 0, -1⟩] = true := by
    unfold cycB
    simp only [decide_eq_true_eq]
    refine ⟨by simp, fun i a b hi ha hb => ?_, by simp [csum]⟩
    have : i = 0 ∨ i = 1 := by simp at hi; omega
    rcases this with rfl | rfl
    · simp at ha hb; subst ha hb; rfl
    · simp at ha hb; subst ha hb; rfl
  show (if cycB [⟨0, 1, -1⟩, ⟨1, 0, -1⟩] = true then norm (List.map (fun x => -x) [1, 2]) else none) = _
  rw [if_pos hc]
  decide
theorem ex_run : runS exF [] exL = ([[1], [2], [-1, -2], [-2], []], true) := by
  have d1 : deriv exF ⟨1, 0, [], 0, 0, 0⟩ [] = some [1] := by decide
  have d2 : deriv exF ⟨1, 1, [], 0, 0, 0⟩ [[1]] = some [2] := by decide
  have d3 : deriv exF ⟨2, 0, [1, 2], 0, 0, 0⟩ [[1], [2]] = some [-1, -2] := by unfold deriv; rw [if_neg (by decide), if_pos rfl]; exact ex_cyc
  have d4 : deriv exF ⟨3, 0, [], 0, 2, 0⟩ [[1], [2], [-1, -2]] = some [-2] := by decide
  have d5 : deriv exF ⟨3, 0, [], 1, 3, 1⟩ [[1], [2], [-1, -2], [-2]] = some [] := by decide
  rw [exL, runS, d1]
  simp only [List.nil_append]
  rw [runS, d2]
  simp only [List.cons_append, List.nil_append]
  rw [runS, d3]
  simp only [List.cons_append, List.nil_append]
  rw [runS, d4]
  simp only [List.cons_append, List.nil_append]
  rw [runS, d5]
  rfl
theorem ex_run4 : runS exF [] (exL.take 4) = ([[1], [2], [-1, -2], [-2]], true) := by
  have d1 : deriv exF ⟨1, 0, [], 0, 0, 0⟩ [] = some [1] := by decide
  have d2 : deriv exF ⟨1, 1, [], 0, 0, 0⟩ [[1]] = some [2] := by decide
  have d3 : deriv exF ⟨2, 0, [1, 2], 0, 0, 0⟩ [[1], [2]] = some [-1, -2] := by unfold deriv; rw [if_neg (by decide), if_pos rfl]; exact ex_cyc
  have d4 : deriv exF ⟨3, 0, [], 0, 2, 0⟩ [[1], [2], [-1, -2]] = some [-2] := by decide
  rw [show exL.take 4 = [⟨1, 0, [], 0, 0, 0⟩, ⟨1, 1, [], 0, 0, 0⟩, ⟨2, 0, [1, 2], 0, 0, 0⟩, ⟨3, 0, [], 0, 2, 0⟩] from rfl, runS, d1]
  simp only [List.nil_append]
  rw [runS, d2]
  simp only [List.cons_append, List.nil_append]
  rw [runS, d3]
  simp only [List.cons_append, List.nil_append]
  rw [runS, d4]
  rfl
theorem ex_asked (n : Nat) : Asked exF (exL.take n) := by
  refine ⟨exF_valid, by decide, ?_, fun s hs => ?_⟩
  · have := List.length_take_le n exL; simp [exL] at this ⊢; omega
  · have := List.mem_of_mem_take hs
    simp [exL] at this
    rcases this with rfl | rfl | rfl | rfl | rfl <;> simp

/-- What example leaves. -/
def ExRet (w : World) (e : Ending) (w' : World) : Prop := ∃ fv lv, e = .returned (.tuple #[fv, lv]) ∧ IsForm w' fv exF ∧ Stps w' lv exL ∧ Below w.heap.size w w'

set_option maxRecDepth 100000 in
set_option maxHeartbeats 1000000 in
theorem example_any (w : World) : Calls Tryd.prog 32 #[] w (ExRet w) := by
  go_enter Tryd.func32, Tryd.ntmps32
  go_wp2_with fail
  -- END
  refine bodyPost_ret (v := .tuple #[.agg #[.int .i64 2, .int .i64 2, .slice (some ⟨w.heap.size + 1, 0, none⟩) 2 2, .slice (some ⟨w.heap.size + 1 + 1 + 1 + 1, 0, none⟩) 2 2], .slice (some ⟨w.heap.size + 1 + 1 + 1 + 1 + 1 + 1 + 1, 0, none⟩) 5 5]) (by simp [results, Tryd.results32, go_sem]) rfl ?_
  have b1 := Blk.new (w.alloc (.cells #[.int .i64 2, .int .i64 2, .slice (some ⟨w.heap.size + 1, 0, none⟩) 2 2, .slice (some ⟨w.heap.size + 1 + 1 + 1 + 1, 0, none⟩) 2 2] 26)) 48 #[.int .i64 0, .int .i64 1, .int .i64 (-1), .int .i64 1, .int .i64 0, .int .i64 (-1)]
  have b2 := Blk.new ((w.alloc (.cells #[.int .i64 2, .int .i64 2, .slice (some ⟨w.heap.size + 1, 0, none⟩) 2 2, .slice (some ⟨w.heap.size + 1 + 1 + 1 + 1, 0, none⟩) 2 2] 26)).alloc (.cells #[.int .i64 0, .int .i64 1, .int .i64 (-1), .int .i64 1, .int .i64 0, .int .i64 (-1)] 48)) 3 #[.int .i64 1]
  have b3 := Blk.new (((w.alloc (.cells #[.int .i64 2, .int .i64 2, .slice (some ⟨w.heap.size + 1, 0, none⟩) 2 2, .slice (some ⟨w.heap.size + 1 + 1 + 1 + 1, 0, none⟩) 2 2] 26)).alloc (.cells #[.int .i64 0, .int .i64 1, .int .i64 (-1), .int .i64 1, .int .i64 0, .int .i64 (-1)] 48)).alloc (.cells #[.int .i64 1] 3)) 3 #[.int .i64 2]
  have b4 := Blk.new ((((w.alloc (.cells #[.int .i64 2, .int .i64 2, .slice (some ⟨w.heap.size + 1, 0, none⟩) 2 2, .slice (some ⟨w.heap.size + 1 + 1 + 1 + 1, 0, none⟩) 2 2] 26)).alloc (.cells #[.int .i64 0, .int .i64 1, .int .i64 (-1), .int .i64 1, .int .i64 0, .int .i64 (-1)] 48)).alloc (.cells #[.int .i64 1] 3)).alloc (.cells #[.int .i64 2] 3)) 49 #[.slice (some ⟨w.heap.size + 1 + 1, 0, none⟩) 1 1, .slice (some ⟨w.heap.size + 1 + 1 + 1, 0, none⟩) 1 1]
  have b6 := Blk.new ((((((w.alloc (.cells #[.int .i64 2, .int .i64 2, .slice (some ⟨w.heap.size + 1, 0, none⟩) 2 2, .slice (some ⟨w.heap.size + 1 + 1 + 1 + 1, 0, none⟩) 2 2] 26)).alloc (.cells #[.int .i64 0, .int .i64 1, .int .i64 (-1), .int .i64 1, .int .i64 0, .int .i64 (-1)] 48)).alloc (.cells #[.int .i64 1] 3)).alloc (.cells #[.int .i64 2] 3)).alloc (.cells #[.slice (some ⟨w.heap.size + 1 + 1, 0, none⟩) 1 1, .slice (some ⟨w.heap.size + 1 + 1 + 1, 0, none⟩) 1 1] 49)).alloc (.cells #[.int .i64 2, .int .i64 2, .slice (some ⟨w.heap.size + 1, 0, none⟩) 2 2, .slice (some ⟨w.heap.size + 1 + 1 + 1 + 1, 0, none⟩) 2 2] 26)) 3 #[.int .i64 1, .int .i64 2]
  have b7 := Blk.new (((((((w.alloc (.cells #[.int .i64 2, .int .i64 2, .slice (some ⟨w.heap.size + 1, 0, none⟩) 2 2, .slice (some ⟨w.heap.size + 1 + 1 + 1 + 1, 0, none⟩) 2 2] 26)).alloc (.cells #[.int .i64 0, .int .i64 1, .int .i64 (-1), .int .i64 1, .int .i64 0, .int .i64 (-1)] 48)).alloc (.cells #[.int .i64 1] 3)).alloc (.cells #[.int .i64 2] 3)).alloc (.cells #[.slice (some ⟨w.heap.size + 1 + 1, 0, none⟩) 1 1, .slice (some ⟨w.heap.size + 1 + 1 + 1, 0, none⟩) 1 1] 49)).alloc (.cells #[.int .i64 2, .int .i64 2, .slice (some ⟨w.heap.size + 1, 0, none⟩) 2 2, .slice (some ⟨w.heap.size + 1 + 1 + 1 + 1, 0, none⟩) 2 2] 26)).alloc (.cells #[.int .i64 1, .int .i64 2] 3)) 81 #[.int .i64 1, .int .i64 0, .slice none 0 0, .int .i64 0, .int .i64 0, .int .i64 0, .int .i64 1, .int .i64 1, .slice none 0 0, .int .i64 0, .int .i64 0, .int .i64 0, .int .i64 2, .int .i64 0, .slice (some ⟨w.heap.size + 1 + 1 + 1 + 1 + 1 + 1, 0, none⟩) 2 2, .int .i64 0, .int .i64 0, .int .i64 0, .int .i64 3, .int .i64 0, .slice none 0 0, .int .i64 0, .int .i64 2, .int .i64 0, .int .i64 3, .int .i64 0, .slice none 0 0, .int .i64 1, .int .i64 3, .int .i64 1]
  simp only [World.size_alloc] at b1 b2 b3 b4 b6 b7
  have B1 := ((((((b1.alloc (.cells #[.int .i64 1] 3)).alloc (.cells #[.int .i64 2] 3)).alloc (.cells #[.slice (some ⟨w.heap.size + 1 + 1, 0, none⟩) 1 1, .slice (some ⟨w.heap.size + 1 + 1 + 1, 0, none⟩) 1 1] 49)).alloc (.cells #[.int .i64 2, .int .i64 2, .slice (some ⟨w.heap.size + 1, 0, none⟩) 2 2, .slice (some ⟨w.heap.size + 1 + 1 + 1 + 1, 0, none⟩) 2 2] 26)).alloc (.cells #[.int .i64 1, .int .i64 2] 3)).alloc (.cells #[.int .i64 1, .int .i64 0, .slice none 0 0, .int .i64 0, .int .i64 0, .int .i64 0, .int .i64 1, .int .i64 1, .slice none 0 0, .int .i64 0, .int .i64 0, .int .i64 0, .int .i64 2, .int .i64 0, .slice (some ⟨w.heap.size + 1 + 1 + 1 + 1 + 1 + 1, 0, none⟩) 2 2, .int .i64 0, .int .i64 0, .int .i64 0, .int .i64 3, .int .i64 0, .slice none 0 0, .int .i64 0, .int .i64 2, .int .i64 0, .int .i64 3, .int .i64 0, .slice none 0 0, .int .i64 1, .int .i64 3, .int .i64 1] 81))
  have B2 := (((((b2.alloc (.cells #[.int .i64 2] 3)).alloc (.cells #[.slice (some ⟨w.heap.size + 1 + 1, 0, none⟩) 1 1, .slice (some ⟨w.heap.size + 1 + 1 + 1, 0, none⟩) 1 1] 49)).alloc (.cells #[.int .i64 2, .int .i64 2, .slice (some ⟨w.heap.size + 1, 0, none⟩) 2 2, .slice (some ⟨w.heap.size + 1 + 1 + 1 + 1, 0, none⟩) 2 2] 26)).alloc (.cells #[.int .i64 1, .int .i64 2] 3)).alloc (.cells #[.int .i64 1, .int .i64 0, .slice none 0 0, .int .i64 0, .int .i64 0, .int .i64 0, .int .i64 1, .int .i64 1, .slice none 0 0, .int .i64 0, .int .i64 0, .int .i64 0, .int .i64 2, .int .i64 0, .slice (some ⟨w.heap.size + 1 + 1 + 1 + 1 + 1 + 1, 0, none⟩) 2 2, .int .i64 0, .int .i64 0, .int .i64 0, .int .i64 3, .int .i64 0, .slice none 0 0, .int .i64 0, .int .i64 2, .int .i64 0, .int .i64 3, .int .i64 0, .slice none 0 0, .int .i64 1, .int .i64 3, .int .i64 1] 81))
  have B3 := ((((b3.alloc (.cells #[.slice (some ⟨w.heap.size + 1 + 1, 0, none⟩) 1 1, .slice (some ⟨w.heap.size + 1 + 1 + 1, 0, none⟩) 1 1] 49)).alloc (.cells #[.int .i64 2, .int .i64 2, .slice (some ⟨w.heap.size + 1, 0, none⟩) 2 2, .slice (some ⟨w.heap.size + 1 + 1 + 1 + 1, 0, none⟩) 2 2] 26)).alloc (.cells #[.int .i64 1, .int .i64 2] 3)).alloc (.cells #[.int .i64 1, .int .i64 0, .slice none 0 0, .int .i64 0, .int .i64 0, .int .i64 0, .int .i64 1, .int .i64 1, .slice none 0 0, .int .i64 0, .int .i64 0, .int .i64 0, .int .i64 2, .int .i64 0, .slice (some ⟨w.heap.size + 1 + 1 + 1 + 1 + 1 + 1, 0, none⟩) 2 2, .int .i64 0, .int .i64 0, .int .i64 0, .int .i64 3, .int .i64 0, .slice none 0 0, .int .i64 0, .int .i64 2, .int .i64 0, .int .i64 3, .int .i64 0, .slice none 0 0, .int .i64 1, .int .i64 3, .int .i64 1] 81))
  have B4 := (((b4.alloc (.cells #[.int .i64 2, .int .i64 2, .slice (some ⟨w.heap.size + 1, 0, none⟩) 2 2, .slice (some ⟨w.heap.size + 1 + 1 + 1 + 1, 0, none⟩) 2 2] 26)).alloc (.cells #[.int .i64 1, .int .i64 2] 3)).alloc (.cells #[.int .i64 1, .int .i64 0, .slice none 0 0, .int .i64 0, .int .i64 0, .int .i64 0, .int .i64 1, .int .i64 1, .slice none 0 0, .int .i64 0, .int .i64 0, .int .i64 0, .int .i64 2, .int .i64 0, .slice (some ⟨w.heap.size + 1 + 1 + 1 + 1 + 1 + 1, 0, none⟩) 2 2, .int .i64 0, .int .i64 0, .int .i64 0, .int .i64 3, .int .i64 0, .slice none 0 0, .int .i64 0, .int .i64 2, .int .i64 0, .int .i64 3, .int .i64 0, .slice none 0 0, .int .i64 1, .int .i64 3, .int .i64 1] 81))
  have B6 := (b6.alloc (.cells #[.int .i64 1, .int .i64 0, .slice none 0 0, .int .i64 0, .int .i64 0, .int .i64 0, .int .i64 1, .int .i64 1, .slice none 0 0, .int .i64 0, .int .i64 0, .int .i64 0, .int .i64 2, .int .i64 0, .slice (some ⟨w.heap.size + 1 + 1 + 1 + 1 + 1 + 1, 0, none⟩) 2 2, .int .i64 0, .int .i64 0, .int .i64 0, .int .i64 3, .int .i64 0, .slice none 0 0, .int .i64 0, .int .i64 2, .int .i64 0, .int .i64 3, .int .i64 0, .slice none 0 0, .int .i64 1, .int .i64 3, .int .i64 1] 81))
  have hB : Below w.heap.size w ((((((((w.alloc (.cells #[.int .i64 2, .int .i64 2, .slice (some ⟨w.heap.size + 1, 0, none⟩) 2 2, .slice (some ⟨w.heap.size + 1 + 1 + 1 + 1, 0, none⟩) 2 2] 26)).alloc (.cells #[.int .i64 0, .int .i64 1, .int .i64 (-1), .int .i64 1, .int .i64 0, .int .i64 (-1)] 48)).alloc (.cells #[.int .i64 1] 3)).alloc (.cells #[.int .i64 2] 3)).alloc (.cells #[.slice (some ⟨w.heap.size + 1 + 1, 0, none⟩) 1 1, .slice (some ⟨w.heap.size + 1 + 1 + 1, 0, none⟩) 1 1] 49)).alloc (.cells #[.int .i64 2, .int .i64 2, .slice (some ⟨w.heap.size + 1, 0, none⟩) 2 2, .slice (some ⟨w.heap.size + 1 + 1 + 1 + 1, 0, none⟩) 2 2] 26)).alloc (.cells #[.int .i64 1, .int .i64 2] 3)).alloc (.cells #[.int .i64 1, .int .i64 0, .slice none 0 0, .int .i64 0, .int .i64 0, .int .i64 0, .int .i64 1, .int .i64 1, .slice none 0 0, .int .i64 0, .int .i64 0, .int .i64 0, .int .i64 2, .int .i64 0, .slice (some ⟨w.heap.size + 1 + 1 + 1 + 1 + 1 + 1, 0, none⟩) 2 2, .int .i64 0, .int .i64 0, .int .i64 0, .int .i64 3, .int .i64 0, .slice none 0 0, .int .i64 0, .int .i64 2, .int .i64 0, .int .i64 3, .int .i64 0, .slice none 0 0, .int .i64 1, .int .i64 3, .int .i64 1] 81)) := by go_grown
  clear b1 b2 b3 b4 b6
  generalize ((((((((w.alloc (.cells #[.int .i64 2, .int .i64 2, .slice (some ⟨w.heap.size + 1, 0, none⟩) 2 2, .slice (some ⟨w.heap.size + 1 + 1 + 1 + 1, 0, none⟩) 2 2] 26)).alloc (.cells #[.int .i64 0, .int .i64 1, .int .i64 (-1), .int .i64 1, .int .i64 0, .int .i64 (-1)] 48)).alloc (.cells #[.int .i64 1] 3)).alloc (.cells #[.int .i64 2] 3)).alloc (.cells #[.slice (some ⟨w.heap.size + 1 + 1, 0, none⟩) 1 1, .slice (some ⟨w.heap.size + 1 + 1 + 1, 0, none⟩) 1 1] 49)).alloc (.cells #[.int .i64 2, .int .i64 2, .slice (some ⟨w.heap.size + 1, 0, none⟩) 2 2, .slice (some ⟨w.heap.size + 1 + 1 + 1 + 1, 0, none⟩) 2 2] 26)).alloc (.cells #[.int .i64 1, .int .i64 2] 3)).alloc (.cells #[.int .i64 1, .int .i64 0, .slice none 0 0, .int .i64 0, .int .i64 0, .int .i64 0, .int .i64 1, .int .i64 1, .slice none 0 0, .int .i64 0, .int .i64 0, .int .i64 0, .int .i64 2, .int .i64 0, .slice (some ⟨w.heap.size + 1 + 1 + 1 + 1 + 1 + 1, 0, none⟩) 2 2, .int .i64 0, .int .i64 0, .int .i64 0, .int .i64 3, .int .i64 0, .slice none 0 0, .int .i64 0, .int .i64 2, .int .i64 0, .int .i64 3, .int .i64 0, .slice none 0 0, .int .i64 1, .int .i64 3, .int .i64 1] 81)) = W at *
  refine ⟨_, _, rfl, ⟨_, _, rfl, by simp [exF, I64], by simp [exF, I64], ?_, ?_⟩, ?_, hB⟩
  · exact diffs_lit (ds := [⟨0, 1, -1⟩, ⟨1, 0, -1⟩]) B1 (by simp [Diff.ok, I64]) (by simp [maxLen])
  · refine mat_lit (xss := [[1], [2]]) (vs := [.slice (some ⟨w.heap.size + 1 + 1, 0, none⟩) 1 1, .slice (some ⟨w.heap.size + 1 + 1 + 1, 0, none⟩) 1 1]) B4 rfl (by simp [maxLen]) (fun k u xs h1 h2 => ?_)
    match k with
    | 0 =>
      simp at h1 h2
      subst h1 h2
      exact ints_lit (xs := [1]) B2 (Below.refl _ _) (by simp [I64]) (by simp [maxLen])
    | 1 =>
      simp at h1 h2
      subst h1 h2
      exact ints_lit (xs := [2]) B3 (Below.refl _ _) (by simp [I64]) (by simp [maxLen])
    | k + 2 => simp at h1
  · refine ⟨_, 5, [(⟨1, 0, [], 0, 0, 0⟩, .slice none 0 0), (⟨1, 1, [], 0, 0, 0⟩, .slice none 0 0), (⟨2, 0, [1, 2], 0, 0, 0⟩, .slice (some ⟨w.heap.size + 1 + 1 + 1 + 1 + 1 + 1, 0, none⟩) 2 2), (⟨3, 0, [], 0, 2, 0⟩, .slice none 0 0), (⟨3, 0, [], 1, 3, 1⟩, .slice none 0 0)], rfl, rfl, by simp, by simp [maxLen], fun _ => ⟨_, 0, rfl, b7.lt, fun j u hu => ?_⟩, fun q hq => ?_⟩
    · rw [Nat.zero_add, b7.cell j, List.getElem?_toArray]; exact hu
    · simp only [List.mem_cons, List.not_mem_nil, or_false] at hq
      rcases hq with rfl | rfl | rfl | rfl | rfl
      · exact ⟨Ints.nil _, by simp [Stp.ok, I64]⟩
      · exact ⟨Ints.nil _, by simp [Stp.ok, I64]⟩
      · exact ⟨ints_lit (xs := [1, 2]) B6 (Below.refl _ _) (by simp [I64]) (by simp [maxLen]), by simp [Stp.ok, I64]⟩
      · exact ⟨Ints.nil _, by simp [Stp.ok, I64]⟩
      · exact ⟨Ints.nil _, by simp [Stp.ok, I64]⟩

theorem Stps.cut {w : World} {A : Option Addr} {n c : Nat} {l : List Stp} (h : Stps w (.slice A n c) l) {k : Nat} (hk : k ≤ n) : Stps w (.slice A k c) (l.take k) := by
  obtain ⟨A', c', ps, rfl, hv, h3, h4, h5, h6⟩ := h
  injection hv with e1 e2 e3
  subst e1 e2 e3
  refine ⟨A, c, ps.take k, by rw [List.map_take], by rw [List.length_take, Nat.min_eq_left hk], by simp; omega, h4, fun h0 => ?_, fun p hp => h6 p (List.mem_of_mem_take hp)⟩
  have e : ps.flatMap Stp.cells = (ps.take k).flatMap Stp.cells ++ (ps.drop k).flatMap Stp.cells := by rw [← List.flatMap_append, List.take_append_drop]
  obtain ⟨b, off, hA, hlt, hc⟩ := h5 (by rw [e, List.length_append]; omega)
  refine ⟨b, off, hA, hlt, fun j u hu => hc j u ?_⟩
  rw [e, List.getElem?_append_left (List.getElem?_eq_some_iff.1 hu).1]; exact hu

theorem cut_stps (A : Option Addr) (n c k : Nat) (hk : k ≤ c) (w : World) : (Instr.slice 43 (.slice A n c) none (some (.int .i64 (k : Int))) none).run Tryd.prog w = .ok (.slice A k c) w := by
  rw [run_slice_h (P := Tryd.prog) (w := w) 43 _ n c (by kernel_rfl) .i64 (k : Int) (by omega) (by omega), show (sizeOf (Tryd.prog.elem 43)).run Tryd.prog w = .ok 6 w by kernel_rfl]
  have e : A.map (fun a => a.add 0) = A := by cases A <;> simp [Addr.add]
  simp only [Result.andThen, sliced, Int.toNat_natCast, Nat.zero_mul, Nat.sub_zero, e, ite_self]

set_option maxRecDepth 100000 in
set_option maxHeartbeats 2000000 in
theorem awake33 (w : World) : Calls Tryd.prog 16 #[] w fun e w' => e = .returned (.bool true) ∧ Below w.heap.size w w' := by
  go_enter Tryd.func16, Tryd.ntmps16
  go_wp2_with fail
  refine (example_any w).mono ?_
  rintro e w1 ⟨fv, lv, rfl, hf, hl, hb1⟩
  have HB1 := Lib.hid hb1
  obtain ⟨av, cv, rfl, -, -, hf3, hf4⟩ := hf
  obtain ⟨Aa, ca, rfl, g1, g2, g3, g4⟩ := hf3
  obtain ⟨Ac, cc, vs, rfl, k1, k2, k3, k4, k5⟩ := hf4
  have HF : Hid (IsForm w1 (.agg #[.int .i64 2, .int .i64 2, .slice Aa 2 ca, .slice Ac 2 cc]) exF) := ⟨_, _, rfl, by simp [exF, I64], by simp [exF, I64], ⟨Aa, ca, rfl, g1, g2, g3, g4⟩, ⟨Ac, cc, vs, rfl, k1, k2, k3, k4, k5⟩⟩
  have HL := Lib.hid hl
  obtain ⟨A, c, ps, hps, rfl, l1, l2, -, -⟩ := hl
  have hpl : ps.length = 5 := by have := congrArg List.length hps; simpa [exL] using this.symm
  rw [hpl] at HL l1 ⊢
  unfold maxLen at l2
  clear hb1 g1 g2 g3 g4 k1 k2 k3 k4 k5 hps hpl
  rw [show exF.ints = 2 from rfl, show exF.bools = 2 from rfl, show exF.atoms.length = 2 from rfl, show exF.clauses.length = 2 from rfl]
  have HA5 : Hid (Asked exF exL) := by have h := ex_asked 5; rwa [show exL.take 5 = exL from rfl] at h
  have HA4 := Lib.hid (ex_asked 4)
  have B0 := Blk.new w1 26 #[.int .i64 2, .int .i64 2, .slice Aa 2 ca, .slice Ac 2 cc]
  have hbW : Below w1.heap.size w1 (w1.alloc (.cells #[.int .i64 2, .int .i64 2, .slice Aa 2 ca, .slice Ac 2 cc] 26)) := (Below.refl _ _).alloc (Nat.le_refl _) _
  go_wp2_with fail
  generalize w1.alloc (.cells #[.int .i64 2, .int .i64 2, .slice Aa 2 ca, .slice Ac 2 cc] 26) = W at *
  have HB0 := Lib.hid B0
  have HBW := Lib.hid hbW
  clear B0 hbW
  refine (pclauses_any _ _ exF exL _ (HF.out.keep HBW.out) (HL.out.keep HBW.out) HA5.out).mono ?_
  rintro e w2 hret
  rw [ex_run] at hret
  rcases hret with ⟨_, v, rfl, us, hom, hb⟩ | ⟨h1, _⟩
  case inr => cases h1
  have HM := Lib.hid hom.mat
  have HB2 := Lib.hid (HBW.out.trans (hb.mono HBW.out.size))
  have B2 := HB0.out.keep hb
  have HB0' := Lib.hid B2
  have q0 := B2.cell 0
  have q1 := B2.cell 1
  have q2 := B2.cell 2
  have q3 := B2.cell 3
  simp only [List.getElem?_toArray, List.getElem?_cons_zero, List.getElem?_cons_succ] at q0 q1 q2 q3
  clear hom hb B2
  go_wp2_with fail
  refine (pcheck_any _ _ exF exL _ (HF.out.keep HB2.out) (HL.out.keep HB2.out) HA5.out).mono ?_
  rintro e w3 ⟨rfl, hb3⟩
  rw [ex_run, show chk ([[1], [2], [-1, -2], [-2], []], true) exL.length = (0, 0) from rfl]
  have HB3 := Lib.hid (HB2.out.trans (hb3.mono HB2.out.size))
  have HM3 := Lib.hid (HM.out.keep hb3)
  have B3 := HB0'.out.keep hb3
  clear q0 q1 q2 q3
  have q0 := B3.cell 0
  have q1 := B3.cell 1
  have q2 := B3.cell 2
  have q3 := B3.cell 3
  simp only [List.getElem?_toArray, List.getElem?_cons_zero, List.getElem?_cons_succ] at q0 q1 q2 q3
  have hlt := B3.lt
  clear hb3 B3
  simp only
  go_wp2_with fail
  have HSOF : Hid (∀ w', Below w3.heap.size w3 w' → w'.cell? ⟨w1.heap.size, 0, none⟩ = some (.int .i64 2) ∧ w'.cell? ⟨w1.heap.size, 1, none⟩ = some (.int .i64 2) ∧ w'.cell? ⟨w1.heap.size, 2, none⟩ = some (.slice Aa 2 ca) ∧ w'.cell? ⟨w1.heap.size, 3, none⟩ = some (.slice Ac 2 cc)) :=
    fun w' h => ⟨(h.cell (p := ⟨w1.heap.size, 0, none⟩) hlt).trans q0, (h.cell (p := ⟨w1.heap.size, 1, none⟩) hlt).trans q1, (h.cell (p := ⟨w1.heap.size, 2, none⟩) hlt).trans q2, (h.cell (p := ⟨w1.heap.size, 3, none⟩) hlt).trans q3⟩
  have ct : ∀ w, (Instr.slice 43 (.slice A 5 c) none (some (.int .i64 4)) none).run Tryd.prog w = .ok (.slice A 4 c) w := fun w => cut_stps A 5 c 4 (by omega) w
  clear q0 q1 q2 q3
  go_region_held3 (fun w' => w'.cell? ⟨w1.heap.size, 0, none⟩ = some (.int .i64 2) ∧ w'.cell? ⟨w1.heap.size, 1, none⟩ = some (.int .i64 2) ∧ w'.cell? ⟨w1.heap.size, 2, none⟩ = some (.slice Aa 2 ca) ∧ w'.cell? ⟨w1.heap.size, 3, none⟩ = some (.slice Ac 2 cc)) (first | assumption | exact HSOF.out _ (Below.refl _ _).drew) (first
    | (go_at_call 34; refine (pcheck_any _ _ exF (exL.take 4) _ (HF.out.keep HB3.out.drew) ((HL.out.keep HB3.out.drew).cut (by omega)) HA4.out).mono ?_; rintro e w4 ⟨he, hb4⟩; rw [ex_run4] at he; obtain rfl : e = .returned (.tuple #[.int .i64 4, .int .i64 15]) := he; have hs4 := HSOF.out w4 (Below.trans (Below.refl _ _).drew hb4)))
  have hb4' : Below w3.heap.size w3 w4 := Below.trans (Below.refl _ _).drew hb4
  have HB4 := Lib.hid (HB3.out.trans (hb4'.mono HB3.out.size))
  have HM4 := Lib.hid (HM3.out.keep hb4')
  clear hs4 hb4 hb4' ct
  obtain ⟨Av, cv, vs2, hvv, m1, m2, m3, m4, m5⟩ := HM4.out
  rw [show ([[1], [2], [-1, -2], [-2], []] : List (List Int)).length = 5 from rfl] at hvv m1
  subst hvv
  obtain ⟨bb, oo, A5, c5, rfl, hbb, hcell, hI⟩ := Mat.at_ m4 m3 m5 (show ([[1], [2], [-1, -2], [-2], []] : List (List Int))[3]? = some [-2] from rfl)
  have HI := Lib.hid hI
  unfold maxLen at m2
  clear m3 m4 m5 hI
  go_wp2_with fail
  refine (same_any _ _ [-2] [-2] _ (HI.out.keep (by go_grown)) (ints_lit (xs := [-2]) (Blk.new w4 3 #[.int .i64 (-2)]) (Below.refl _ _) (by simp [I64]) (by simp [maxLen]))).mono ?_
  rintro e w5 ⟨rfl, n5, rfl⟩
  rw [show decide (([-2] : List Int) = [-2]) = true from rfl]
  go_wp2_with fail
  go_ret
  refine ⟨rfl, ?_⟩
  exact (HB1.out.trans (HB4.out.mono HB1.out.size)).trans (bdrew ((Below.refl _ _).alloc (by have := HB4.out.size; have := HB1.out.size; omega) _) n5)
end Go.Proofs.YtfffalfnjficaaaDoor
