/-
  WALKS: formula.variable, interleaveref31.Abs.
-/
import Derived.Test.YtfffalfnjficaaaDoorWords
namespace Go.Proofs.YtfffalfnjficaaaDoor
open Go.RowKit

theorem variable_pos (x : Int) (w : World) (hx : 0 < x) (hy : x ≤ 9223372036854775807) :
    Calls Tryd.prog 38 #[.int .i64 x] w fun e w' => e = .returned (.int .i64 (x - 1)) ∧ w = w' := by
  go_enter Tryd.func38, Tryd.ntmps38
  go_wp2
  go_ret
  exact ⟨rfl, rfl⟩

theorem variable_neg (x : Int) (w : World) (hx : x < 0) (hy : -9223372036854775808 ≤ x) :
    Calls Tryd.prog 38 #[.int .i64 x] w fun e w' => e = .returned (.int .i64 (-(x + 1))) ∧ w = w' := by
  go_enter Tryd.func38, Tryd.ntmps38
  go_wp2
  go_ret
  exact ⟨rfl, rfl⟩

theorem variable_zero (w : World) :
    Calls Tryd.prog 38 #[.int .i64 0] w fun e w' => e = .returned (.int .i64 (-1)) ∧ w = w' := by
  go_enter Tryd.func38, Tryd.ntmps38
  go_wp2
  go_ret
  exact ⟨rfl, rfl⟩

/-- The boolean of a literal, -1 for 0. -/
def varOf (x : Int) : Int := if 0 < x then x - 1 else if x < 0 then -(x + 1) else -1

theorem variable_any (x : Int) (w : World) (hx : I64 x) :
    Calls Tryd.prog 38 #[.int .i64 x] w fun e w' => e = .returned (.int .i64 (varOf x)) ∧ w = w' := by
  obtain ⟨h1, h2⟩ := hx
  unfold varOf
  by_cases a : 0 < x
  · rw [if_pos a]; exact variable_pos x w a h2
  · rw [if_neg a]
    by_cases b : x < 0
    · rw [if_pos b]; exact variable_neg x w b h1
    · rw [if_neg b]
      obtain rfl : x = 0 := by omega
      exact variable_zero w


end Go.Proofs.YtfffalfnjficaaaDoor
