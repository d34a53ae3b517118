/-
  WALK: formula.Holds: which literals hold in a model.
-/
import Derived.Test.YtccpelfnkjckiaaDoorModel
namespace Go.Proofs.YtccpelfnkjckiaaDoor
open Go.RowKit

section
variable (bv iv : Value) (bs : List Bool) (w : World)

theorem fholds_zero :
    Calls Tryd.prog 32 #[.int .i64 0, .agg #[bv, iv]] w fun e w' => e = .returned (.bool false) ∧ Below w.heap.size w w' := by
  go_enter Tryd.func32, Tryd.ntmps32
  go_wp2_with (go_at_call 54; refine (variable_zero _).mono ?_; rintro e w' ⟨rfl, rfl⟩)
  go_ret
  exact ⟨rfl, by go_grown⟩

theorem fholds_pos (n : Nat) (hb : Bools w bv bs) (hl : n + 1 ≤ 9223372036854775807) :
    Calls Tryd.prog 32 #[.int .i64 ((n : Int) + 1), .agg #[bv, iv]] w fun e w' => e = .returned (.bool (bs.getD n false)) ∧ Below w.heap.size w w' := by
  obtain ⟨A, c, rfl, h1, h2, hr⟩ := hb
  unfold maxLen at h2
  by_cases hlt : n < bs.length
  · obtain ⟨x, hx⟩ : ∃ x, bs[n]? = some x := ⟨_, List.getElem?_eq_getElem hlt⟩
    obtain ⟨b1, o1, rfl, hb1, hc1⟩ := hr.bool hx
    have HX : bs.getD n false = x := by simp [List.getD, hx]
    rw [HX]
    clear hx hr HX
    go_enter Tryd.func32, Tryd.ntmps32
    go_wp2_with (go_at_call 54; refine (variable_pos _ _ (by omega) (by omega)).mono ?_; rintro e w' ⟨rfl, rfl⟩)
    go_ret
    exact ⟨by simp, by go_grown⟩
  · have HX : bs.getD n false = false := by simp [List.getD, List.getElem?_eq_none (Nat.le_of_not_lt hlt)]
    rw [HX]
    clear hr HX
    go_enter Tryd.func32, Tryd.ntmps32
    go_wp2_with (go_at_call 54; refine (variable_pos _ _ (by omega) (by omega)).mono ?_; rintro e w' ⟨rfl, rfl⟩)
    go_ret
    exact ⟨by simp, by go_grown⟩

theorem fholds_neg (n : Nat) (hb : Bools w bv bs) (hl : n + 1 ≤ 9223372036854775808) :
    Calls Tryd.prog 32 #[.int .i64 (-((n : Int) + 1)), .agg #[bv, iv]] w fun e w' => e = .returned (.bool ((bs[n]?).any (!·))) ∧ Below w.heap.size w w' := by
  obtain ⟨A, c, rfl, h1, h2, hr⟩ := hb
  unfold maxLen at h2
  by_cases hlt : n < bs.length
  · obtain ⟨x, hx⟩ : ∃ x, bs[n]? = some x := ⟨_, List.getElem?_eq_getElem hlt⟩
    obtain ⟨b1, o1, rfl, hb1, hc1⟩ := hr.bool hx
    rw [hx]
    clear hx hr
    go_enter Tryd.func32, Tryd.ntmps32
    go_wp2_with (go_at_call 54; refine (variable_neg _ _ (by omega) (by omega)).mono ?_; rintro e w' ⟨rfl, rfl⟩; rw [show -(-((n : Int) + 1) + 1) = (n : Int) from by omega])
    go_ret
    exact ⟨by have h9 : ¬ ((n : Int) + 1 < 0) := by omega
              cases x <;> simp [h9], by go_grown⟩
  · have HX : (bs[n]?).any (!·) = false := by simp [List.getElem?_eq_none (Nat.le_of_not_lt hlt)]
    rw [HX]
    clear hr HX
    go_enter Tryd.func32, Tryd.ntmps32
    go_wp2_with (go_at_call 54; refine (variable_neg _ _ (by omega) (by omega)).mono ?_; rintro e w' ⟨rfl, rfl⟩; rw [show -(-((n : Int) + 1) + 1) = (n : Int) from by omega])
    go_ret
    exact ⟨by simp, by go_grown⟩

theorem fholds_any (lit : Int) (hb : Bools w bv bs) (hl : I64 lit) :
    Calls Tryd.prog 32 #[.int .i64 lit, .agg #[bv, iv]] w fun e w' => e = .returned (.bool (holds bs lit)) ∧ Below w.heap.size w w' := by
  obtain ⟨hl1, hl2⟩ := hl
  rcases lit_cases lit with rfl | ⟨n, rfl⟩ | ⟨n, rfl⟩
  · exact fholds_zero bv iv w
  · rw [holds_pos]; exact fholds_pos bv iv bs w n hb (by omega)
  · rw [holds_neg]; exact fholds_neg bv iv bs w n hb (by omega)

end
end Go.Proofs.YtccpelfnkjckiaaDoor
