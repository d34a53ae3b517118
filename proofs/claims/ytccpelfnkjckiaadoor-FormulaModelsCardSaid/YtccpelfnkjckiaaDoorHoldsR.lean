/-
  WALK: interleaveref31.Holds: which literals hold in a model.
-/
import Derived.Test.YtccpelfnkjckiaaDoorModel
namespace Go.Proofs.YtccpelfnkjckiaaDoor
open Go.RowKit

section
variable (bv iv : Value) (bs : List Bool) (w : World)

theorem rholds_zero :
    Calls Tryd.prog 55 #[.int .i64 0, .agg #[bv, iv]] w fun e w' => e = .returned (.bool false) ∧ Below w.heap.size w w' := by
  go_enter Tryd.func55, Tryd.ntmps55
  go_wp2
  go_ret
  exact ⟨rfl, by go_grown⟩

theorem rholds_pos (n : Nat) (hb : Bools w bv bs) (hl : n + 1 ≤ 9223372036854775807) :
    Calls Tryd.prog 55 #[.int .i64 ((n : Int) + 1), .agg #[bv, iv]] w fun e w' => e = .returned (.bool (bs.getD n false)) ∧ Below w.heap.size w w' := by
  obtain ⟨A, c, rfl, h1, h2, hr⟩ := hb
  unfold maxLen at h2
  have hz : (((n : Int) + 1) == 0) = false := by simp; omega
  by_cases hlt : n < bs.length
  · obtain ⟨x, hx⟩ : ∃ x, bs[n]? = some x := ⟨_, List.getElem?_eq_getElem hlt⟩
    obtain ⟨b1, o1, rfl, hb1, hc1⟩ := hr.bool hx
    have HX : bs.getD n false = x := by simp [List.getD, hx]
    rw [HX]
    clear hx hr HX
    have h3 : decide ((bs.length : Int) < (n : Int) + 1) = false := by simp; omega
    have h4 : decide ((n : Int) + 1 < -(bs.length : Int)) = false := by simp; omega
    go_enter Tryd.func55, Tryd.ntmps55
    go_wp2
    go_ret
    exact ⟨by simp, by go_grown⟩
  · have HX : bs.getD n false = false := by simp [List.getD, List.getElem?_eq_none (Nat.le_of_not_lt hlt)]
    rw [HX]
    clear hr HX
    have h3 : decide ((bs.length : Int) < (n : Int) + 1) = true := by simp; omega
    go_enter Tryd.func55, Tryd.ntmps55
    go_wp2
    go_ret
    exact ⟨by simp, by go_grown⟩

theorem rholds_neg (n : Nat) (hb : Bools w bv bs) (hl : n + 1 ≤ 9223372036854775808) :
    Calls Tryd.prog 55 #[.int .i64 (-((n : Int) + 1)), .agg #[bv, iv]] w fun e w' => e = .returned (.bool ((bs[n]?).any (!·))) ∧ Below w.heap.size w w' := by
  obtain ⟨A, c, rfl, h1, h2, hr⟩ := hb
  unfold maxLen at h2
  have hz : ((-((n : Int) + 1)) == 0) = false := by simp; omega
  have h3 : decide ((bs.length : Int) < -((n : Int) + 1)) = false := by simp; omega
  by_cases hlt : n < bs.length
  · obtain ⟨x, hx⟩ : ∃ x, bs[n]? = some x := ⟨_, List.getElem?_eq_getElem hlt⟩
    obtain ⟨b1, o1, rfl, hb1, hc1⟩ := hr.bool hx
    rw [hx]
    clear hx hr
    have h4 : decide (-((n : Int) + 1) < -(bs.length : Int)) = false := by simp; omega
    go_enter Tryd.func55, Tryd.ntmps55
    go_wp2
    go_ret
    exact ⟨by simp, by go_grown⟩
  · have HX : (bs[n]?).any (!·) = false := by simp [List.getElem?_eq_none (Nat.le_of_not_lt hlt)]
    rw [HX]
    clear hr HX
    have h4 : decide (-((n : Int) + 1) < -(bs.length : Int)) = true := by simp; omega
    go_enter Tryd.func55, Tryd.ntmps55
    go_wp2
    go_ret
    exact ⟨by simp, by go_grown⟩

theorem rholds_any (lit : Int) (hb : Bools w bv bs) (hl : I64 lit) :
    Calls Tryd.prog 55 #[.int .i64 lit, .agg #[bv, iv]] w fun e w' => e = .returned (.bool (holds bs lit)) ∧ Below w.heap.size w w' := by
  obtain ⟨hl1, hl2⟩ := hl
  rcases lit_cases lit with rfl | ⟨n, rfl⟩ | ⟨n, rfl⟩
  · exact rholds_zero bv iv w
  · rw [holds_pos]; exact rholds_pos bv iv bs w n hb (by omega)
  · rw [holds_neg]; exact rholds_neg bv iv bs w n hb (by omega)
end
end Go.Proofs.YtccpelfnkjckiaaDoor
