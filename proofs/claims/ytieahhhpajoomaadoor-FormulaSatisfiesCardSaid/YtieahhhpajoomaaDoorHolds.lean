/-
  WALKS: formula.Holds and interleaveref31.Holds: which literals hold in a model.
-/
import Derived.Test.YtieahhhpajoomaaDoorNum
namespace Go.Proofs.YtieahhhpajoomaaDoor
open Go.RowKit

/-- The value v is a slice of bs.length elements, and these are bs. -/
def Bools (w : World) (v : Value) (bs : List Bool) : Prop :=
  ∃ A c, v = .slice A bs.length c ∧ bs.length ≤ c ∧ c ≤ maxLen ∧ Rd w A (bs.map Value.bool)

theorem Bools.keep {w w' : World} {v : Value} {xs : List Bool} (h : Bools w v xs) (hb : Below w.heap.size w w') : Bools w' v xs := by
  obtain ⟨A, c, hv, hl, hm, hr⟩ := h
  exact ⟨A, c, hv, hl, hm, hr.keep hb⟩

theorem Rd.bool {w : World} {A : Option Addr} {xs : List Bool} (h : Rd w A (xs.map Value.bool)) {k : Nat} {x : Bool} (hk : xs[k]? = some x) :
    ∃ b off, A = some ⟨b, off, none⟩ ∧ b < w.heap.size ∧ w.cell? ⟨b, off + k, none⟩ = some (.bool x) :=
  h.at_ (by rw [List.getElem?_map, hk]; rfl)

/-- Whether a literal holds. -/
def holds (bs : List Bool) (lit : Int) : Bool :=
  if 0 < lit then bs.getD (lit - 1).toNat false else if lit < 0 then (bs[(-lit - 1).toNat]?).any (!·) else false

theorem holds_zero (bs : List Bool) : holds bs 0 = false := rfl
theorem holds_pos (bs : List Bool) (n : Nat) : holds bs ((n : Int) + 1) = bs.getD n false := by
  unfold holds
  rw [if_pos (by omega), show ((n : Int) + 1 - 1).toNat = n from by omega]
theorem holds_neg (bs : List Bool) (n : Nat) : holds bs (-((n : Int) + 1)) = (bs[n]?).any (!·) := by
  unfold holds
  rw [if_neg (by omega), if_pos (by omega), show (-(-((n : Int) + 1)) - 1).toNat = n from by omega]
theorem lit_cases (lit : Int) : lit = 0 ∨ (∃ n : Nat, lit = (n : Int) + 1) ∨ (∃ n : Nat, lit = -((n : Int) + 1)) := by
  rcases Int.lt_trichotomy lit 0 with h | h | h
  · exact .inr (.inr ⟨(-lit - 1).toNat, by omega⟩)
  · exact .inl h
  · exact .inr (.inl ⟨(lit - 1).toNat, by omega⟩)

section
variable (bv iv : Value) (bs : List Bool) (w : World)

theorem fholds_zero :
    Calls Tryd.prog 24 #[.int .i64 0, .agg #[bv, iv]] w fun e w' => e = .returned (.bool false) ∧ Below w.heap.size w w' := by
  go_enter Tryd.func24, Tryd.ntmps24
  go_wp2_with (go_at_call 33; refine (variable_zero _).mono ?_; rintro e w' ⟨rfl, rfl⟩)
  go_ret
  exact ⟨rfl, by go_grown⟩

theorem fholds_pos (n : Nat) (hb : Bools w bv bs) (hl : n + 1 ≤ 9223372036854775807) :
    Calls Tryd.prog 24 #[.int .i64 ((n : Int) + 1), .agg #[bv, iv]] w fun e w' => e = .returned (.bool (bs.getD n false)) ∧ Below w.heap.size w w' := by
  obtain ⟨A, c, rfl, h1, h2, hr⟩ := hb
  unfold maxLen at h2
  by_cases hlt : n < bs.length
  · obtain ⟨x, hx⟩ : ∃ x, bs[n]? = some x := ⟨_, List.getElem?_eq_getElem hlt⟩
    obtain ⟨b1, o1, rfl, hb1, hc1⟩ := hr.bool hx
    have HX : bs.getD n false = x := by simp [List.getD, hx]
    rw [HX]
    clear hx hr HX
    go_enter Tryd.func24, Tryd.ntmps24
    go_wp2_with (go_at_call 33; refine (variable_pos _ _ (by omega) (by omega)).mono ?_; rintro e w' ⟨rfl, rfl⟩)
    go_ret
    exact ⟨by simp, by go_grown⟩
  · have HX : bs.getD n false = false := by simp [List.getD, List.getElem?_eq_none (Nat.le_of_not_lt hlt)]
    rw [HX]
    clear hr HX
    go_enter Tryd.func24, Tryd.ntmps24
    go_wp2_with (go_at_call 33; refine (variable_pos _ _ (by omega) (by omega)).mono ?_; rintro e w' ⟨rfl, rfl⟩)
    go_ret
    exact ⟨by simp, by go_grown⟩

theorem fholds_neg (n : Nat) (hb : Bools w bv bs) (hl : n + 1 ≤ 9223372036854775808) :
    Calls Tryd.prog 24 #[.int .i64 (-((n : Int) + 1)), .agg #[bv, iv]] w fun e w' => e = .returned (.bool ((bs[n]?).any (!·))) ∧ Below w.heap.size w w' := by
  obtain ⟨A, c, rfl, h1, h2, hr⟩ := hb
  unfold maxLen at h2
  by_cases hlt : n < bs.length
  · obtain ⟨x, hx⟩ : ∃ x, bs[n]? = some x := ⟨_, List.getElem?_eq_getElem hlt⟩
    obtain ⟨b1, o1, rfl, hb1, hc1⟩ := hr.bool hx
    rw [hx]
    clear hx hr
    go_enter Tryd.func24, Tryd.ntmps24
    go_wp2_with (go_at_call 33; refine (variable_neg _ _ (by omega) (by omega)).mono ?_; rintro e w' ⟨rfl, rfl⟩; rw [show -(-((n : Int) + 1) + 1) = (n : Int) from by omega])
    go_ret
    exact ⟨by have h9 : ¬ ((n : Int) + 1 < 0) := by omega
              cases x <;> simp [h9], by go_grown⟩
  · have HX : (bs[n]?).any (!·) = false := by simp [List.getElem?_eq_none (Nat.le_of_not_lt hlt)]
    rw [HX]
    clear hr HX
    go_enter Tryd.func24, Tryd.ntmps24
    go_wp2_with (go_at_call 33; refine (variable_neg _ _ (by omega) (by omega)).mono ?_; rintro e w' ⟨rfl, rfl⟩; rw [show -(-((n : Int) + 1) + 1) = (n : Int) from by omega])
    go_ret
    exact ⟨by simp, by go_grown⟩

theorem fholds_any (lit : Int) (hb : Bools w bv bs) (hl : I64 lit) :
    Calls Tryd.prog 24 #[.int .i64 lit, .agg #[bv, iv]] w fun e w' => e = .returned (.bool (holds bs lit)) ∧ Below w.heap.size w w' := by
  obtain ⟨hl1, hl2⟩ := hl
  rcases lit_cases lit with rfl | ⟨n, rfl⟩ | ⟨n, rfl⟩
  · exact fholds_zero bv iv w
  · rw [holds_pos]; exact fholds_pos bv iv bs w n hb (by omega)
  · rw [holds_neg]; exact fholds_neg bv iv bs w n hb (by omega)

theorem rholds_zero :
    Calls Tryd.prog 26 #[.int .i64 0, .agg #[bv, iv]] w fun e w' => e = .returned (.bool false) ∧ Below w.heap.size w w' := by
  go_enter Tryd.func26, Tryd.ntmps26
  go_wp2
  go_ret
  exact ⟨rfl, by go_grown⟩

theorem rholds_pos (n : Nat) (hb : Bools w bv bs) (hl : n + 1 ≤ 9223372036854775807) :
    Calls Tryd.prog 26 #[.int .i64 ((n : Int) + 1), .agg #[bv, iv]] w fun e w' => e = .returned (.bool (bs.getD n false)) ∧ Below w.heap.size w w' := by
  obtain ⟨A, c, rfl, h1, h2, hr⟩ := hb
  unfold maxLen at h2
  have hz : (((n : Int) + 1) == 0) = false := by simp; omega
  by_cases hlt : n < bs.length
  · obtain ⟨x, hx⟩ : ∃ x, bs[n]? = some x := ⟨_, List.getElem?_eq_getElem hlt⟩
    obtain ⟨b1, o1, rfl, hb1, hc1⟩ := hr.bool hx
    have HX : bs.getD n false = x := by simp [List.getD, hx]
    rw [HX]
    clear hx hr HX
    have h3 : decide ((bs.length : Int) < (n : Int) + 1) = false := by simp; omega
    have h4 : decide ((n : Int) + 1 < -(bs.length : Int)) = false := by simp; omega
    go_enter Tryd.func26, Tryd.ntmps26
    go_wp2
    go_ret
    exact ⟨by simp, by go_grown⟩
  · have HX : bs.getD n false = false := by simp [List.getD, List.getElem?_eq_none (Nat.le_of_not_lt hlt)]
    rw [HX]
    clear hr HX
    have h3 : decide ((bs.length : Int) < (n : Int) + 1) = true := by simp; omega
    go_enter Tryd.func26, Tryd.ntmps26
    go_wp2
    go_ret
    exact ⟨by simp, by go_grown⟩

theorem rholds_neg (n : Nat) (hb : Bools w bv bs) (hl : n + 1 ≤ 9223372036854775808) :
    Calls Tryd.prog 26 #[.int .i64 (-((n : Int) + 1)), .agg #[bv, iv]] w fun e w' => e = .returned (.bool ((bs[n]?).any (!·))) ∧ Below w.heap.size w w' := by
  obtain ⟨A, c, rfl, h1, h2, hr⟩ := hb
  unfold maxLen at h2
  have hz : ((-((n : Int) + 1)) == 0) = false := by simp; omega
  have h3 : decide ((bs.length : Int) < -((n : Int) + 1)) = false := by simp; omega
  by_cases hlt : n < bs.length
  · obtain ⟨x, hx⟩ : ∃ x, bs[n]? = some x := ⟨_, List.getElem?_eq_getElem hlt⟩
    obtain ⟨b1, o1, rfl, hb1, hc1⟩ := hr.bool hx
    rw [hx]
    clear hx hr
    have h4 : decide (-((n : Int) + 1) < -(bs.length : Int)) = false := by simp; omega
    go_enter Tryd.func26, Tryd.ntmps26
    go_wp2
    go_ret
    exact ⟨by simp, by go_grown⟩
  · have HX : (bs[n]?).any (!·) = false := by simp [List.getElem?_eq_none (Nat.le_of_not_lt hlt)]
    rw [HX]
    clear hr HX
    have h4 : decide (-((n : Int) + 1) < -(bs.length : Int)) = true := by simp; omega
    go_enter Tryd.func26, Tryd.ntmps26
    go_wp2
    go_ret
    exact ⟨by simp, by go_grown⟩

theorem rholds_any (lit : Int) (hb : Bools w bv bs) (hl : I64 lit) :
    Calls Tryd.prog 26 #[.int .i64 lit, .agg #[bv, iv]] w fun e w' => e = .returned (.bool (holds bs lit)) ∧ Below w.heap.size w w' := by
  obtain ⟨hl1, hl2⟩ := hl
  rcases lit_cases lit with rfl | ⟨n, rfl⟩ | ⟨n, rfl⟩
  · exact rholds_zero bv iv w
  · rw [holds_pos]; exact rholds_pos bv iv bs w n hb (by omega)
  · rw [holds_neg]; exact rholds_neg bv iv bs w n hb (by omega)
end
end Go.Proofs.YtieahhhpajoomaaDoor
