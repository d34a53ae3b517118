/-
  WALK: report.Score and the reference's; cmp.Or; slices.Compare and the reference's Compare.
-/
import Derived.Test.YtccpelfnkjckiaaDoorWords
import Derived.Test.YtccpelfnkjckiaaDoorShelf
import Derived.WalkLawsBesides
import Derived.IntWalk
namespace Go.Proofs.YtccpelfnkjckiaaDoor
open Go.RowKit
theorem ret_int64 {a b : Int} (h : a = b) : Ending.returned (.int .i64 a) = .returned (.int .i64 b) := by rw [h]
def scBase (k : Int) : Int := if k = 2 then 1000 else if k = 1 then 800 else if k = 3 then 600 else if k = 4 then 400 else 0
def clip (n m : Int) : Int := if n < 0 then 0 else if m < n then m else n
def scoreOf (k n l : Int) : Int := scBase k + 10 * clip n 20 - clip l 16

theorem scBase_cases (k : Int) : (k = 2 ∧ scBase k = 1000) ∨ (k ≠ 2 ∧ k = 1 ∧ scBase k = 800) ∨ (k ≠ 2 ∧ k ≠ 1 ∧ k = 3 ∧ scBase k = 600) ∨ (k ≠ 2 ∧ k ≠ 1 ∧ k ≠ 3 ∧ k = 4 ∧ scBase k = 400) ∨ (k ≠ 2 ∧ k ≠ 1 ∧ k ≠ 3 ∧ k ≠ 4 ∧ scBase k = 0) := by
  unfold scBase
  by_cases h1 : k = 2
  · simp [h1]
  · by_cases h2 : k = 1
    · simp [h2]
    · by_cases h3 : k = 3
      · simp [h3]
      · by_cases h4 : k = 4
        · simp [h4]
        · simp [h1, h2, h3, h4]
theorem clip_cases (n m : Int) : (n < 0 ∧ clip n m = 0) ∨ (0 ≤ n ∧ m < n ∧ clip n m = m) ∨ (0 ≤ n ∧ n ≤ m ∧ clip n m = n) := by
  unfold clip
  by_cases h1 : n < 0
  · simp [h1]
  · by_cases h2 : m < n
    · simp [h1, h2]; omega
    · simp [h1, h2]; omega

set_option maxHeartbeats 2000000 in
theorem score_any (k n l : Int) (w : World) : Calls Tryd.prog 16 #[.int .i64 k, .int .i64 n, .int .i64 l] w fun e w' => e = .returned (.int .i64 (scoreOf k n l)) ∧ w = w' := by
  go_enter Tryd.func16, Tryd.ntmps16
  go_wp2
  all_goals
    go_ret
    refine ⟨ret_int64 ?_, rfl⟩
    have h1 := scBase_cases k
    have h2 := clip_cases n 20
    have h3 := clip_cases l 16
    simp only [beq_iff_eq, beq_eq_false_iff_ne, ne_eq] at *
    unfold scoreOf
    omega
set_option maxHeartbeats 2000000 in
theorem rscore_any (k n l : Int) (w : World) : Calls Tryd.prog 17 #[.int .i64 k, .int .i64 n, .int .i64 l] w fun e w' => e = .returned (.int .i64 (scoreOf k n l)) ∧ w = w' := by
  go_enter Tryd.func17, Tryd.ntmps17
  go_wp2
  all_goals
    go_ret
    refine ⟨ret_int64 ?_, rfl⟩
    have h1 := scBase_cases k
    have h2 := clip_cases n 20
    have h3 := clip_cases l 16
    simp only [beq_iff_eq, beq_eq_false_iff_ne, ne_eq] at *
    unfold scoreOf
    omega

/-- The order of lists of numbers. -/
def cmpL : List Int → List Int → Int
  | [], [] => 0
  | [], _ :: _ => -1
  | _ :: _, [] => 1
  | x :: xs, y :: ys => if x = y then cmpL xs ys else Lib.compareInt x y

theorem cmpL_range (xs ys : List Int) : cmpL xs ys = -1 ∨ cmpL xs ys = 0 ∨ cmpL xs ys = 1 := by
  induction xs generalizing ys with
  | nil => cases ys <;> simp [cmpL]
  | cons x xs ih =>
    cases ys with
    | nil => simp [cmpL]
    | cons y ys =>
      unfold cmpL
      by_cases h : x = y
      · rw [if_pos h]; exact ih ys
      · rw [if_neg h]; unfold Lib.compareInt; by_cases h1 : x < y
        · simp [h1]
        · simp [h1]; omega
theorem cmpL_drop {xs ys : List Int} {k : Nat} (h : xs.take k = ys.take k) (h1 : k ≤ xs.length) (h2 : k ≤ ys.length) : cmpL xs ys = cmpL (xs.drop k) (ys.drop k) := by
  induction k generalizing xs ys with
  | zero => simp
  | succ k ih =>
    match xs, ys with
    | [], _ => simp at h1
    | _ :: _, [] => simp at h2
    | x :: xs, y :: ys =>
      simp only [List.take_succ_cons, List.cons.injEq] at h
      obtain ⟨rfl, h⟩ := h
      rw [show cmpL (x :: xs) (x :: ys) = cmpL xs ys by simp [cmpL]]
      simp only [List.drop_succ_cons]
      exact ih h (by simpa using h1) (by simpa using h2)
theorem cmpL_at {xs ys : List Int} {k : Nat} {x y : Int} (h : xs.take k = ys.take k) (hx : xs[k]? = some x) (hy : ys[k]? = some y) (hne : x ≠ y) : cmpL xs ys = Lib.compareInt x y := by
  obtain ⟨h1, e1⟩ := List.getElem?_eq_some_iff.1 hx
  obtain ⟨h2, e2⟩ := List.getElem?_eq_some_iff.1 hy
  rw [cmpL_drop h (by omega) (by omega), List.drop_eq_getElem_cons h1, List.drop_eq_getElem_cons h2, e1, e2]
  simp [cmpL, hne]
theorem cmpL_short {xs ys : List Int} (h : xs.take xs.length = ys.take xs.length) (h2 : xs.length < ys.length) : cmpL xs ys = -1 := by
  rw [cmpL_drop h (by omega) (by omega), List.drop_length, List.drop_eq_getElem_cons h2]
  rfl
theorem cmpL_long {xs ys : List Int} (h : xs.take ys.length = ys.take ys.length) (h2 : ys.length < xs.length) : cmpL xs ys = 1 := by
  rw [cmpL_drop h (by omega) (by omega), List.drop_length, List.drop_eq_getElem_cons h2]
  rfl
theorem cmpL_self (xs : List Int) : cmpL xs xs = 0 := by
  induction xs with
  | nil => rfl
  | cons x xs ih => simp [cmpL, ih]
theorem compareInt_lt {x y : Int} (h : x < y) : Lib.compareInt x y = -1 := by unfold Lib.compareInt; rw [if_pos h]
theorem compareInt_gt {x y : Int} (h : y < x) : Lib.compareInt x y = 1 := by unfold Lib.compareInt; rw [if_neg (by omega), if_pos h]
theorem compareInt_self (x : Int) : Lib.compareInt x x = 0 := by unfold Lib.compareInt; simp

set_option maxHeartbeats 1000000 in
theorem scompare_any (a b : Value) (xs ys : List Int) (w : World) (ha : Ints w a xs) (hb : Ints w b ys) :
    Calls Tryd.prog 40 #[a, b] w fun e w' => e = .returned (.int .i64 (cmpL xs ys)) ∧ w = w' := by
  obtain ⟨A, c, rfl, hl, hm, hx, hr⟩ := ha
  obtain ⟨A', c', rfl, hl', hm', hx', hr'⟩ := hb
  unfold maxLen at hm hm'
  have HR := Lib.hid hr
  have HR' := Lib.hid hr'
  clear hx hx' hr hr'
  go_enter Tryd.func40, Tryd.ntmps40
  go_wp2
  go_loop [11] (fun i => ∃ k : Nat, k ≤ xs.length ∧ k ≤ ys.length ∧ i = .int .i64 k ∧ Hid (xs.take k = ys.take k)) (fun i => xs.length - (intOf i).toNat)
  case atStart => exact ⟨0, by omega, by omega, rfl, Lib.hid (by simp)⟩
  case round =>
    obtain ⟨k, hk, hk2, rfl, HE⟩ := hrel
    by_cases hlt : k < xs.length
    · obtain ⟨x, hxk⟩ : ∃ x, xs[k]? = some x := ⟨_, List.getElem?_eq_getElem hlt⟩
      obtain ⟨b1, o1, rfl, hb1, hc1⟩ := HR.out.int hxk
      have HXK := Lib.hid hxk
      clear hxk
      by_cases hlt2 : k < ys.length
      · obtain ⟨y, hyk⟩ : ∃ y, ys[k]? = some y := ⟨_, List.getElem?_eq_getElem hlt2⟩
        obtain ⟨b2, o2, rfl, hb2, hc2⟩ := HR'.out.int hyk
        have HYK := Lib.hid hyk
        clear hyk
        by_cases hxy : x = y
        · subst hxy
          have HC := Lib.hid (compareInt_self x)
          go_wp2_with (go_at_call 39; refine (Tryd.cmp_Compare_int _ _ _).mono ?_; rintro e w' ⟨rfl, rfl⟩; rw [HC.out])
          go_round
          case rel => exact ⟨k + 1, by omega, by omega, by go_num, Lib.hid (by rw [take_succ_of HXK.out, take_succ_of HYK.out, HE.out])⟩
          case measure => simp [intOf]; omega
        · have HC := Lib.hid (cmpL_at HE.out HXK.out HYK.out hxy)
          by_cases hs : x < y
          · have HD := Lib.hid (compareInt_lt hs)
            clear hxy hs
            go_wp2_with (go_at_call 39; refine (Tryd.cmp_Compare_int _ _ _).mono ?_; rintro e w' ⟨rfl, rfl⟩; rw [HD.out])
            go_ret
            exact ⟨ret_int64 (by rw [HC.out, HD.out]), rfl⟩
          · have HD := Lib.hid (compareInt_gt (x := x) (y := y) (by omega))
            clear hxy hs
            go_wp2_with (go_at_call 39; refine (Tryd.cmp_Compare_int _ _ _).mono ?_; rintro e w' ⟨rfl, rfl⟩; rw [HD.out])
            go_ret
            exact ⟨ret_int64 (by rw [HC.out, HD.out]), rfl⟩
      · obtain rfl : k = ys.length := by omega
        have HC := Lib.hid (cmpL_long HE.out hlt)
        go_wp2
        go_ret
        exact ⟨ret_int64 HC.out.symm, rfl⟩
    · obtain rfl : k = xs.length := by omega
      by_cases hlt2 : xs.length < ys.length
      · have HC := Lib.hid (cmpL_short HE.out hlt2)
        go_wp2
        go_ret
        exact ⟨ret_int64 HC.out.symm, rfl⟩
      · have HC : Hid (cmpL xs ys = 0) := Lib.hid (by
          have h := HE.out
          rw [List.take_length, List.take_of_length_le (by omega)] at h
          rw [h, cmpL_self])
        go_wp2
        go_ret
        exact ⟨ret_int64 HC.out.symm, rfl⟩
set_option maxHeartbeats 1000000 in
theorem rcompare_any (a b : Value) (xs ys : List Int) (w : World) (ha : Ints w a xs) (hb : Ints w b ys) :
    Calls Tryd.prog 46 #[a, b] w fun e w' => e = .returned (.int .i64 (cmpL xs ys)) ∧ ∃ n, w' = w.drewN n := by
  obtain ⟨A, c, rfl, hl, hm, hx, hr⟩ := ha
  obtain ⟨A', c', rfl, hl', hm', hx', hr'⟩ := hb
  unfold maxLen at hm hm'
  have HR := Lib.hid hr
  have HR' := Lib.hid hr'
  clear hx hx' hr hr'
  go_enter Tryd.func46, Tryd.ntmps46
  go_wp2
  go_loopw [5] (fun i wr => ∃ k n : Nat, k ≤ xs.length ∧ k ≤ ys.length ∧ i = .int .i64 k ∧ Hid (xs.take k = ys.take k) ∧ wr = w.drewN n) (fun i _ => xs.length - (intOf i).toNat)
  case atStart => exact ⟨0, 0, by omega, by omega, rfl, Lib.hid (by simp), rfl⟩
  case round =>
    obtain ⟨k, n, hk, hk2, rfl, HE, rfl⟩ := hrel
    by_cases hlt : k < xs.length
    · obtain ⟨x, hxk⟩ : ∃ x, xs[k]? = some x := ⟨_, List.getElem?_eq_getElem hlt⟩
      obtain ⟨b1, o1, rfl, hb1, hc1⟩ := HR.out.int hxk
      have HXK := Lib.hid hxk
      clear hxk
      by_cases hlt2 : k < ys.length
      · obtain ⟨y, hyk⟩ : ∃ y, ys[k]? = some y := ⟨_, List.getElem?_eq_getElem hlt2⟩
        obtain ⟨b2, o2, rfl, hb2, hc2⟩ := HR'.out.int hyk
        have HYK := Lib.hid hyk
        clear hyk
        by_cases hxy : x = y
        · subst hxy
          have hne : (x != x) = false := by simp
          go_wp2
          go_quiet (fail)
          go_wp2
          go_roundw
          case rel => exact ⟨k + 1, _, by omega, by omega, by go_num, Lib.hid (by rw [take_succ_of HXK.out, take_succ_of HYK.out, HE.out]), rfl⟩
          case measure => simp [intOf]; omega
        · have HC := Lib.hid (cmpL_at HE.out HXK.out HYK.out hxy)
          have hne : (x != y) = true := by simpa using hxy
          by_cases hs : x < y
          · have HD := Lib.hid (compareInt_lt hs)
            clear hxy
            go_wp2
            go_quiet (fail)
            go_wp2
            go_quiet (fail)
            go_wp2
            go_ret
            exact ⟨ret_int64 (by rw [HC.out, HD.out]), _, by rw [World.drewN_drewN, World.drewN_drewN]⟩
          · have HD := Lib.hid (compareInt_gt (x := x) (y := y) (by omega))
            clear hxy
            go_wp2
            go_quiet (fail)
            go_wp2
            go_quiet (fail)
            go_wp2
            go_ret
            exact ⟨ret_int64 (by rw [HC.out, HD.out]), _, by rw [World.drewN_drewN, World.drewN_drewN]⟩
      · obtain rfl : k = ys.length := by omega
        have HC := Lib.hid (cmpL_long HE.out hlt)
        have d1 : decide (ys.length < ys.length) = false := by simp
        have d2 : decide (xs.length < ys.length) = false := by simp; omega
        go_wp2
        go_ret
        exact ⟨ret_int64 HC.out.symm, _, rfl⟩
    · obtain rfl : k = xs.length := by omega
      have d1 : decide (xs.length < xs.length) = false := by simp
      by_cases hlt2 : xs.length < ys.length
      · have HC := Lib.hid (cmpL_short HE.out hlt2)
        go_wp2
        go_ret
        exact ⟨ret_int64 HC.out.symm, _, rfl⟩
      · have HC : Hid (cmpL xs ys = 0) := Lib.hid (by
          have h := HE.out
          rw [List.take_length, List.take_of_length_le (by omega)] at h
          rw [h, cmpL_self])
        have d2 : decide (xs.length < ys.length) = false := by simp; omega
        have d3 : decide (ys.length < xs.length) = false := by simp; omega
        go_wp2
        go_ret
        exact ⟨ret_int64 HC.out.symm, _, rfl⟩
end Go.Proofs.YtccpelfnkjckiaaDoor
