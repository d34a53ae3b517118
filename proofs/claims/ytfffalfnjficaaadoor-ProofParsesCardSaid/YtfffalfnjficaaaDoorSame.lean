import Derived.Test.YtfffalfnjficaaaDoorWords
namespace Go.Proofs.YtfffalfnjficaaaDoor
open Go.RowKit

set_option maxHeartbeats 400000 in
theorem same_any (a b : Value) (xs ys : List Int) (w : World) (ha : Ints w a xs) (hb : Ints w b ys) :
    Calls Tryd.prog 22 #[a, b] w fun e w' => e = .returned (.bool (decide (xs = ys))) ∧ ∃ n, w' = w.drewN n := by
  obtain ⟨A, c, rfl, hl, hm, hx, hr⟩ := ha
  obtain ⟨A', c', rfl, hl', hm', hx', hr'⟩ := hb
  unfold maxLen at hm hm'
  by_cases hlen : xs.length = ys.length
  · have hne : ((xs.length : Int) != (ys.length : Int)) = false := by simp; omega
    have HX := Lib.hid hx
    have HX' := Lib.hid hx'
    have HR := Lib.hid hr
    have HR' := Lib.hid hr'
    have HL := Lib.hid hlen
    clear hx hx' hr hr' hlen
    go_enter Tryd.func22, Tryd.ntmps22
    go_wp2
    go_loopw [13] (fun i wr => ∃ k n, k ≤ xs.length ∧ i = .int .i64 (k : Nat) ∧ xs.take k = ys.take k ∧ wr = w.drewN n) (fun i _ => xs.length - (intOf i).toNat)
    case atStart => exact ⟨0, 0, by omega, rfl, by simp, rfl⟩
    case round =>
      obtain ⟨k, n, hk, rfl, heq, rfl⟩ := hrel
      have HE := Lib.hid heq
      clear heq
      by_cases hlt : k < xs.length
      · obtain ⟨x, hxk⟩ : ∃ x, xs[k]? = some x := ⟨_, List.getElem?_eq_getElem hlt⟩
        obtain ⟨y, hyk⟩ : ∃ y, ys[k]? = some y := ⟨_, List.getElem?_eq_getElem (by have := HL.out; omega)⟩
        obtain ⟨b1, o1, rfl, hb1, hc1⟩ := HR.out.int hxk
        obtain ⟨b2, o2, rfl, hb2, hc2⟩ := HR'.out.int hyk
        have HXK := Lib.hid hxk
        have HYK := Lib.hid hyk
        clear hxk hyk
        have hlt2 : k < ys.length := by have := HL.out; omega
        by_cases hxy : x = y
        · subst hxy
          go_wp2
          go_quiet (fail)
          go_wp2
          go_roundw
          case rel => exact ⟨k + 1, _, by omega, by go_num, by rw [take_succ_of HXK.out, take_succ_of HYK.out, HE.out], rfl⟩
          case measure => simp [intOf]; omega
        · have hbe : (x != y) = true := by simpa using hxy
          have HD : Hid (decide (xs = ys) = false) := by
            refine decide_eq_false fun h => ?_
            subst h
            have h1 := HXK.out
            rw [HYK.out] at h1
            exact hxy (by injection h1 with h1; exact h1.symm)
          clear hxy
          go_wp2
          go_quiet (fail)
          go_wp2
          go_ret
          exact ⟨by rw [HD.out]; rfl, _, World.drewN_drewN _ _ _⟩
      · have HD : Hid (decide (xs = ys) = true) := by
          refine decide_eq_true ?_
          have h1 := HE.out
          have h2 := HL.out
          rwa [List.take_of_length_le (by omega), List.take_of_length_le (by omega)] at h1
        go_wp2
        go_ret
        exact ⟨by rw [HD.out]; rfl, _, rfl⟩
  · have hd : decide (xs = ys) = false := by simp; intro h; exact hlen (by rw [h])
    rw [hd]
    clear hx hx' hr hr'
    have hne : ((xs.length : Int) != (ys.length : Int)) = true := by simp; omega
    go_enter Tryd.func22, Tryd.ntmps22
    go_wp2
    go_ret
    exact ⟨rfl, 0, rfl⟩
end Go.Proofs.YtfffalfnjficaaaDoor
