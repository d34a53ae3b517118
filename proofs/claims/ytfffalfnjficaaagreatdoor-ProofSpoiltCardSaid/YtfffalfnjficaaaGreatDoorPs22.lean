/-
  WORDS: slices that a call has laid by itself (composite literals).
  
-/
import Derived.Test.YtfffalfnjficaaaGreatDoorPs3
import Derived.Test.YtfffalfnjficaaaGreatDoorPs1
namespace Go.Proofs.YtfffalfnjficaaaGreatDoor
open Go.RowKit

theorem ints_lit {w w' : World} {g : Nat} {xs : List Int} (hb : Blk w g 3 (xs.map (Value.int .i64)).toArray) (hk : Below w.heap.size w w') (hx : ∀ x ∈ xs, I64 x) (hl : xs.length ≤ maxLen) :
    Ints w' (.slice (some ⟨g, 0, none⟩) xs.length xs.length) xs := by
  have hb' := hb.keep hk
  refine ⟨_, _, rfl, Nat.le_refl _, hl, hx, fun _ => ⟨g, 0, rfl, hb'.lt, fun j u hu => ?_⟩⟩
  rw [hb'.cell, Nat.zero_add]
  simpa using hu

theorem diffs_lit {w : World} {g : Nat} {ds : List Diff} (hb : Blk w g 61 (ds.flatMap Diff.cells).toArray) (hx : ∀ d ∈ ds, d.ok) (hl : ds.length ≤ maxLen) :
    Diffs w (.slice (some ⟨g, 0, none⟩) ds.length ds.length) ds := by
  refine ⟨_, _, rfl, Nat.le_refl _, hl, hx, fun _ => ⟨g, 0, rfl, hb.lt, fun j u hu => ?_⟩⟩
  rw [hb.cell, Nat.zero_add]
  simpa using hu

theorem mat_lit {w : World} {g : Nat} {vs : List Value} {xss : List (List Int)} (hb : Blk w g 44 vs.toArray) (hl : vs.length = xss.length) (hm : xss.length ≤ maxLen)
    (hi : ∀ (k : Nat) (u : Value) (xs : List Int), vs[k]? = some u → xss[k]? = some xs → Ints w u xs) :
    Mat w (.slice (some ⟨g, 0, none⟩) xss.length xss.length) xss := by
  refine ⟨_, _, vs, rfl, Nat.le_refl _, hm, hl, fun _ => ⟨g, 0, rfl, hb.lt, fun j u hu => ?_⟩, hi⟩
  rw [hb.cell, Nat.zero_add]
  simpa using hu

end Go.Proofs.YtfffalfnjficaaaGreatDoor

namespace Go.Proofs.YtfffalfnjficaaaGreatDoor
open Go.RowKit

set_option maxHeartbeats 400000 in
theorem same_any (a b : Value) (xs ys : List Int) (w : World) (ha : Ints w a xs) (hb : Ints w b ys) :
    Calls Tryz.prog 24 #[a, b] w fun e w' => e = .returned (.bool (decide (xs = ys))) ∧ ∃ n, w' = w.drewN n := by
  obtain ⟨A, c, rfl, hl, hm, hx, hr⟩ := ha
  obtain ⟨A', c', rfl, hl', hm', hx', hr'⟩ := hb
  unfold maxLen at hm hm'
  by_cases hlen : xs.length = ys.length
  · have hne : ((xs.length : Int) != (ys.length : Int)) = false := by simp; omega
    have HX := Lib.hid hx
    have HX' := Lib.hid hx'
    have HR := Lib.hid hr
    have HR' := Lib.hid hr'
    have HL := Lib.hid hlen
    clear hx hx' hr hr' hlen
    go_enter Tryz.func24, Tryz.ntmps24
    go_wp2
    go_loopw [13] (fun i wr => ∃ k n, k ≤ xs.length ∧ i = .int .i64 (k : Nat) ∧ xs.take k = ys.take k ∧ wr = w.drewN n) (fun i _ => xs.length - (intOf i).toNat)
    case atStart => exact ⟨0, 0, by omega, rfl, by simp, rfl⟩
    case round =>
      obtain ⟨k, n, hk, rfl, heq, rfl⟩ := hrel
      have HE := Lib.hid heq
      clear heq
      by_cases hlt : k < xs.length
      · obtain ⟨x, hxk⟩ : ∃ x, xs[k]? = some x := ⟨_, List.getElem?_eq_getElem hlt⟩
        obtain ⟨y, hyk⟩ : ∃ y, ys[k]? = some y := ⟨_, List.getElem?_eq_getElem (by have := HL.out; omega)⟩
        obtain ⟨b1, o1, rfl, hb1, hc1⟩ := HR.out.int hxk
        obtain ⟨b2, o2, rfl, hb2, hc2⟩ := HR'.out.int hyk
        have HXK := Lib.hid hxk
        have HYK := Lib.hid hyk
        clear hxk hyk
        have hlt2 : k < ys.length := by have := HL.out; omega
        by_cases hxy : x = y
        · subst hxy
          go_wp2
          go_quiet (fail)
          go_wp2
          go_roundw
          case rel => exact ⟨k + 1, _, by omega, by go_num, by rw [take_succ_of HXK.out, take_succ_of HYK.out, HE.out], rfl⟩
          case measure => simp [intOf]; omega
        · have hbe : (x != y) = true := by simpa using hxy
          have HD : Hid (decide (xs = ys) = false) := by
            refine decide_eq_false fun h => ?_
            subst h
            have h1 := HXK.out
            rw [HYK.out] at h1
            exact hxy (by injection h1 with h1; exact h1.symm)
          clear hxy
          go_wp2
          go_quiet (fail)
          go_wp2
          go_ret
          exact ⟨by rw [HD.out]; rfl, _, World.drewN_drewN _ _ _⟩
      · have HD : Hid (decide (xs = ys) = true) := by
          refine decide_eq_true ?_
          have h1 := HE.out
          have h2 := HL.out
          rwa [List.take_of_length_le (by omega), List.take_of_length_le (by omega)] at h1
        go_wp2
        go_ret
        exact ⟨by rw [HD.out]; rfl, _, rfl⟩
  · have hd : decide (xs = ys) = false := by simp; intro h; exact hlen (by rw [h])
    rw [hd]
    clear hx hx' hr hr'
    have hne : ((xs.length : Int) != (ys.length : Int)) = true := by simp; omega
    go_enter Tryz.func24, Tryz.ntmps24
    go_wp2
    go_ret
    exact ⟨rfl, 0, rfl⟩
end Go.Proofs.YtfffalfnjficaaaGreatDoor
