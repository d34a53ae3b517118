/-
  WALK: the refuter's method fails.
-/
import Derived.Test.YtdmndikenejhiaaRefut
namespace Go.Proofs.Ytdmndikenejhiaa
open Go.RowKit

/-- The literal is assumed to be false. -/
def falseB (val : List Int) (x : Int) : Bool := val.getD (x.natAbs - 1) 0 == -x
def failsB (val : List Int) (c : List Int) : Bool := c.all (falseB val)

set_option maxRecDepth 100000 in
set_option maxHeartbeats 1000000 in
theorem rfails_any {w0 W : World} {g gv : Nat} {f : Form} {fa fc sv cv : Value} {val : List Int} {ps : List (Stp × Value)} {us : List Value} {cs : List (List Int)} (v : Value) (c : List Int) (h : RF w0 W g gv f fa fc sv cv val ps us cs) (hv : Ints W v c) (hc : ∀ x ∈ c, x ≠ 0 ∧ -(val.length : Int) ≤ x ∧ x ≤ val.length) (hl : val.length ≤ 1024) :
    Calls Try.prog 58 #[.pointer (some ⟨g, 0, none⟩), v] W fun e w' => e = .returned (.bool (failsB val c)) ∧ Below W.heap.size W w' := by
  have H1 := Lib.hid h
  have HC := Lib.hid hc
  obtain ⟨A, cp, rfl, h1, h2, h3, hr⟩ := hv
  unfold maxLen at h2
  have HR := Lib.hid hr
  clear h3 hr hc h
  go_enter Try.func58, Try.ntmps58
  go_wp2_with fail
  go_loopw [9] (fun i wr => ∃ k : Nat, k ≤ c.length ∧ i = .int .i64 k ∧ (c.take k).all (falseB val) = true ∧ Below W.heap.size W wr) (fun i _ => c.length - (intOf i).toNat)
  case atStart => exact ⟨0, by omega, rfl, by simp, Below.refl _ _⟩
  case round =>
    obtain ⟨k, hk, rfl, hall, hbl⟩ := hrel
    have HB := Lib.hid hbl
    have HALL := Lib.hid hall
    have H2 := Lib.hid (H1.out.keep hbl)
    clear hbl hall
    by_cases hlt : k < c.length
    · obtain ⟨x, hx⟩ : ∃ x, c[k]? = some x := ⟨_, List.getElem?_eq_getElem hlt⟩
      obtain ⟨b1, o1, rfl, hb1, hc1⟩ := (HR.out.keep HB.out).int hx
      have HX := Lib.hid hx
      obtain ⟨x0, x1, x2⟩ := HC.out x (List.mem_of_getElem? hx)
      obtain ⟨n, hn⟩ : ∃ n : Nat, x.natAbs = n + 1 := ⟨x.natAbs - 1, by omega⟩
      have hnl : n < val.length := by omega
      obtain ⟨y, hy⟩ : ∃ y, val[n]? = some y := ⟨_, List.getElem?_eq_getElem hnl⟩
      have q4 := H2.out.b.cell 4
      have p1 := H2.out.bv.cell n
      rw [rowI_at hy] at p1
      simp only [List.getElem?_toArray, List.getElem?_cons_zero, List.getElem?_cons_succ] at q4
      have HS : Hid (∀ m, Calls Try.prog 48 #[.int .i64 x] (wr.drewN m) fun e w' => e = .returned (.int .i64 ((n : Int) + 1)) ∧ w' = wr.drewN m) := fun m => by
        have h := abs_any x (wr.drewN m) ⟨by omega, by omega⟩ (by omega)
        rw [hn] at h
        exact h.mono fun e w' hh => ⟨hh.1, hh.2.symm⟩
      have HF : Hid (falseB val x = (y == -x)) := by
        refine Lib.hid ?_
        unfold falseB
        rw [hn, Nat.add_sub_cancel, List.getD_eq_getElem?_getD, hy]; rfl
      have y1 : IntKind.i64.wrap ((n : Int) + 1 - 1) = (n : Int) := by rw [show (n : Int) + 1 - 1 = (n : Int) by omega]; exact IntWalk.i64_in _ (by omega)
      have y2 : IntKind.i64.wrap (-x) = -x := IntWalk.i64_in _ (by omega)
      have y3 : (n : Int) < (val.length : Int) := by omega
      clear hx hy hn
      by_cases e : y = -x
      · have de : (y != -x) = false := by simp [e]
        have HN : Hid ((c.take (k + 1)).all (falseB val) = true) := all_take_succ HALL.out HX.out (by rw [HF.out]; simp [e])
        clear e
        go_wp2_with fail
        go_quiet ((go_at_call 48; exact Calls.quiet_of_same (HS.out _)))
        clear y1 y2
        go_wp2_with fail
        go_roundw
        case rel => exact ⟨k + 1, by omega, by go_num, HN.out, bdrew HB.out _⟩
        case measure => simp [intOf]; omega
      · have de : (y != -x) = true := by simp [e]
        have HN : Hid (failsB val c = false) := by
          refine Lib.hid ?_
          unfold failsB
          rw [List.all_eq_false]
          exact ⟨x, List.mem_of_getElem? HX.out, by rw [HF.out]; simp [e]⟩
        clear e
        go_wp2_with fail
        go_quiet ((go_at_call 48; exact Calls.quiet_of_same (HS.out _)))
        clear y1 y2
        go_wp2_with fail
        go_ret
        exact ⟨by rw [HN.out]; rfl, bdrew HB.out _⟩
    · have HN : Hid (failsB val c = true) := all_take HALL.out (by omega)
      go_wp2_with fail
      go_ret
      exact ⟨by rw [HN.out]; rfl, HB.out⟩
end Go.Proofs.Ytdmndikenejhiaa
