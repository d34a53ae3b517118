/-
  WALKS: slices.IndexFunc and slices.ContainsFunc at []int with a closure over one pointer that may lay blocks of its own; formula.Satisfies$1.
-/
import Derived.Test.YtccpelfnkjckiaaDoorHoldsF
import Derived.Test.YtccpelfnkjckiaaDoorAnyR
import Derived.Shelf.Abstract
namespace Go.Proofs.YtccpelfnkjckiaaDoor
open Go.RowKit

/-- What is asked of a closure over the value pv: it answers p, and what lay in w stays. -/
def Pred1 (g : Nat) (pv : Value) (p : Int → Bool) (w : World) : Prop :=
  ∀ (W : World) (x : Int), I64 x → Below w.heap.size w W → Calls Tryd.prog g #[.int .i64 x, pv] W fun e w' => e = .returned (.bool (p x)) ∧ Below w.heap.size w w'

set_option maxRecDepth 100000 in
theorem index_any (g : Nat) (pv : Value) (p : Int → Bool) (v : Value) (zs : List Int) (w : World) (eg : ∀ args w, (callFunc g args).run Tryd.prog w = .ok (.enter g args) w) (hv : Ints w v zs) (hp : Pred1 g pv p w) :
    Calls Tryd.prog 53 #[v, .func (.func g) #[] #[pv]] w fun e w' => (∃ i : Int, e = .returned (.int .i64 i) ∧ decide (0 ≤ i) = zs.any p) ∧ Below w.heap.size w w' := by
  obtain ⟨A, c, rfl, h1, h2, h3, hr⟩ := hv
  unfold maxLen at h2
  have HX := Lib.hid h3
  have HR := Lib.hid hr
  have HP := Lib.hid hp
  clear hp h3 hr
  go_enter Tryd.func53, Tryd.ntmps53
  go_wp2_with fail
  go_loopw [5, 8] (fun _ i wr => ∃ k : Nat, k ≤ zs.length ∧ i = .int .i64 k ∧ (zs.take k).any p = false ∧ Below w.heap.size w wr) (fun _ i _ => zs.length - (intOf i).toNat)
  case atStart => exact ⟨0, by omega, rfl, by simp, Below.refl _ _⟩
  case round =>
    obtain ⟨k, hk, rfl, hany, hbw⟩ := hrel
    have HBW := Lib.hid hbw
    have HAN := Lib.hid hany
    clear hbw hany
    by_cases hlt : k < zs.length
    · obtain ⟨x, hxk⟩ : ∃ x, zs[k]? = some x := ⟨_, List.getElem?_eq_getElem hlt⟩
      obtain ⟨b1, o1, rfl, hb1, hc1⟩ := (HR.out.keep HBW.out).int hxk
      have HXK := Lib.hid hxk
      have hcall := HP.out wr x (HX.out x (List.mem_of_getElem? hxk)) HBW.out
      clear hxk
      cases hq : p x with
      | true =>
        have HQ := Lib.hid hq
        rw [hq] at hcall
        clear hq
        go_wp2_with (go_at_fn g; refine hcall.mono ?_; rintro e w' ⟨rfl, hb'⟩)
        go_ret
        exact ⟨⟨k, rfl, by rw [any_at HXK.out HQ.out]; simp⟩, hb'⟩
      | false =>
        have HQ := Lib.hid hq
        rw [hq] at hcall
        clear hq
        go_wp2_with (go_at_fn g; refine hcall.mono ?_; rintro e w' ⟨rfl, hb'⟩)
        refine ⟨⟨k + 1, by omega, by go_num, any_take_succ HAN.out HXK.out HQ.out, hb'⟩, by simp [intOf]; omega⟩
    · go_wp2_with fail
      go_ret
      exact ⟨⟨-1, rfl, by rw [any_take_all HAN.out (by omega)]; rfl⟩, HBW.out⟩

set_option maxRecDepth 100000 in
theorem contains_any (g : Nat) (pv : Value) (p : Int → Bool) (v : Value) (zs : List Int) (w : World) (eg : ∀ args w, (callFunc g args).run Tryd.prog w = .ok (.enter g args) w) (hv : Ints w v zs) (hp : Pred1 g pv p w) :
    Calls Tryd.prog 30 #[v, .func (.func g) #[] #[pv]] w fun e w' => e = .returned (.bool (zs.any p)) ∧ Below w.heap.size w w' := by
  have HV := Lib.hid hv
  have HP := Lib.hid hp
  have HE := Lib.hid eg
  obtain ⟨A, c, rfl, h1, h2, h3, hr⟩ := hv
  clear hp h3 hr h2 eg
  go_enter Tryd.func30, Tryd.ntmps30
  go_wp2_with fail
  refine (index_any g pv p _ zs w HE.out HV.out HP.out).mono ?_
  rintro e w' ⟨⟨i, rfl, hi⟩, hb⟩
  have HB := Lib.hid hb
  have HI := Lib.hid hi
  clear hb hi
  simp only
  go_wp2_with fail
  go_ret
  exact ⟨by rw [← HI.out]; rfl, HB.out⟩

section
variable (bv iv : Value) (bs : List Bool)

set_option maxRecDepth 100000 in
theorem satClosure (x : Int) (g : Nat) (W : World) (hx : I64 x) (hb : Blk W g 35 #[bv, iv]) (hB : Bools W bv bs) :
    Calls Tryd.prog 31 #[.int .i64 x, .pointer (some ⟨g, 0, none⟩)] W fun e w' => e = .returned (.bool (holds bs x)) ∧ Below W.heap.size W w' := by
  have q0 := hb.cell 0
  have q1 := hb.cell 1
  simp only [List.getElem?_toArray, List.getElem?_cons_zero, List.getElem?_cons_succ] at q0 q1
  have HX := Lib.hid hx
  have HB := Lib.hid hB
  obtain ⟨A, c, rfl, h1, h2, hr⟩ := hB
  clear hb hr h2 hx
  go_enter Tryd.func31, Tryd.ntmps31
  go_wp2_with fail
  refine (fholds_any _ _ bs _ _ HB.out HX.out).mono ?_
  rintro e w' ⟨rfl, hb⟩
  have HB := Lib.hid hb
  clear hb
  simp only
  go_wp2_with fail
  go_ret
  exact ⟨rfl, HB.out⟩

theorem satPred (g : Nat) (w : World) (hb : Blk w g 35 #[bv, iv]) (hB : Bools w bv bs) :
    Pred1 31 (.pointer (some ⟨g, 0, none⟩)) (holds bs) w := by
  intro W x hx hbW
  refine (satClosure bv iv bs x g W hx (hb.keep hbW) (hB.keep hbW)).mono ?_
  rintro e w' ⟨he, h⟩
  exact ⟨he, hbW.trans (h.mono hbW.size)⟩

end
end Go.Proofs.YtccpelfnkjckiaaDoor
