/-
  WALK: interleaveref31.Any.
-/
import Derived.Test.YtccpelfnkjckiaaDoorHoldsR
namespace Go.Proofs.YtccpelfnkjckiaaDoor
open Go.RowKit

section
variable (bv iv : Value) (bs : List Bool)

set_option maxRecDepth 100000 in
theorem rany_any (v : Value) (zs : List Int) (w : World) (hv : Ints w v zs) (hB : Bools w bv bs) :
    Calls Tryd.prog 33 #[v, .agg #[bv, iv]] w fun e w' => e = .returned (.bool (zs.any (holds bs))) ∧ Below w.heap.size w w' := by
  obtain ⟨A, c, rfl, h1, h2, h3, hr⟩ := hv
  unfold maxLen at h2
  have HX := Lib.hid h3
  have HR := Lib.hid hr
  have HBO := Lib.hid hB
  obtain ⟨A', c', rfl, h1', h2', -⟩ := hB
  clear h3 hr h2'
  go_enter Tryd.func33, Tryd.ntmps33
  go_wp2_with fail
  have B0 := Blk.new w 35 #[.slice A' bs.length c', iv]
  generalize hW : w.alloc (.cells #[.slice A' bs.length c', iv] 35) = W at B0 ⊢
  have hbW : Below w.heap.size w W := by rw [← hW]; go_grown
  have HBW := Lib.hid hbW
  have hszW : w.heap.size < W.heap.size := by rw [← hW]; simp
  have HB0 := Lib.hid B0
  clear hW B0 hbW
  go_loopw [9] (fun i wr => ∃ k : Nat, k ≤ zs.length ∧ i = .int .i64 k ∧ (zs.take k).any (holds bs) = false ∧ Below W.heap.size W wr) (fun i _ => zs.length - (intOf i).toNat)
  case atStart => exact ⟨0, by omega, rfl, by simp, Below.refl _ _⟩
  case round =>
    obtain ⟨k, hk, rfl, hany, hbw⟩ := hrel
    have HBR := Lib.hid hbw
    have HAN := Lib.hid hany
    have B1 := HB0.out.keep hbw
    have q0 := B1.cell 0
    have q1 := B1.cell 1
    simp only [List.getElem?_toArray, List.getElem?_cons_zero, List.getElem?_cons_succ] at q0 q1
    have HBB : Hid (Below w.heap.size w wr) := HBW.out.trans (hbw.mono HBW.out.size)
    clear hbw hany B1
    by_cases hlt : k < zs.length
    · obtain ⟨x, hxk⟩ : ∃ x, zs[k]? = some x := ⟨_, List.getElem?_eq_getElem hlt⟩
      obtain ⟨b1, o1, rfl, hb1, hc1⟩ := (HR.out.keep HBB.out).int hxk
      have HXK := Lib.hid hxk
      clear hxk
      go_wp2_with fail
      refine (rholds_any _ _ bs _ _ (HBO.out.keep HBB.out) (HX.out x (List.mem_of_getElem? HXK.out))).mono ?_
      rintro e w2 ⟨rfl, hb2⟩
      have HB2 := Lib.hid hb2
      clear hb2
      cases hq : holds bs x with
      | true =>
        have HQ := Lib.hid hq
        clear hq
        simp only
        go_wp2_with fail
        go_ret
        exact ⟨by rw [any_at HXK.out HQ.out]; rfl, HBB.out.trans (HB2.out.mono HBB.out.size)⟩
      | false =>
        have HQ := Lib.hid hq
        clear hq
        simp only
        go_wp2_with fail
        refine ⟨⟨k + 1, by omega, by go_num, any_take_succ HAN.out HXK.out HQ.out, HBR.out.trans (HB2.out.mono HBR.out.size)⟩, by simp [intOf]; omega⟩
    · go_wp2_with fail
      go_ret
      exact ⟨by rw [any_take_all HAN.out (by omega)]; rfl, HBB.out⟩
end
end Go.Proofs.YtccpelfnkjckiaaDoor
