/-
  WALKS: slices.IndexFunc and slices.ContainsFunc at []int with a closure over one pointer that may lay blocks of its own; formula.Satisfies$1; interleaveref31.Any.
-/
import Derived.Test.YtieahhhpajoomaaDoorHolds
import Derived.Shelf.Abstract
namespace Go.Proofs.YtieahhhpajoomaaDoor
open Go.RowKit

/-- What is asked of a closure over the value pv: it answers p, and what lay in w stays. -/
def Pred1 (g : Nat) (pv : Value) (p : Int → Bool) (w : World) : Prop :=
  ∀ (W : World) (x : Int), I64 x → Below w.heap.size w W → Calls Tryd.prog g #[.int .i64 x, pv] W fun e w' => e = .returned (.bool (p x)) ∧ Below w.heap.size w w'

theorem any_take_succ {α : Type} {l : List α} {p : α → Bool} {k : Nat} {x : α} (h : (l.take k).any p = false) (hk : l[k]? = some x) (hx : p x = false) : (l.take (k + 1)).any p = false := by
  rw [take_succ_of hk, List.any_append, h]; simp [hx]
theorem any_at {α : Type} {l : List α} {p : α → Bool} {k : Nat} {x : α} (hk : l[k]? = some x) (hx : p x = true) : l.any p = true := by
  rw [List.any_eq_true]; exact ⟨x, List.mem_of_getElem? hk, hx⟩
theorem any_take_all {α : Type} {l : List α} {p : α → Bool} {k : Nat} (h : (l.take k).any p = false) (hk : l.length ≤ k) : l.any p = false := by
  rwa [List.take_of_length_le hk] at h

set_option maxRecDepth 100000 in
theorem index_any (g : Nat) (pv : Value) (p : Int → Bool) (v : Value) (zs : List Int) (w : World) (eg : ∀ args w, (callFunc g args).run Tryd.prog w = .ok (.enter g args) w) (hv : Ints w v zs) (hp : Pred1 g pv p w) :
    Calls Tryd.prog 47 #[v, .func (.func g) #[] #[pv]] w fun e w' => (∃ i : Int, e = .returned (.int .i64 i) ∧ decide (0 ≤ i) = zs.any p) ∧ Below w.heap.size w w' := by
  obtain ⟨A, c, rfl, h1, h2, h3, hr⟩ := hv
  unfold maxLen at h2
  have HX := Lib.hid h3
  have HR := Lib.hid hr
  have HP := Lib.hid hp
  clear hp h3 hr
  go_enter Tryd.func47, Tryd.ntmps47
  go_wp2_with fail
  go_loopw [5, 8] (fun _ i wr => ∃ k : Nat, k ≤ zs.length ∧ i = .int .i64 k ∧ (zs.take k).any p = false ∧ Below w.heap.size w wr) (fun _ i _ => zs.length - (intOf i).toNat)
  case atStart => exact ⟨0, by omega, rfl, by simp, Below.refl _ _⟩
  case round =>
    obtain ⟨k, hk, rfl, hany, hbw⟩ := hrel
    have HBW := Lib.hid hbw
    have HAN := Lib.hid hany
    clear hbw hany
    by_cases hlt : k < zs.length
    · obtain ⟨x, hxk⟩ : ∃ x, zs[k]? = some x := ⟨_, List.getElem?_eq_getElem hlt⟩
      obtain ⟨b1, o1, rfl, hb1, hc1⟩ := (HR.out.keep HBW.out).int hxk
      have HXK := Lib.hid hxk
      have hcall := HP.out wr x (HX.out x (List.mem_of_getElem? hxk)) HBW.out
      clear hxk
      cases hq : p x with
      | true =>
        have HQ := Lib.hid hq
        rw [hq] at hcall
        clear hq
        go_wp2_with (go_at_fn g; refine hcall.mono ?_; rintro e w' ⟨rfl, hb'⟩)
        go_ret
        exact ⟨⟨k, rfl, by rw [any_at HXK.out HQ.out]; simp⟩, hb'⟩
      | false =>
        have HQ := Lib.hid hq
        rw [hq] at hcall
        clear hq
        go_wp2_with (go_at_fn g; refine hcall.mono ?_; rintro e w' ⟨rfl, hb'⟩)
        refine ⟨⟨k + 1, by omega, by go_num, any_take_succ HAN.out HXK.out HQ.out, hb'⟩, by simp [intOf]; omega⟩
    · go_wp2_with fail
      go_ret
      exact ⟨⟨-1, rfl, by rw [any_take_all HAN.out (by omega)]; rfl⟩, HBW.out⟩

set_option maxRecDepth 100000 in
theorem contains_any (g : Nat) (pv : Value) (p : Int → Bool) (v : Value) (zs : List Int) (w : World) (eg : ∀ args w, (callFunc g args).run Tryd.prog w = .ok (.enter g args) w) (hv : Ints w v zs) (hp : Pred1 g pv p w) :
    Calls Tryd.prog 38 #[v, .func (.func g) #[] #[pv]] w fun e w' => e = .returned (.bool (zs.any p)) ∧ Below w.heap.size w w' := by
  have HV := Lib.hid hv
  have HP := Lib.hid hp
  have HE := Lib.hid eg
  obtain ⟨A, c, rfl, h1, h2, h3, hr⟩ := hv
  clear hp h3 hr h2 eg
  go_enter Tryd.func38, Tryd.ntmps38
  go_wp2_with fail
  refine (index_any g pv p _ zs w HE.out HV.out HP.out).mono ?_
  rintro e w' ⟨⟨i, rfl, hi⟩, hb⟩
  have HB := Lib.hid hb
  have HI := Lib.hid hi
  clear hb hi
  simp only
  go_wp2_with fail
  go_ret
  exact ⟨by rw [← HI.out]; rfl, HB.out⟩

section
variable (bv iv : Value) (bs : List Bool)

set_option maxRecDepth 100000 in
theorem satClosure (x : Int) (g : Nat) (W : World) (hx : I64 x) (hb : Blk W g 44 #[bv, iv]) (hB : Bools W bv bs) :
    Calls Tryd.prog 39 #[.int .i64 x, .pointer (some ⟨g, 0, none⟩)] W fun e w' => e = .returned (.bool (holds bs x)) ∧ Below W.heap.size W w' := by
  have q0 := hb.cell 0
  have q1 := hb.cell 1
  simp only [List.getElem?_toArray, List.getElem?_cons_zero, List.getElem?_cons_succ] at q0 q1
  have HX := Lib.hid hx
  have HB := Lib.hid hB
  obtain ⟨A, c, rfl, h1, h2, hr⟩ := hB
  clear hb hr h2 hx
  go_enter Tryd.func39, Tryd.ntmps39
  go_wp2_with fail
  refine (fholds_any _ _ bs _ _ HB.out HX.out).mono ?_
  rintro e w' ⟨rfl, hb⟩
  have HB := Lib.hid hb
  clear hb
  simp only
  go_wp2_with fail
  go_ret
  exact ⟨rfl, HB.out⟩

theorem satPred (g : Nat) (w : World) (hb : Blk w g 44 #[bv, iv]) (hB : Bools w bv bs) :
    Pred1 39 (.pointer (some ⟨g, 0, none⟩)) (holds bs) w := by
  intro W x hx hbW
  refine (satClosure bv iv bs x g W hx (hb.keep hbW) (hB.keep hbW)).mono ?_
  rintro e w' ⟨he, h⟩
  exact ⟨he, hbW.trans (h.mono hbW.size)⟩

set_option maxRecDepth 100000 in
theorem rany_any (v : Value) (zs : List Int) (w : World) (hv : Ints w v zs) (hB : Bools w bv bs) :
    Calls Tryd.prog 40 #[v, .agg #[bv, iv]] w fun e w' => e = .returned (.bool (zs.any (holds bs))) ∧ Below w.heap.size w w' := by
  obtain ⟨A, c, rfl, h1, h2, h3, hr⟩ := hv
  unfold maxLen at h2
  have HX := Lib.hid h3
  have HR := Lib.hid hr
  have HBO := Lib.hid hB
  obtain ⟨A', c', rfl, h1', h2', -⟩ := hB
  clear h3 hr h2'
  go_enter Tryd.func40, Tryd.ntmps40
  go_wp2_with fail
  have B0 := Blk.new w 44 #[.slice A' bs.length c', iv]
  generalize hW : w.alloc (.cells #[.slice A' bs.length c', iv] 44) = W at B0 ⊢
  have hbW : Below w.heap.size w W := by rw [← hW]; go_grown
  have HBW := Lib.hid hbW
  have hszW : w.heap.size < W.heap.size := by rw [← hW]; simp
  have HB0 := Lib.hid B0
  clear hW B0 hbW
  go_loopw [9] (fun i wr => ∃ k : Nat, k ≤ zs.length ∧ i = .int .i64 k ∧ (zs.take k).any (holds bs) = false ∧ Below W.heap.size W wr) (fun i _ => zs.length - (intOf i).toNat)
  case atStart => exact ⟨0, by omega, rfl, by simp, Below.refl _ _⟩
  case round =>
    obtain ⟨k, hk, rfl, hany, hbw⟩ := hrel
    have HBR := Lib.hid hbw
    have HAN := Lib.hid hany
    have B1 := HB0.out.keep hbw
    have q0 := B1.cell 0
    have q1 := B1.cell 1
    simp only [List.getElem?_toArray, List.getElem?_cons_zero, List.getElem?_cons_succ] at q0 q1
    have HBB : Hid (Below w.heap.size w wr) := HBW.out.trans (hbw.mono HBW.out.size)
    clear hbw hany B1
    by_cases hlt : k < zs.length
    · obtain ⟨x, hxk⟩ : ∃ x, zs[k]? = some x := ⟨_, List.getElem?_eq_getElem hlt⟩
      obtain ⟨b1, o1, rfl, hb1, hc1⟩ := (HR.out.keep HBB.out).int hxk
      have HXK := Lib.hid hxk
      clear hxk
      go_wp2_with fail
      refine (rholds_any _ _ bs _ _ (HBO.out.keep HBB.out) (HX.out x (List.mem_of_getElem? HXK.out))).mono ?_
      rintro e w2 ⟨rfl, hb2⟩
      have HB2 := Lib.hid hb2
      clear hb2
      cases hq : holds bs x with
      | true =>
        have HQ := Lib.hid hq
        clear hq
        simp only
        go_wp2_with fail
        go_ret
        exact ⟨by rw [any_at HXK.out HQ.out]; rfl, HBB.out.trans (HB2.out.mono HBB.out.size)⟩
      | false =>
        have HQ := Lib.hid hq
        clear hq
        simp only
        go_wp2_with fail
        refine ⟨⟨k + 1, by omega, by go_num, any_take_succ HAN.out HXK.out HQ.out, HBR.out.trans (HB2.out.mono HBR.out.size)⟩, by simp [intOf]; omega⟩
    · go_wp2_with fail
      go_ret
      exact ⟨by rw [any_take_all HAN.out (by omega)]; rfl, HBB.out⟩
end
end Go.Proofs.YtieahhhpajoomaaDoor
