/-
  WALK: (*interleavemade.Tape).Next.
-/
import Derived.Test.YtfffalfnjficaaaDoorWords
namespace Go.Proofs.YtfffalfnjficaaaDoor
open Go.RowKit

/-- The value v is a slice of the bytes xs. -/
def Byts (w : World) (v : Value) (xs : List Int) : Prop :=
  ∃ A c, v = .slice A xs.length c ∧ xs.length ≤ c ∧ c ≤ maxLen ∧ (∀ x ∈ xs, 0 ≤ x ∧ x ≤ 255) ∧ Rd w A (xs.map (Value.int .u8))

theorem Byts.keep {w w' : World} {v : Value} {xs : List Int} (h : Byts w v xs) (hb : Below w.heap.size w w') : Byts w' v xs := by
  obtain ⟨A, c, hv, hl, hm, hx, hr⟩ := h
  exact ⟨A, c, hv, hl, hm, hx, hr.keep hb⟩

/-- What Next does: a number below n; only the tape's place moves. -/
def NextRet (w : World) (g : Nat) (lv : Value) (len : Nat) (n : Int) (e : Ending) (w' : World) : Prop :=
  ∃ (x : Int) (at' : Nat), e = .returned (.int .i64 x) ∧ 0 ≤ x ∧ x < n ∧ at' ≤ len ∧ Blk w' g 65 #[lv, .int .i64 at'] ∧ w.grownBy w' (some g) ∧ w'.heap.size = w.heap.size

theorem grownBy_set (w : World) (g i : Nat) (u : Value) (n : Nat) : w.grownBy ((w.setCell ⟨g, i, none⟩ u).drewN n) (some g) := by
  refine ⟨rfl, rfl, rfl, by simp, fun k _ hne => ?_⟩
  exact Below.heap_setCell w ⟨g, i, none⟩ u k (by simpa using hne)

set_option maxRecDepth 100000 in
set_option maxHeartbeats 1000000 in
theorem next_any (g : Nat) (lv : Value) (at_ : Nat) (L : List Int) (n : Int) (w : World) (hB : Blk w g 65 #[lv, .int .i64 at_]) (hL : Byts w lv L) (h1 : 1 ≤ n) (h2 : n ≤ 1000000) (hat : at_ ≤ L.length) (hlen : L.length ≤ 1000000) :
    Calls Tryd.prog 29 #[.pointer (some ⟨g, 0, none⟩), .int .i64 n] w (NextRet w g lv L.length n) := by
  have q0 := hB.cell 0
  have q1 := hB.cell 1
  simp only [List.getElem?_toArray, List.getElem?_cons_zero, List.getElem?_cons_succ] at q0 q1
  have f1 := hB.frozen 1
  have hgl := hB.lt
  have HB := Lib.hid hB
  obtain ⟨A, c, rfl, k1, k2, k3, hr⟩ := hL
  have HR := Lib.hid hr
  have HX := Lib.hid k3
  clear hB k2 k3 hr
  have dn : decide (n < 1) = false := by simp; omega
  by_cases hlt : at_ < L.length
  · obtain ⟨x, hx⟩ : ∃ x, L[at_]? = some x := ⟨_, List.getElem?_eq_getElem hlt⟩
    obtain ⟨b, o, rfl, hb, hc⟩ := HR.out.at_ (u := .int .u8 x) (by rw [List.getElem?_map, hx]; rfl)
    obtain ⟨x1, x2⟩ := HX.out x (List.mem_of_getElem? hx)
    have hbg : b ≠ g := by
      rintro rfl
      rw [HB.out.cell] at hc
      rcases h : o + at_ with _ | _ | m <;> rw [h] at hc <;> simp at hc
    clear hx
    have d1 : decide ((L.length : Int) ≤ (at_ : Int)) = false := by simp; omega
    go_enter Tryd.func29, Tryd.ntmps29
    go_wp2_with fail
    go_quiet (fail)
    go_wp2_with fail
    have B1 : Blk ((w.drewN nq).setCell ⟨g, 1, none⟩ (.int .i64 ((at_ : Int) + 1))) g 65 #[.slice (some ⟨b, o, none⟩) L.length c, .int .i64 ((at_ : Int) + 1)] := (HB.out.drewN nq).set_ 1 _
    have hc1 : ((w.drewN nq).setCell ⟨g, 1, none⟩ (.int .i64 ((at_ : Int) + 1))).cell? ⟨b, o + at_, none⟩ = some (.int .u8 x) :=
      (World.cell?_of_block (a := ⟨b, o + at_, none⟩) (Below.heap_setCell (w.drewN nq) ⟨g, 1, none⟩ _ b hbg)).trans hc
    have hgr : w.grownBy ((w.drewN nq).setCell ⟨g, 1, none⟩ (.int .i64 ((at_ : Int) + 1))) (some g) :=
      ⟨rfl, rfl, rfl, by simp, fun k _ hne => Below.heap_setCell (w.drewN nq) ⟨g, 1, none⟩ _ k (by simpa using hne)⟩
    have hsz : ((w.drewN nq).setCell ⟨g, 1, none⟩ (.int .i64 ((at_ : Int) + 1))).heap.size = w.heap.size := by simp
    generalize (w.drewN nq).setCell ⟨g, 1, none⟩ (.int .i64 ((at_ : Int) + 1)) = W at *
    have q0 := B1.cell 0
    have q1 := B1.cell 1
    simp only [List.getElem?_toArray, List.getElem?_cons_zero, List.getElem?_cons_succ] at q0 q1
    have HB1 := Lib.hid B1
    have HG := Lib.hid hgr
    have HSZ := Lib.hid hsz
    clear B1 hgr hc hsz
    have y1 : IntKind.i64.wrap ((at_ : Int) + 1 - 1) = (at_ : Int) := by rw [show (at_ : Int) + 1 - 1 = at_ by omega]; exact IntWalk.i64_in _ (by omega)
    have y2 : ((at_ : Int)).toNat = at_ := by omega
    have y3 : IntKind.i64.wrap x = x := IntWalk.i64_in _ (by omega)
    have ym1 : 0 ≤ x % n := Int.emod_nonneg _ (by omega)
    have ym2 : x % n < n := Int.emod_lt_of_pos _ (by omega)
    have y4 : IntKind.i64.wrap (x % n) = x % n := IntWalk.i64_in _ (by omega)
    have y5 : (n == 0) = false := by simp; omega
    go_quiet (fail)
    go_wp2_with fail
    go_ret
    exact ⟨x % n, at_ + 1, rfl, ym1, ym2, by omega, HB1.out.drewN _, ⟨HG.out.os, HG.out.tape, HG.out.output, HG.out.size, HG.out.block⟩, HSZ.out⟩
  · have d1 : decide ((L.length : Int) ≤ (at_ : Int)) = true := by simp; omega
    go_enter Tryd.func29, Tryd.ntmps29
    go_wp2_with fail
    go_quiet (fail)
    go_wp2_with fail
    go_ret
    exact ⟨0, at_, rfl, by omega, by omega, hat, HB.out.drewN _, ⟨rfl, rfl, rfl, Nat.le_refl _, fun _ _ _ => rfl⟩, rfl⟩
end Go.Proofs.YtfffalfnjficaaaDoor
