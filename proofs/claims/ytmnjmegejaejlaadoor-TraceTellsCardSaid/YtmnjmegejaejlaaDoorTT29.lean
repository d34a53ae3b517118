/-
  WALK: interleavelaw16.awake; what the reading of a text of a trace answers, as one.
-/
import Derived.Test.YtmnjmegejaejlaaDoorTT28
namespace Go.Proofs.YtmnjmegejaejlaaDoor
open Go.RowKit

/-- The text is read as the trace t, or the error er at line ln. -/
def TOut (s : List UInt8) (t : Trc) (er ln : Int) : Prop := (RunT trc0 0 1 s (.ok t) ∧ er = 0 ∧ ln = 0) ∨ (∃ k : Nat, RunT trc0 0 1 s (.bad k) ∧ t = trc0 ∧ er = 11 ∧ ln = (k : Int))
theorem TOut.fn {s : List UInt8} {t t' : Trc} {er er' ln ln' : Int} (h : TOut s t er ln) (h' : TOut s t' er' ln') : t = t' ∧ er = er' ∧ ln = ln' := by
  rcases h with ⟨h1, rfl, rfl⟩ | ⟨k, h1, rfl, rfl, rfl⟩
  · rcases h' with ⟨h2, rfl, rfl⟩ | ⟨k', h2, rfl, rfl, rfl⟩
    · have e := h1.fn h2
      injection e with e
      exact ⟨e, rfl, rfl⟩
    · have e := h1.fn h2
      cases e
  · rcases h' with ⟨h2, rfl, rfl⟩ | ⟨k', h2, rfl, rfl, rfl⟩
    · have e := h1.fn h2
      cases e
    · have e := h1.fn h2
      injection e with e
      subst e
      exact ⟨rfl, rfl, rfl⟩
theorem isTrc_z (w : World) : IsTrc w zTrc trc0 := by
  refine ⟨nilV, [], rfl, fun i hi => ?_, rfl, fun k e d h => by simp [trc0] at h, ⟨by simp [trc0], by simp [trc0], by simp [trc0], by simp [trc0]⟩⟩
  have hi7 : i = 0 ∨ i = 1 ∨ i = 2 ∨ i = 3 ∨ i = 4 ∨ i = 5 ∨ i = 6 := by omega
  rcases hi7 with rfl | rfl | rfl | rfl | rfl | rfl | rfl <;> exact ⟨none, 0, rfl, Nat.le_refl _, by simp [maxLen], fun h => by simp [rowX, trc0] at h⟩
theorem TrcEnd.shape {w w' : World} {s : List UInt8} {e : Ending} (h : TrcEnd w s e w') :
    ∃ (X0 X1 X2 X3 X4 X5 X6 : Option Addr) (nx0 nx1 nx2 nx3 nx4 nx5 nx6 cx0 cx1 cx2 cx3 cx4 cx5 cx6 : Nat) (t : Trc) (er ln : Int), e = .returned (.tuple #[.agg #[.slice X0 nx0 cx0, .slice X1 nx1 cx1, .slice X2 nx2 cx2, .slice X3 nx3 cx3, .slice X4 nx4 cx4, .slice X5 nx5 cx5, .slice X6 nx6 cx6], .int .i64 er, .int .i64 ln]) ∧ IsTrc w' (.agg #[.slice X0 nx0 cx0, .slice X1 nx1 cx1, .slice X2 nx2 cx2, .slice X3 nx3 cx3, .slice X4 nx4 cx4, .slice X5 nx5 cx5, .slice X6 nx6 cx6]) t ∧ TOut s t er ln := by
  obtain ⟨-, ⟨t, vv, h1, rfl, h2⟩ | ⟨k, h1, rfl⟩⟩ := h
  · obtain ⟨v, ds, rfl, h3, h4⟩ := id h2
    obtain ⟨X0, cx0, f0, -⟩ := h3 0 (by omega)
    obtain ⟨X1, cx1, f1, -⟩ := h3 1 (by omega)
    obtain ⟨X2, cx2, f2, -⟩ := h3 2 (by omega)
    obtain ⟨X3, cx3, f3, -⟩ := h3 3 (by omega)
    obtain ⟨X4, cx4, f4, -⟩ := h3 4 (by omega)
    obtain ⟨X5, cx5, f5, -⟩ := h3 5 (by omega)
    obtain ⟨X6, cx6, f6, -⟩ := h3 6 (by omega)
    rw [f0, f1, f2, f3, f4, f5, f6] at h2 ⊢
    exact ⟨X0, X1, X2, X3, X4, X5, X6, rowN t 0, rowN t 1, rowN t 2, rowN t 3, rowN t 4, rowN t 5, rowN t 6, cx0, cx1, cx2, cx3, cx4, cx5, cx6, t, 0, 0, rfl, h2, .inl ⟨h1, rfl, rfl⟩⟩
  · exact ⟨none, none, none, none, none, none, none, 0, 0, 0, 0, 0, 0, 0, 0, 0, 0, 0, 0, 0, 0, trc0, 11, k, rfl, isTrc_z w', .inr ⟨k, h1, rfl, rfl, rfl⟩⟩
def awLine : List UInt8 := [101, 118, 101, 110, 116, 32, 48, 32, 108, 111, 97, 100, 32, 50, 32, 55, 32, 51, 32, 100, 101, 112, 115, 32, 49, 32, 50]
def awEv : Evn := ⟨0, 3, 2, 7, 3, [1, 2], []⟩
def awTrc : Trc := trc0.add (.event awEv)
theorem awLine_is : lineI awLine = some (.event awEv) := by kernel_rfl
theorem awRun : RunT trc0 0 1 [101, 118, 101, 110, 116, 32, 48, 32, 108, 111, 97, 100, 32, 50, 32, 55, 32, 51, 32, 100, 101, 112, 115, 32, 49, 32, 50, 10] (.ok awTrc) :=
  .next (i := .event awEv) (a := awLine) (b := []) rfl (by decide) awLine_is (by simp [Item.group]) (.done _ _ _)
set_option maxRecDepth 100000 in
set_option maxHeartbeats 4000000 in
theorem awake16 (w : World) (hp : PT w) : Calls Tryd.prog 9 #[] w fun e w' => e = .returned (.bool true) ∧ Below w.heap.size w w' := by
  have HCALL := Lib.hid (tparse_any [101, 118, 101, 110, 116, 32, 48, 32, 108, 111, 97, 100, 32, 50, 32, 55, 32, 51, 32, 100, 101, 112, 115, 32, 49, 32, 50, 10] w (by decide) hp)
  clear hp
  go_enter Tryd.func9, Tryd.ntmps9
  go_wp2_with fail
  refine HCALL.out.mono ?_
  rintro e w1 h
  have hb1 := h.1
  obtain ⟨X0, X1, X2, X3, X4, X5, X6, nx0, nx1, nx2, nx3, nx4, nx5, nx6, cx0, cx1, cx2, cx3, cx4, cx5, cx6, t, er, ln, rfl, hi, ho⟩ := h.shape
  obtain ⟨rfl, rfl, rfl⟩ := ho.fn (.inl ⟨awRun, rfl, rfl⟩ : TOut [101, 118, 101, 110, 116, 32, 48, 32, 108, 111, 97, 100, 32, 50, 32, 55, 32, 51, 32, 100, 101, 112, 115, 32, 49, 32, 50, 10] awTrc 0 0)
  obtain ⟨v, ds, hvv, hv, hdl, hev, -⟩ := hi
  obtain ⟨A6, c6, f6, g6, k6, r6⟩ := hv 6 (by omega)
  injection hvv with hvv
  have hv6 := congrArg (fun a : Array Value => a[6]?) hvv
  simp only [List.getElem?_toArray, List.getElem?_cons_zero, List.getElem?_cons_succ, f6, Option.some.injEq] at hv6
  injection hv6 with q1 q2 q3
  subst q1 q2 q3
  obtain ⟨d, rfl⟩ : ∃ d, ds = [d] := by
    rcases ds with _ | ⟨d, _ | ⟨d2, r⟩⟩
    · simp [awTrc, trc0, Trc.add] at hdl
    · exact ⟨d, rfl⟩
    · simp [awTrc, trc0, Trc.add] at hdl
  obtain ⟨h1, h2⟩ := hev 0 awEv d rfl rfl
  obtain ⟨Ad, cd, e1, -, -, -, -⟩ := h1
  obtain ⟨d1, d2⟩ := d
  simp only at e1
  subst e1
  obtain ⟨b, off, rfl, hlt, hc⟩ := r6 (by simp [rowX, awTrc, trc0, Trc.add, evC])
  have x1 : w1.cell? ⟨b, off + 1, none⟩ = some (.int .i64 3) := hc 1 _ rfl
  have x5 : w1.cell? ⟨b, off + 5, none⟩ = some (.slice Ad 2 cd) := hc 5 _ rfl
  rw [show rowN awTrc 6 = 1 from rfl] at *
  have HX := Lib.hid (Blk.new w1 31 #[.slice X0 nx0 cx0, .slice X1 nx1 cx1, .slice X2 nx2 cx2, .slice X3 nx3 cx3, .slice X4 nx4 cx4, .slice X5 nx5 cx5, .slice (some ⟨b, off, none⟩) 1 cx6])
  have hb2 : Below w1.heap.size w1 (w1.alloc (.cells #[.slice X0 nx0 cx0, .slice X1 nx1 cx1, .slice X2 nx2 cx2, .slice X3 nx3 cx3, .slice X4 nx4 cx4, .slice X5 nx5 cx5, .slice (some ⟨b, off, none⟩) 1 cx6] 31)) := (Below.refl _ _).alloc (Nat.le_refl _) _
  have y1 := (hb2.cell (p := ⟨b, off + 1, none⟩) hlt).trans x1
  have y5 := (hb2.cell (p := ⟨b, off + 5, none⟩) hlt).trans x5
  have HB := Lib.hid (hb1.trans (hb2.mono hb1.size))
  clear hv hdl hev hc x1 x5 hlt hb1 hb2 h2 r6 hvv f6 h ho
  go_upto_region 2 with fail
  generalize w1.alloc (.cells #[.slice X0 nx0 cx0, .slice X1 nx1 cx1, .slice X2 nx2 cx2, .slice X3 nx3 cx3, .slice X4 nx4 cx4, .slice X5 nx5 cx5, .slice (some ⟨b, off, none⟩) 1 cx6] 31) = w2 at *
  have x6 := HX.out.cell 6
  simp only [List.getElem?_toArray, List.getElem?_cons_zero, List.getElem?_cons_succ] at x6
  generalize w1.heap.size = g at *
  go_wp2_with fail
  go_ret
  exact ⟨rfl, HB.out⟩
end Go.Proofs.YtmnjmegejaejlaaDoor
