/-
  WALK: interleavelaw31.FormulaLimits.
-/
import Derived.Test.YtieahhhpajoomaaDoorAwake31
import Derived.Test.YtieahhhpajoomaaDoorValid
import Derived.Test.YtieahhhpajoomaaDoorValidRef
import Derived.Test.YtieahhhpajoomaaDoorLit
import Derived.Deep.RegionHeld3
namespace Go.Proofs.YtieahhhpajoomaaDoor
open Go.RowKit

set_option maxRecDepth 100000 in
theorem limits_out (a b l x y z : Int) (w : World) (h : 34 < a ∨ 1026 < b ∨ a < -2 ∨ b < -2) (hT : Tab w) :
    Calls Tryd.prog 10 #[.int .i64 a, .int .i64 b, .int .i64 l, .int .i64 x, .int .i64 y, .int .i64 z] w fun e w' => e = .returned (.bool true) ∧ Below w.heap.size w w' := by
  have HT := Lib.hid hT
  clear hT
  by_cases h1 : 34 < a
  all_goals by_cases h2 : 1026 < b
  all_goals by_cases h3 : a < -2
  all_goals by_cases h4 : b < -2
  all_goals try (exfalso; omega)
  all_goals clear h
  all_goals
    go_enter Tryd.func10, Tryd.ntmps10
    go_wp2_with fail
    refine (awake31 _ HT.out).mono ?_
    rintro e w1 ⟨rfl, hb1⟩
    have HB1 := Lib.hid hb1
    clear hb1
    go_wp2_with fail
    go_ret
    exact ⟨rfl, HB1.out⟩

set_option maxRecDepth 100000 in
set_option maxHeartbeats 2000000 in
theorem limits_in (a b l x y z : Int) (w : World) (h1 : a ≤ 34) (h2 : b ≤ 1026) (h3 : -2 ≤ a) (h4 : -2 ≤ b) (hl : I64 l) (hx : I64 x) (hy : I64 y) (hz : I64 z) (hT : Tab w) :
    Calls Tryd.prog 10 #[.int .i64 a, .int .i64 b, .int .i64 l, .int .i64 x, .int .i64 y, .int .i64 z] w fun e w' => e = .returned (.bool true) ∧ Below w.heap.size w w' := by
  have HT := Lib.hid hT
  have HL := Lib.hid hl
  have HXX := Lib.hid hx
  have HYY := Lib.hid hy
  have HZZ := Lib.hid hz
  clear hT hl hx hy hz
  go_enter Tryd.func10, Tryd.ntmps10
  go_wp2_with fail
  have hbW : Below w.heap.size w ((((((w.alloc (.cells #[] 3)).alloc (.cells #[.int .i64 l] 3)).alloc (.cells #[.slice (some ⟨w.heap.size, 0, none⟩) 0 0, .slice (some ⟨w.heap.size + 1, 0, none⟩) 1 1] 22)).alloc (.cells #[.int .i64 a, .int .i64 b, .slice none 0 0, .slice (some ⟨w.heap.size + 1 + 1, 0, none⟩) 2 2] 31)).alloc (.cells #[.int .i64 x, .int .i64 y, .int .i64 z] 36)).alloc (.cells #[.int .i64 a, .int .i64 b, .slice (some ⟨w.heap.size + 1 + 1 + 1 + 1, 0, none⟩) 1 1, .slice none 0 0] 31)) := by go_grown
  have B0 : Blk ((((((w.alloc (.cells #[] 3)).alloc (.cells #[.int .i64 l] 3)).alloc (.cells #[.slice (some ⟨w.heap.size, 0, none⟩) 0 0, .slice (some ⟨w.heap.size + 1, 0, none⟩) 1 1] 22)).alloc (.cells #[.int .i64 a, .int .i64 b, .slice none 0 0, .slice (some ⟨w.heap.size + 1 + 1, 0, none⟩) 2 2] 31)).alloc (.cells #[.int .i64 x, .int .i64 y, .int .i64 z] 36)).alloc (.cells #[.int .i64 a, .int .i64 b, .slice (some ⟨w.heap.size + 1 + 1 + 1 + 1, 0, none⟩) 1 1, .slice none 0 0] 31)) w.heap.size 3 #[] := (((((Blk.new w _ _).alloc _).alloc _).alloc _).alloc _).alloc _
  have B1 : Blk ((((((w.alloc (.cells #[] 3)).alloc (.cells #[.int .i64 l] 3)).alloc (.cells #[.slice (some ⟨w.heap.size, 0, none⟩) 0 0, .slice (some ⟨w.heap.size + 1, 0, none⟩) 1 1] 22)).alloc (.cells #[.int .i64 a, .int .i64 b, .slice none 0 0, .slice (some ⟨w.heap.size + 1 + 1, 0, none⟩) 2 2] 31)).alloc (.cells #[.int .i64 x, .int .i64 y, .int .i64 z] 36)).alloc (.cells #[.int .i64 a, .int .i64 b, .slice (some ⟨w.heap.size + 1 + 1 + 1 + 1, 0, none⟩) 1 1, .slice none 0 0] 31)) (w.heap.size + 1) 3 #[.int .i64 l] := by
    have h := Blk.new (w.alloc (.cells #[] 3)) 3 #[.int .i64 l]
    simp only [World.size_alloc] at h
    exact (((h.alloc _).alloc _).alloc _).alloc _
  have B2 : Blk ((((((w.alloc (.cells #[] 3)).alloc (.cells #[.int .i64 l] 3)).alloc (.cells #[.slice (some ⟨w.heap.size, 0, none⟩) 0 0, .slice (some ⟨w.heap.size + 1, 0, none⟩) 1 1] 22)).alloc (.cells #[.int .i64 a, .int .i64 b, .slice none 0 0, .slice (some ⟨w.heap.size + 1 + 1, 0, none⟩) 2 2] 31)).alloc (.cells #[.int .i64 x, .int .i64 y, .int .i64 z] 36)).alloc (.cells #[.int .i64 a, .int .i64 b, .slice (some ⟨w.heap.size + 1 + 1 + 1 + 1, 0, none⟩) 1 1, .slice none 0 0] 31)) (w.heap.size + 1 + 1) 22 #[.slice (some ⟨w.heap.size, 0, none⟩) 0 0, .slice (some ⟨w.heap.size + 1, 0, none⟩) 1 1] := by
    have h := Blk.new ((w.alloc (.cells #[] 3)).alloc (.cells #[.int .i64 l] 3)) 22 #[.slice (some ⟨w.heap.size, 0, none⟩) 0 0, .slice (some ⟨w.heap.size + 1, 0, none⟩) 1 1]
    simp only [World.size_alloc] at h
    exact ((h.alloc _).alloc _).alloc _
  have B3 : Blk ((((((w.alloc (.cells #[] 3)).alloc (.cells #[.int .i64 l] 3)).alloc (.cells #[.slice (some ⟨w.heap.size, 0, none⟩) 0 0, .slice (some ⟨w.heap.size + 1, 0, none⟩) 1 1] 22)).alloc (.cells #[.int .i64 a, .int .i64 b, .slice none 0 0, .slice (some ⟨w.heap.size + 1 + 1, 0, none⟩) 2 2] 31)).alloc (.cells #[.int .i64 x, .int .i64 y, .int .i64 z] 36)).alloc (.cells #[.int .i64 a, .int .i64 b, .slice (some ⟨w.heap.size + 1 + 1 + 1 + 1, 0, none⟩) 1 1, .slice none 0 0] 31)) (w.heap.size + 1 + 1 + 1) 31 #[.int .i64 a, .int .i64 b, .slice none 0 0, .slice (some ⟨w.heap.size + 1 + 1, 0, none⟩) 2 2] := by
    have h := Blk.new (((w.alloc (.cells #[] 3)).alloc (.cells #[.int .i64 l] 3)).alloc (.cells #[.slice (some ⟨w.heap.size, 0, none⟩) 0 0, .slice (some ⟨w.heap.size + 1, 0, none⟩) 1 1] 22)) 31 #[.int .i64 a, .int .i64 b, .slice none 0 0, .slice (some ⟨w.heap.size + 1 + 1, 0, none⟩) 2 2]
    simp only [World.size_alloc] at h
    exact (h.alloc _).alloc _
  have B4 : Blk ((((((w.alloc (.cells #[] 3)).alloc (.cells #[.int .i64 l] 3)).alloc (.cells #[.slice (some ⟨w.heap.size, 0, none⟩) 0 0, .slice (some ⟨w.heap.size + 1, 0, none⟩) 1 1] 22)).alloc (.cells #[.int .i64 a, .int .i64 b, .slice none 0 0, .slice (some ⟨w.heap.size + 1 + 1, 0, none⟩) 2 2] 31)).alloc (.cells #[.int .i64 x, .int .i64 y, .int .i64 z] 36)).alloc (.cells #[.int .i64 a, .int .i64 b, .slice (some ⟨w.heap.size + 1 + 1 + 1 + 1, 0, none⟩) 1 1, .slice none 0 0] 31)) (w.heap.size + 1 + 1 + 1 + 1) 36 #[.int .i64 x, .int .i64 y, .int .i64 z] := by
    have h := Blk.new ((((w.alloc (.cells #[] 3)).alloc (.cells #[.int .i64 l] 3)).alloc (.cells #[.slice (some ⟨w.heap.size, 0, none⟩) 0 0, .slice (some ⟨w.heap.size + 1, 0, none⟩) 1 1] 22)).alloc (.cells #[.int .i64 a, .int .i64 b, .slice none 0 0, .slice (some ⟨w.heap.size + 1 + 1, 0, none⟩) 2 2] 31)) 36 #[.int .i64 x, .int .i64 y, .int .i64 z]
    simp only [World.size_alloc] at h
    exact h.alloc _
  have B5 : Blk ((((((w.alloc (.cells #[] 3)).alloc (.cells #[.int .i64 l] 3)).alloc (.cells #[.slice (some ⟨w.heap.size, 0, none⟩) 0 0, .slice (some ⟨w.heap.size + 1, 0, none⟩) 1 1] 22)).alloc (.cells #[.int .i64 a, .int .i64 b, .slice none 0 0, .slice (some ⟨w.heap.size + 1 + 1, 0, none⟩) 2 2] 31)).alloc (.cells #[.int .i64 x, .int .i64 y, .int .i64 z] 36)).alloc (.cells #[.int .i64 a, .int .i64 b, .slice (some ⟨w.heap.size + 1 + 1 + 1 + 1, 0, none⟩) 1 1, .slice none 0 0] 31)) (w.heap.size + 1 + 1 + 1 + 1 + 1) 31 #[.int .i64 a, .int .i64 b, .slice (some ⟨w.heap.size + 1 + 1 + 1 + 1, 0, none⟩) 1 1, .slice none 0 0] := by
    have h := Blk.new (((((w.alloc (.cells #[] 3)).alloc (.cells #[.int .i64 l] 3)).alloc (.cells #[.slice (some ⟨w.heap.size, 0, none⟩) 0 0, .slice (some ⟨w.heap.size + 1, 0, none⟩) 1 1] 22)).alloc (.cells #[.int .i64 a, .int .i64 b, .slice none 0 0, .slice (some ⟨w.heap.size + 1 + 1, 0, none⟩) 2 2] 31)).alloc (.cells #[.int .i64 x, .int .i64 y, .int .i64 z] 36)) 31 #[.int .i64 a, .int .i64 b, .slice (some ⟨w.heap.size + 1 + 1 + 1 + 1, 0, none⟩) 1 1, .slice none 0 0]
    simp only [World.size_alloc] at h
    exact h
  generalize ((((((w.alloc (.cells #[] 3)).alloc (.cells #[.int .i64 l] 3)).alloc (.cells #[.slice (some ⟨w.heap.size, 0, none⟩) 0 0, .slice (some ⟨w.heap.size + 1, 0, none⟩) 1 1] 22)).alloc (.cells #[.int .i64 a, .int .i64 b, .slice none 0 0, .slice (some ⟨w.heap.size + 1 + 1, 0, none⟩) 2 2] 31)).alloc (.cells #[.int .i64 x, .int .i64 y, .int .i64 z] 36)).alloc (.cells #[.int .i64 a, .int .i64 b, .slice (some ⟨w.heap.size + 1 + 1 + 1 + 1, 0, none⟩) 1 1, .slice none 0 0] 31)) = W at *
  have hF1 : IsForm W (.agg #[.int .i64 a, .int .i64 b, .slice none 0 0, .slice (some ⟨w.heap.size + 1 + 1, 0, none⟩) 2 2]) ⟨a, b, [], [[], [l]]⟩ := by
    refine ⟨_, _, rfl, ⟨by show _ ≤ a; omega, by show a ≤ _; omega⟩, ⟨by show _ ≤ b; omega, by show b ≤ _; omega⟩, ⟨none, 0, rfl, by simp, by simp [maxLen], by simp, Rd.nil _ _⟩, ?_⟩
    refine mat_lit (xss := [[], [l]]) (vs := [.slice (some ⟨w.heap.size, 0, none⟩) 0 0, .slice (some ⟨w.heap.size + 1, 0, none⟩) 1 1]) B2 rfl (by simp [maxLen]) (fun k u xs g1 g2 => ?_)
    match k with
    | 0 =>
      simp at g1 g2
      subst g1 g2
      exact ints_lit (xs := []) B0 (Below.refl _ _) (by simp) (by simp [maxLen])
    | 1 =>
      simp at g1 g2
      subst g1 g2
      exact ints_lit (xs := [l]) B1 (Below.refl _ _) (by simp; exact HL.out) (by simp [maxLen])
    | k + 2 => simp at g1
  have hF2 : IsForm W (.agg #[.int .i64 a, .int .i64 b, .slice (some ⟨w.heap.size + 1 + 1 + 1 + 1, 0, none⟩) 1 1, .slice none 0 0]) ⟨a, b, [⟨x, y, z⟩], []⟩ := by
    refine ⟨_, _, rfl, ⟨by show _ ≤ a; omega, by show a ≤ _; omega⟩, ⟨by show _ ≤ b; omega, by show b ≤ _; omega⟩, ?_, ⟨none, 0, [], rfl, by simp, by simp [maxLen], rfl, Rd.nil _ _, fun k u xs g1 => by simp at g1⟩⟩
    exact diffs_lit (ds := [⟨x, y, z⟩]) B4 (by simp [Diff.ok]; exact ⟨HXX.out, HYY.out, HZZ.out⟩) (by simp [maxLen])
  have HF1 := Lib.hid hF1
  have HF2 := Lib.hid hF2
  have HB3 := Lib.hid B3
  have HB5 := Lib.hid B5
  have HBW := Lib.hid hbW
  clear hF1 hF2 B0 B1 B2 B3 B4 B5 hbW
  have HSOF : Hid (∀ w', Below W.heap.size W w' → w'.cell? ⟨w.heap.size + 1 + 1 + 1, 0, none⟩ = some (.int .i64 a) ∧ w'.cell? ⟨w.heap.size + 1 + 1 + 1, 1, none⟩ = some (.int .i64 b) ∧ w'.cell? ⟨w.heap.size + 1 + 1 + 1, 2, none⟩ = some (.slice none 0 0) ∧ w'.cell? ⟨w.heap.size + 1 + 1 + 1, 3, none⟩ = some (.slice (some ⟨w.heap.size + 1 + 1, 0, none⟩) 2 2) ∧ w'.cell? ⟨w.heap.size + 1 + 1 + 1 + 1 + 1, 0, none⟩ = some (.int .i64 a) ∧ w'.cell? ⟨w.heap.size + 1 + 1 + 1 + 1 + 1, 1, none⟩ = some (.int .i64 b) ∧ w'.cell? ⟨w.heap.size + 1 + 1 + 1 + 1 + 1, 2, none⟩ = some (.slice (some ⟨w.heap.size + 1 + 1 + 1 + 1, 0, none⟩) 1 1) ∧ w'.cell? ⟨w.heap.size + 1 + 1 + 1 + 1 + 1, 3, none⟩ = some (.slice none 0 0) ∧ Below W.heap.size W w') := by
    intro w' h
    have q := HB3.out.keep h
    have r := HB5.out.keep h
    exact ⟨q.cell 0, q.cell 1, q.cell 2, q.cell 3, r.cell 0, r.cell 1, r.cell 2, r.cell 3, h⟩
  have hs0 := HSOF.out W (Below.refl _ _)
  obtain ⟨p0, p1, p2, p3, p4, p5, p6, p7, -⟩ := hs0
  go_region_held3 (fun w' => w'.cell? ⟨w.heap.size + 1 + 1 + 1, 0, none⟩ = some (.int .i64 a) ∧ w'.cell? ⟨w.heap.size + 1 + 1 + 1, 1, none⟩ = some (.int .i64 b) ∧ w'.cell? ⟨w.heap.size + 1 + 1 + 1, 2, none⟩ = some (.slice none 0 0) ∧ w'.cell? ⟨w.heap.size + 1 + 1 + 1, 3, none⟩ = some (.slice (some ⟨w.heap.size + 1 + 1, 0, none⟩) 2 2) ∧ w'.cell? ⟨w.heap.size + 1 + 1 + 1 + 1 + 1, 0, none⟩ = some (.int .i64 a) ∧ w'.cell? ⟨w.heap.size + 1 + 1 + 1 + 1 + 1, 1, none⟩ = some (.int .i64 b) ∧ w'.cell? ⟨w.heap.size + 1 + 1 + 1 + 1 + 1, 2, none⟩ = some (.slice (some ⟨w.heap.size + 1 + 1 + 1 + 1, 0, none⟩) 1 1) ∧ w'.cell? ⟨w.heap.size + 1 + 1 + 1 + 1 + 1, 3, none⟩ = some (.slice none 0 0) ∧ Below W.heap.size W w') (first | assumption | exact HSOF.out _ (Below.refl _ _).drew) (first
    | (go_at_call 27; (with_reducible refine (fvalid_any ⟨a, b, [], [[], [l]]⟩ _ _ (HF1.out.keep (Below.refl _ _).drew)).mono ?_); rintro e w2 ⟨rfl, hb2⟩; have hs2 := HSOF.out w2 (Below.trans (Below.refl _ _).drew hb2))
    | (go_at_call 19; (with_reducible refine (rvalid_any ⟨a, b, [], [[], [l]]⟩ _ _ (HF1.out.keep hs2.2.2.2.2.2.2.2.2)).mono ?_); rintro e w3 ⟨rfl, hb3⟩; have hs3 := HSOF.out w3 (hs2.2.2.2.2.2.2.2.2.trans (hb3.mono hs2.2.2.2.2.2.2.2.2.size)))
    | (go_at_call 27; (with_reducible refine (fvalid_any ⟨a, b, [⟨x, y, z⟩], []⟩ _ _ (HF2.out.keep hs3.2.2.2.2.2.2.2.2)).mono ?_); rintro e w4 ⟨rfl, hb4⟩; have hs4 := HSOF.out w4 (hs3.2.2.2.2.2.2.2.2.trans (hb4.mono hs3.2.2.2.2.2.2.2.2.size)))
    | (go_at_call 19; (with_reducible refine (rvalid_any ⟨a, b, [⟨x, y, z⟩], []⟩ _ _ (HF2.out.keep hs4.2.2.2.2.2.2.2.2)).mono ?_); rintro e w5 ⟨rfl, hb5⟩; have hs5 := HSOF.out w5 (hs4.2.2.2.2.2.2.2.2.trans (hb5.mono hs4.2.2.2.2.2.2.2.2.size)))
    | (go_at_call 14; refine (awake31 _ (HT.out.keep (HBW.out.trans (hs5.2.2.2.2.2.2.2.2.mono HBW.out.size)) HT.out.lt)).mono ?_; rintro e w6 ⟨rfl, hb6⟩; have hs6 := HSOF.out w6 (hs5.2.2.2.2.2.2.2.2.trans (hb6.mono hs5.2.2.2.2.2.2.2.2.size))))
  have HB6 := Lib.hid hs6.2.2.2.2.2.2.2.2
  clear hs2 hs3 hs4 hs5 hs6 hb2 hb3 hb4 hb5 hb6
  go_wp2_with fail
  go_ret
  exact ⟨rfl, HBW.out.trans (HB6.out.mono HBW.out.size)⟩

theorem lawLimits (a b l x y z : Int) (w : World) (_ha : I64 a) (_hb : I64 b) (hl : I64 l) (hx : I64 x) (hy : I64 y) (hz : I64 z) (hT : Tab w) :
    Calls Tryd.prog 10 #[.int .i64 a, .int .i64 b, .int .i64 l, .int .i64 x, .int .i64 y, .int .i64 z] w fun e w' => e = .returned (.bool true) ∧ Below w.heap.size w w' := by
  by_cases h : 34 < a ∨ 1026 < b ∨ a < -2 ∨ b < -2
  · exact limits_out a b l x y z w h hT
  · exact limits_in a b l x y z w (by omega) (by omega) (by omega) (by omega) hl hx hy hz hT
end Go.Proofs.YtieahhhpajoomaaDoor
