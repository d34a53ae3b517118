/-
  WALK: interleavescene.World.
-/
import Derived.Test.YtccpelfnkjckiaaDoorRepText
import Derived.Test.YtccpelfnkjckiaaDoorRepSum
import Derived.Test.YtccpelfnkjckiaaDoorFndRow
import Derived.Test.YtccpelfnkjckiaaDoorRepGrpR
import Derived.Test.YtccpelfnkjckiaaDoorRepFmtR
import Derived.Test.YtccpelfnkjckiaaDoorRepDesc
namespace Go.Proofs.YtccpelfnkjckiaaDoor
open Go.RowKit

def wldThr : List (List UInt8) := [[109, 97, 105, 110], [116, 49], [116, 50], [116, 51]]
/-- The world under way. -/
structure WS (w wr : World) (sv : Value) (ds : List Diff) : Prop where
  bl : Below w.heap.size w wr
  rb : Blk wr w.heap.size 70 #[.slice none 0 0, .slice none 0 0, .slice none 0 0, .slice none 0 0, .slice none 0 0, .slice none 0 0]
  wb : Blk wr (w.heap.size + 1 + 1 + 1 + 1 + 1 + 1) 70 #[.slice (some ⟨w.heap.size + 1, 0, none⟩) 5 5, .slice (some ⟨w.heap.size + 1 + 1, 0, none⟩) 3 3, .slice (some ⟨w.heap.size + 1 + 1 + 1, 0, none⟩) 1 1, .slice (some ⟨w.heap.size + 1 + 1 + 1 + 1, 0, none⟩) 1 1, .slice (some ⟨w.heap.size + 1 + 1 + 1 + 1 + 1, 0, none⟩) 4 4, sv]
  tb : Blk wr (w.heap.size + 1 + 1 + 1 + 1 + 1) 9 (wldThr.map fun s => Value.string ⟨s.toArray⟩).toArray
  own : wr.ownsRow (w.heap.size + 1 + 1 + 1 + 1 + 1 + 1 + 1) 90 3 sv ds.length (ds.flatMap Diff.cells)
  ok : ∀ d ∈ ds, d.ok
  hi : w.heap.size + 1 + 1 + 1 + 1 + 1 + 1 + 1 ≤ wr.heap.size
section
variable {w wr w' : World} {sv sv' : Value} {ds : List Diff} {d : Diff}
theorem WS.push {o : Obj} (h : WS w wr sv ds) (hd : d.ok)
    (ho : w'.ownsRow (w.heap.size + 1 + 1 + 1 + 1 + 1 + 1 + 1) 90 3 sv' (ds.length + 1) (ds.flatMap Diff.cells ++ Diff.cells d)) (hg : (wr.alloc o).grownBy w' sv.ownBlock) :
    WS w (w'.setCell ⟨w.heap.size + 1 + 1 + 1 + 1 + 1 + 1, 5, none⟩ sv') sv' (ds ++ [d]) ∧ Blk w' (w.heap.size + 1 + 1 + 1 + 1 + 1 + 1) 70 #[.slice (some ⟨w.heap.size + 1, 0, none⟩) 5 5, .slice (some ⟨w.heap.size + 1 + 1, 0, none⟩) 3 3, .slice (some ⟨w.heap.size + 1 + 1 + 1, 0, none⟩) 1 1, .slice (some ⟨w.heap.size + 1 + 1 + 1 + 1, 0, none⟩) 1 1, .slice (some ⟨w.heap.size + 1 + 1 + 1 + 1 + 1, 0, none⟩) 4 4, sv] := by
  have hlt : ∀ k, sv.ownBlock = some k → w.heap.size + 1 + 1 + 1 + 1 + 1 + 1 + 1 ≤ k := fun k e => (h.own.lt k e).1
  have e2 := h.hi
  have e3 : wr.heap.size + 1 ≤ w'.heap.size := by have := hg.size; simpa using this
  have kb : ∀ {g t cs}, g < w.heap.size + 1 + 1 + 1 + 1 + 1 + 1 + 1 → Blk wr g t cs → Blk w' g t cs := fun hg1 hb => (hb.alloc o).grown hg fun e => by have := hlt _ e.symm; omega
  have hf := kb (by omega) h.wb
  have hset : w'.grownBy (w'.setCell ⟨w.heap.size + 1 + 1 + 1 + 1 + 1 + 1, 5, none⟩ sv') (some (w.heap.size + 1 + 1 + 1 + 1 + 1 + 1)) := grownBy_set0 _ _ _ _
  refine ⟨⟨?_, (kb (by omega) h.rb).far (by show w.heap.size ≠ _; simp only; omega) _, hf.set_ 5 _, (kb (by omega) h.tb).far (by show w.heap.size + 1 + 1 + 1 + 1 + 1 ≠ _; simp only; omega) _, ?_, fun y hy => ?_, by simp; omega⟩, hf⟩
  · have h3 : Below w.heap.size w w' := (h.bl.alloc h.bl.size o).grown hg (by have := h.bl.size; simp; omega) fun k e => by have := hlt k e; omega
    exact h3.setCell (by show w.heap.size ≤ w.heap.size + 1 + 1 + 1 + 1 + 1 + 1; omega) _
  · have ho2 : w'.ownsRow (w.heap.size + 1 + 1 + 1 + 1 + 1 + 1 + 1) 90 3 sv' (ds ++ [d]).length ((ds ++ [d]).flatMap Diff.cells) := by simpa [List.flatMap_append] using ho
    exact ho2.kept hset (own_ne ho2 (by omega))
  · rcases List.mem_append.1 hy with hy | hy
    · exact h.ok y hy
    · rw [List.mem_singleton] at hy; subst hy; exact hd
end
theorem info_site : (Tryd.prog.info? 90).map (fun i => (i.zero, i.size, i.bytes)) = some (some (.agg #[.int .i64 0, .int .i64 0, .int .i64 0]), 3, 24) := by kernel_rfl
/-- What World returns. -/
def WRet (w : World) (e : Ending) (w' : World) : Prop :=
  ∃ A5 c5 ds, e = .returned (.agg #[.slice (some ⟨w.heap.size + 1, 0, none⟩) 5 5, .slice (some ⟨w.heap.size + 1 + 1, 0, none⟩) 3 3, .slice (some ⟨w.heap.size + 1 + 1 + 1, 0, none⟩) 1 1, .slice (some ⟨w.heap.size + 1 + 1 + 1 + 1, 0, none⟩) 1 1, .slice (some ⟨w.heap.size + 1 + 1 + 1 + 1 + 1, 0, none⟩) 4 4, .slice A5 (List.length ds) c5]) ∧ Strs w' (.slice (some ⟨w.heap.size + 1 + 1 + 1 + 1 + 1, 0, none⟩) 4 4) wldThr ∧ Diffs w' (.slice A5 ds.length c5) ds ∧ Below w.heap.size w w'

set_option maxRecDepth 100000 in
set_option maxHeartbeats 4000000 in
theorem world_any (w : World) : Calls Tryd.prog 27 #[] w (WRet w) := by
  obtain ⟨iD, hiD, hzD0, hzD1, hzD2⟩ := info_parts info_site
  go_enter Tryd.func27, Tryd.ntmps27
  go_wp2_with fail
  have hb0 : Below w.heap.size w (((((((w.alloc (.cells #[.slice none 0 0, .slice none 0 0, .slice none 0 0, .slice none 0 0, .slice none 0 0, .slice none 0 0] 70)).alloc (.cells #[.string ⟨#[120]⟩, .int .i64 0, .int .i64 0, .bool false, .int .i64 0, .string ⟨#[121]⟩, .int .i64 0, .int .i64 0, .bool false, .int .i64 1, .string ⟨#[118]⟩, .int .i64 0, .int .i64 0, .bool true, .int .i64 0, .string ⟨#[113]⟩, .int .i64 0, .int .i64 2, .bool false, .int .i64 0, .string ⟨#[113]⟩, .int .i64 1, .int .i64 2, .bool false, .int .i64 0] 115)).alloc (.cells #[.string ⟨#[109]⟩, .bool false, .string ⟨#[110]⟩, .bool false, .string ⟨#[114]⟩, .bool true] 117)).alloc (.cells #[.string ⟨#[99]⟩, .int .i64 0] 119)).alloc (.cells #[.string ⟨#[102]⟩] 9)).alloc (.cells #[.string ⟨#[109, 97, 105, 110]⟩, .string ⟨#[116, 49]⟩, .string ⟨#[116, 50]⟩, .string ⟨#[116, 51]⟩] 9)).alloc (.cells #[.slice (some ⟨w.heap.size + 1, 0, none⟩) 5 5, .slice (some ⟨w.heap.size + 1 + 1, 0, none⟩) 3 3, .slice (some ⟨w.heap.size + 1 + 1 + 1, 0, none⟩) 1 1, .slice (some ⟨w.heap.size + 1 + 1 + 1 + 1, 0, none⟩) 1 1, .slice (some ⟨w.heap.size + 1 + 1 + 1 + 1 + 1, 0, none⟩) 4 4, .slice none 0 0] 70)) := by go_grown
  have R0 := ((((((Blk.new w 70 #[.slice none 0 0, .slice none 0 0, .slice none 0 0, .slice none 0 0, .slice none 0 0, .slice none 0 0]).alloc (.cells #[.string ⟨#[120]⟩, .int .i64 0, .int .i64 0, .bool false, .int .i64 0, .string ⟨#[121]⟩, .int .i64 0, .int .i64 0, .bool false, .int .i64 1, .string ⟨#[118]⟩, .int .i64 0, .int .i64 0, .bool true, .int .i64 0, .string ⟨#[113]⟩, .int .i64 0, .int .i64 2, .bool false, .int .i64 0, .string ⟨#[113]⟩, .int .i64 1, .int .i64 2, .bool false, .int .i64 0] 115)).alloc (.cells #[.string ⟨#[109]⟩, .bool false, .string ⟨#[110]⟩, .bool false, .string ⟨#[114]⟩, .bool true] 117)).alloc (.cells #[.string ⟨#[99]⟩, .int .i64 0] 119)).alloc (.cells #[.string ⟨#[102]⟩] 9)).alloc (.cells #[.string ⟨#[109, 97, 105, 110]⟩, .string ⟨#[116, 49]⟩, .string ⟨#[116, 50]⟩, .string ⟨#[116, 51]⟩] 9)).alloc (.cells #[.slice (some ⟨w.heap.size + 1, 0, none⟩) 5 5, .slice (some ⟨w.heap.size + 1 + 1, 0, none⟩) 3 3, .slice (some ⟨w.heap.size + 1 + 1 + 1, 0, none⟩) 1 1, .slice (some ⟨w.heap.size + 1 + 1 + 1 + 1, 0, none⟩) 1 1, .slice (some ⟨w.heap.size + 1 + 1 + 1 + 1 + 1, 0, none⟩) 4 4, .slice none 0 0] 70)
  have T0 := (Blk.new (((((w.alloc (.cells #[.slice none 0 0, .slice none 0 0, .slice none 0 0, .slice none 0 0, .slice none 0 0, .slice none 0 0] 70)).alloc (.cells #[.string ⟨#[120]⟩, .int .i64 0, .int .i64 0, .bool false, .int .i64 0, .string ⟨#[121]⟩, .int .i64 0, .int .i64 0, .bool false, .int .i64 1, .string ⟨#[118]⟩, .int .i64 0, .int .i64 0, .bool true, .int .i64 0, .string ⟨#[113]⟩, .int .i64 0, .int .i64 2, .bool false, .int .i64 0, .string ⟨#[113]⟩, .int .i64 1, .int .i64 2, .bool false, .int .i64 0] 115)).alloc (.cells #[.string ⟨#[109]⟩, .bool false, .string ⟨#[110]⟩, .bool false, .string ⟨#[114]⟩, .bool true] 117)).alloc (.cells #[.string ⟨#[99]⟩, .int .i64 0] 119)).alloc (.cells #[.string ⟨#[102]⟩] 9)) 9 (wldThr.map fun s => Value.string ⟨s.toArray⟩).toArray).alloc (.cells #[.slice (some ⟨w.heap.size + 1, 0, none⟩) 5 5, .slice (some ⟨w.heap.size + 1 + 1, 0, none⟩) 3 3, .slice (some ⟨w.heap.size + 1 + 1 + 1, 0, none⟩) 1 1, .slice (some ⟨w.heap.size + 1 + 1 + 1 + 1, 0, none⟩) 1 1, .slice (some ⟨w.heap.size + 1 + 1 + 1 + 1 + 1, 0, none⟩) 4 4, .slice none 0 0] 70)
  have W0 := Blk.new ((((((w.alloc (.cells #[.slice none 0 0, .slice none 0 0, .slice none 0 0, .slice none 0 0, .slice none 0 0, .slice none 0 0] 70)).alloc (.cells #[.string ⟨#[120]⟩, .int .i64 0, .int .i64 0, .bool false, .int .i64 0, .string ⟨#[121]⟩, .int .i64 0, .int .i64 0, .bool false, .int .i64 1, .string ⟨#[118]⟩, .int .i64 0, .int .i64 0, .bool true, .int .i64 0, .string ⟨#[113]⟩, .int .i64 0, .int .i64 2, .bool false, .int .i64 0, .string ⟨#[113]⟩, .int .i64 1, .int .i64 2, .bool false, .int .i64 0] 115)).alloc (.cells #[.string ⟨#[109]⟩, .bool false, .string ⟨#[110]⟩, .bool false, .string ⟨#[114]⟩, .bool true] 117)).alloc (.cells #[.string ⟨#[99]⟩, .int .i64 0] 119)).alloc (.cells #[.string ⟨#[102]⟩] 9)).alloc (.cells #[.string ⟨#[109, 97, 105, 110]⟩, .string ⟨#[116, 49]⟩, .string ⟨#[116, 50]⟩, .string ⟨#[116, 51]⟩] 9)) 70 #[.slice (some ⟨w.heap.size + 1, 0, none⟩) 5 5, .slice (some ⟨w.heap.size + 1 + 1, 0, none⟩) 3 3, .slice (some ⟨w.heap.size + 1 + 1 + 1, 0, none⟩) 1 1, .slice (some ⟨w.heap.size + 1 + 1 + 1 + 1, 0, none⟩) 1 1, .slice (some ⟨w.heap.size + 1 + 1 + 1 + 1 + 1, 0, none⟩) 4 4, .slice none 0 0]
  have hz : (((((((w.alloc (.cells #[.slice none 0 0, .slice none 0 0, .slice none 0 0, .slice none 0 0, .slice none 0 0, .slice none 0 0] 70)).alloc (.cells #[.string ⟨#[120]⟩, .int .i64 0, .int .i64 0, .bool false, .int .i64 0, .string ⟨#[121]⟩, .int .i64 0, .int .i64 0, .bool false, .int .i64 1, .string ⟨#[118]⟩, .int .i64 0, .int .i64 0, .bool true, .int .i64 0, .string ⟨#[113]⟩, .int .i64 0, .int .i64 2, .bool false, .int .i64 0, .string ⟨#[113]⟩, .int .i64 1, .int .i64 2, .bool false, .int .i64 0] 115)).alloc (.cells #[.string ⟨#[109]⟩, .bool false, .string ⟨#[110]⟩, .bool false, .string ⟨#[114]⟩, .bool true] 117)).alloc (.cells #[.string ⟨#[99]⟩, .int .i64 0] 119)).alloc (.cells #[.string ⟨#[102]⟩] 9)).alloc (.cells #[.string ⟨#[109, 97, 105, 110]⟩, .string ⟨#[116, 49]⟩, .string ⟨#[116, 50]⟩, .string ⟨#[116, 51]⟩] 9)).alloc (.cells #[.slice (some ⟨w.heap.size + 1, 0, none⟩) 5 5, .slice (some ⟨w.heap.size + 1 + 1, 0, none⟩) 3 3, .slice (some ⟨w.heap.size + 1 + 1 + 1, 0, none⟩) 1 1, .slice (some ⟨w.heap.size + 1 + 1 + 1 + 1, 0, none⟩) 1 1, .slice (some ⟨w.heap.size + 1 + 1 + 1 + 1 + 1, 0, none⟩) 4 4, .slice none 0 0] 70)).heap.size = w.heap.size + 1 + 1 + 1 + 1 + 1 + 1 + 1 := by simp
  simp only [World.size_alloc] at T0 W0
  have e0 : (wldThr.map fun s => Value.string ⟨s.toArray⟩).toArray = #[.string ⟨#[109, 97, 105, 110]⟩, .string ⟨#[116, 49]⟩, .string ⟨#[116, 50]⟩, .string ⟨#[116, 51]⟩] := rfl
  rw [e0] at T0
  generalize (((((((w.alloc (.cells #[.slice none 0 0, .slice none 0 0, .slice none 0 0, .slice none 0 0, .slice none 0 0, .slice none 0 0] 70)).alloc (.cells #[.string ⟨#[120]⟩, .int .i64 0, .int .i64 0, .bool false, .int .i64 0, .string ⟨#[121]⟩, .int .i64 0, .int .i64 0, .bool false, .int .i64 1, .string ⟨#[118]⟩, .int .i64 0, .int .i64 0, .bool true, .int .i64 0, .string ⟨#[113]⟩, .int .i64 0, .int .i64 2, .bool false, .int .i64 0, .string ⟨#[113]⟩, .int .i64 1, .int .i64 2, .bool false, .int .i64 0] 115)).alloc (.cells #[.string ⟨#[109]⟩, .bool false, .string ⟨#[110]⟩, .bool false, .string ⟨#[114]⟩, .bool true] 117)).alloc (.cells #[.string ⟨#[99]⟩, .int .i64 0] 119)).alloc (.cells #[.string ⟨#[102]⟩] 9)).alloc (.cells #[.string ⟨#[109, 97, 105, 110]⟩, .string ⟨#[116, 49]⟩, .string ⟨#[116, 50]⟩, .string ⟨#[116, 51]⟩] 9)).alloc (.cells #[.slice (some ⟨w.heap.size + 1, 0, none⟩) 5 5, .slice (some ⟨w.heap.size + 1 + 1, 0, none⟩) 3 3, .slice (some ⟨w.heap.size + 1 + 1 + 1, 0, none⟩) 1 1, .slice (some ⟨w.heap.size + 1 + 1 + 1 + 1, 0, none⟩) 1 1, .slice (some ⟨w.heap.size + 1 + 1 + 1 + 1 + 1, 0, none⟩) 4 4, .slice none 0 0] 70)) = W at *
  have HWS : Hid (WS w W (.slice none 0 0) []) := Lib.hid ⟨hb0, R0, W0, T0, World.ownsRow_nil _ _ _ _, by simp, by omega⟩
  clear hb0 R0 T0 W0 hz e0
  go_loopw [22] (fun tv wr => ∃ (t : Nat) (sv : Value) (ds : List Diff), t ≤ 4 ∧ tv = .int .i64 t ∧ Hid (ds.length = 6 * t) ∧ Hid (WS w wr sv ds)) (fun tv _ => 4 - (intOf tv).toNat)
  case atStart => exact ⟨0, _, [], by omega, rfl, Lib.hid rfl, HWS⟩
  case round =>
    obtain ⟨t, sv, ds, ht, rfl, HDL, HS⟩ := hrel
    obtain ⟨wo, hwo⟩ : ∃ wo : World, wo = wr := ⟨_, rfl⟩
    rw [← hwo] at HS ⊢
    clear hwo
    by_cases hlt : t < 4
    · have lt : (t : Int) < 4 := by omega
      go_wp2_with fail
      go_loopw [3] (fun kv wr => ∃ (k : Nat) (sv : Value) (ds : List Diff), k ≤ 6 ∧ kv = .int .i64 k ∧ Hid (ds.length = 6 * t + k) ∧ Hid (WS w wr sv ds)) (fun kv _ => 6 - (intOf kv).toNat)
      case atStart => exact ⟨0, _, _, by omega, rfl, Lib.hid (by rw [HDL.out]; omega), HS⟩
      case round =>
        clear HDL HS
        obtain ⟨k, sv, ds, hk, rfl, HDL, HS⟩ := hrel
        by_cases hlk : k < 6
        · have lk : (k : Int) < 6 := by omega
          obtain ⟨A5, c5, hsv, -, -, -⟩ := owns_rd HS.out.own
          subst hsv
          have r5 := HS.out.wb.cell 5
          simp only [List.getElem?_toArray, List.getElem?_cons_zero, List.getElem?_cons_succ] at r5
          have HN := Lib.hid (cells_at wr 90 [.int .i64 (t : Int), .int .i64 (k : Int), .int .i64 (10 * (t : Int) + k + 1)] rfl)
          have HO1 : Hid (∀ u ∈ ([.int .i64 (t : Int), .int .i64 (k : Int), .int .i64 (10 * (t : Int) + k + 1)] : List Value), u.oneCell' = true) := Lib.hid (by intro u hu; simp at hu; rcases hu with rfl | rfl | rfl <;> rfl)
          have HM1 : Hid (ds.length + 1 ≤ maxLen) := by refine Lib.hid ?_; have := HDL.out; unfold maxLen; omega
          have HM2 : Hid ((ds.length + 1) * 24 ≤ 140737488355328) := by refine Lib.hid ?_; have := HDL.out; omega
          have HM3 : Hid (w.heap.size + 1 + 1 + 1 + 1 + 1 + 1 + 1 ≤ (wr.alloc (.cells #[.int .i64 (t : Int), .int .i64 (k : Int), .int .i64 (10 * (t : Int) + k + 1)] 90)).heap.size) := by refine Lib.hid ?_; have := HS.out.hi; simp; omega
          go_wp2_with (at_builtin; refine wpList_append_own_at _ rfl _ _ 65 rfl (w.heap.size + 1 + 1 + 1 + 1 + 1 + 1 + 1) 90 iD (.agg #[.int .i64 0, .int .i64 0, .int .i64 0]) 3 24 Tryd.underlying65 hiD hzD0 hzD1 hzD2 rfl (by decide) _ _ _ rfl (HS.out.own.alloc _) ⟨wr.heap.size, 0, none⟩ 1 1 [.int .i64 (t : Int), .int .i64 (k : Int), .int .i64 (10 * (t : Int) + k + 1)] rfl rfl HN.out HO1.out HM1.out HM2.out HM3.out ?_)
          intro v4 w4 hown hg _ hat
          obtain ⟨A6, c6, hv6, -, -, -⟩ := owns_rd hown
          subst hv6
          have hps := HS.out.push (d := ⟨(t : Int), (k : Int), 10 * (t : Int) + k + 1⟩) (by unfold Diff.ok I64; simp only; omega) hown hg
          have f5 := hps.2.frozen 5
          have c5 := hps.2.cell 5
          simp only [List.getElem?_toArray, List.getElem?_cons_zero, List.getElem?_cons_succ] at c5
          have HPS := Lib.hid hps.1
          have HDL2 : Hid ((ds ++ [(⟨(t : Int), (k : Int), 10 * (t : Int) + k + 1⟩ : Diff)]).length = 6 * t + (k + 1)) := Lib.hid (by rw [List.length_append, HDL.out]; simp; omega)
          clear hown hg hat hps
          go_wp2_with fail
          go_roundw
          case rel => exact ⟨k + 1, _, _, by omega, by go_num, HDL2, HPS⟩
          case measure => simp [intOf]; omega
        · have lk : ¬ (k : Int) < 6 := by omega
          have hk6 : k = 6 := by omega
          have HDL2 : Hid (ds.length = 6 * (t + 1)) := Lib.hid (by rw [HDL.out]; omega)
          clear hk6
          go_wp2_with fail
          go_roundw
          case rel => exact ⟨t + 1, _, _, by omega, by go_num, HDL2, HS⟩
          case measure => simp [intOf]; omega
    · have lt : ¬ (t : Int) < 4 := by omega
      obtain ⟨A5, c5, hsv, k1, k2, -⟩ := owns_rd HS.out.own
      subst hsv
      have c0 := HS.out.wb.cell 0
      have c1 := HS.out.wb.cell 1
      have c2 := HS.out.wb.cell 2
      have c3 := HS.out.wb.cell 3
      have c4 := HS.out.wb.cell 4
      have c5' := HS.out.wb.cell 5
      have d0 := HS.out.rb.cell 0
      have d1 := HS.out.rb.cell 1
      have d2 := HS.out.rb.cell 2
      have d3 := HS.out.rb.cell 3
      have d4 := HS.out.rb.cell 4
      have d5 := HS.out.rb.cell 5
      have z0 := HS.out.rb.frozen 0
      have z1 := HS.out.rb.frozen 1
      have z2 := HS.out.rb.frozen 2
      have z3 := HS.out.rb.frozen 3
      have z4 := HS.out.rb.frozen 4
      have z5 := HS.out.rb.frozen 5
      simp only [List.getElem?_toArray, List.getElem?_cons_zero, List.getElem?_cons_succ] at c0 c1 c2 c3 c4 c5' d0 d1 d2 d3 d4 d5
      have B8 := blk_set6 HS.out.rb (.slice (some ⟨w.heap.size + 1, 0, none⟩) 5 5) (.slice (some ⟨w.heap.size + 1 + 1, 0, none⟩) 3 3) (.slice (some ⟨w.heap.size + 1 + 1 + 1, 0, none⟩) 1 1) (.slice (some ⟨w.heap.size + 1 + 1 + 1 + 1, 0, none⟩) 1 1) (.slice (some ⟨w.heap.size + 1 + 1 + 1 + 1 + 1, 0, none⟩) 4 4) (.slice A5 ds.length c5)
      have hg := grown_set6 wo w.heap.size (.slice (some ⟨w.heap.size + 1, 0, none⟩) 5 5) (.slice (some ⟨w.heap.size + 1 + 1, 0, none⟩) 3 3) (.slice (some ⟨w.heap.size + 1 + 1 + 1, 0, none⟩) 1 1) (.slice (some ⟨w.heap.size + 1 + 1 + 1 + 1, 0, none⟩) 1 1) (.slice (some ⟨w.heap.size + 1 + 1 + 1 + 1 + 1, 0, none⟩) 4 4) (.slice A5 ds.length c5)
      unfold set6 at B8 hg
      have HB8 := Lib.hid B8
      have HG := Lib.hid hg
      clear B8 hg
      go_wp2_with fail
      clear c0 c1 c2 c3 c4 c5' d0 d1 d2 d3 d4 d5 z0 z1 z2 z3 z4 z5
      generalize ((((((wo.setCell ⟨w.heap.size, 0, none⟩ (.slice (some ⟨w.heap.size + 1, 0, none⟩) 5 5)).setCell ⟨w.heap.size, 1, none⟩ (.slice (some ⟨w.heap.size + 1 + 1, 0, none⟩) 3 3)).setCell ⟨w.heap.size, 2, none⟩ (.slice (some ⟨w.heap.size + 1 + 1 + 1, 0, none⟩) 1 1)).setCell ⟨w.heap.size, 3, none⟩ (.slice (some ⟨w.heap.size + 1 + 1 + 1 + 1, 0, none⟩) 1 1)).setCell ⟨w.heap.size, 4, none⟩ (.slice (some ⟨w.heap.size + 1 + 1 + 1 + 1 + 1, 0, none⟩) 4 4)).setCell ⟨w.heap.size, 5, none⟩ (.slice A5 ds.length c5)) = W8 at *
      have u0 := HB8.out.cell 0
      have u1 := HB8.out.cell 1
      have u2 := HB8.out.cell 2
      have u3 := HB8.out.cell 3
      have u4 := HB8.out.cell 4
      have u5 := HB8.out.cell 5
      simp only [List.getElem?_toArray, List.getElem?_cons_zero, List.getElem?_cons_succ] at u0 u1 u2 u3 u4 u5
      refine bodyPost_ret (v := .agg #[.slice (some ⟨w.heap.size + 1, 0, none⟩) 5 5, .slice (some ⟨w.heap.size + 1 + 1, 0, none⟩) 3 3, .slice (some ⟨w.heap.size + 1 + 1 + 1, 0, none⟩) 1 1, .slice (some ⟨w.heap.size + 1 + 1 + 1 + 1, 0, none⟩) 1 1, .slice (some ⟨w.heap.size + 1 + 1 + 1 + 1 + 1, 0, none⟩) 4 4, .slice A5 ds.length c5]) (by simp [results, Tryd.results27, go_sem, u0, u1, u2, u3, u4, u5]) rfl ⟨_, _, ds, rfl, ?_, ?_, HS.out.bl.grown HG.out HS.out.bl.size fun g e => by injection e with e; omega⟩
      · have ht := HS.out.tb.grown HG.out (by simp; omega)
        refine ⟨_, 4, rfl, by simp [wldThr], by simp [maxLen], ?_, fun _ => ⟨_, 0, rfl, ht.lt, fun j u hu => ?_⟩⟩
        · intro s hs
          simp [wldThr] at hs
          rcases hs with rfl | rfl | rfl | rfl <;> simp
        · rw [Nat.zero_add, ht.cell, List.getElem?_toArray]
          exact hu
      · have ho := HS.out.own.kept HG.out (own_ne HS.out.own (by omega))
        obtain ⟨A', c', e, h1, h2, h3⟩ := owns_rd ho
        injection e with e1 e2 e3
        subst e1 e3
        exact ⟨_, _, rfl, h1, h2, HS.out.ok, h3⟩
/- WALK: interleavelaw39.ReportScenes. -/
open Go.RowKit

set_option maxRecDepth 100000 in
set_option maxHeartbeats 4000000 in
theorem lawRScenes (v : Value) (fs : List (FIn × (Option Addr × Nat))) (w : World) (h : FIns w v fs) (hT : Tab w) (hW : WordsAt w) :
    Calls Tryd.prog 9 #[v] w fun e w' => e = .returned (.bool true) ∧ Below w.heap.size w w' := by
  have HAW := Lib.hid (awake39_from hT hW)
  have HFI := Lib.hid h
  have HT := Lib.hid hT
  have HW := Lib.hid hW
  clear hT hW h
  go_enter Tryd.func9, Tryd.ntmps9
  go_wp2_with fail
  refine (world_any w).mono ?_
  rintro e w1 ⟨A5, c5, sts, rfl, hts, hss, hb1⟩
  have HTS := Lib.hid hts
  have HSS := Lib.hid hss
  have HB1 := Lib.hid hb1
  obtain ⟨a0, ha0⟩ : ∃ a : Addr, a = ⟨w.heap.size + 1, 0, none⟩ := ⟨_, rfl⟩
  obtain ⟨a1, ha1⟩ : ∃ a : Addr, a = ⟨w.heap.size + 1 + 1, 0, none⟩ := ⟨_, rfl⟩
  obtain ⟨a2, ha2⟩ : ∃ a : Addr, a = ⟨w.heap.size + 1 + 1 + 1, 0, none⟩ := ⟨_, rfl⟩
  obtain ⟨a3, ha3⟩ : ∃ a : Addr, a = ⟨w.heap.size + 1 + 1 + 1 + 1, 0, none⟩ := ⟨_, rfl⟩
  obtain ⟨a4, ha4⟩ : ∃ a : Addr, a = ⟨w.heap.size + 1 + 1 + 1 + 1 + 1, 0, none⟩ := ⟨_, rfl⟩
  rw [← ha4] at HTS
  rw [← ha0, ← ha1, ← ha2, ← ha3, ← ha4]
  clear hts hss hb1 ha0 ha1 ha2 ha3 ha4
  go_wp2_with fail
  have hb0 : Below w1.heap.size w1 (w1.alloc (.cells #[.slice (some a0) 5 5, .slice (some a1) 3 3, .slice (some a2) 1 1, .slice (some a3) 1 1, .slice (some a4) 4 4, .slice A5 sts.length c5] 70)) := by go_grown
  have B0 := Blk.new w1 70 #[.slice (some a0) 5 5, .slice (some a1) 3 3, .slice (some a2) 1 1, .slice (some a3) 1 1, .slice (some a4) 4 4, .slice A5 sts.length c5]
  generalize w1.alloc (.cells #[.slice (some a0) 5 5, .slice (some a1) 3 3, .slice (some a2) 1 1, .slice (some a3) 1 1, .slice (some a4) 4 4, .slice A5 sts.length c5] 70) = W1 at *
  have HBW1 : Hid (Below w.heap.size w W1) := Lib.hid (HB1.out.trans (hb0.mono HB1.out.size))
  have HTS1 : Hid (Strs W1 (.slice (some a4) 4 4) wldThr) := Lib.hid (HTS.out.keep hb0)
  have HSS1 : Hid (Diffs W1 (.slice A5 sts.length c5) sts) := Lib.hid (HSS.out.keep hb0)
  have HBX1 := Lib.hid B0
  clear hb0 B0
  refine (findings_any v fs W1 (HFI.out.keep HBW1.out)).mono ?_
  rintro e w2 ⟨fv, ps, rfl, hown, hl, hb2⟩
  obtain ⟨A, c, rfl, h1, h2, hr, hok, hs⟩ := hown.fnds
  have HB2 := Lib.hid hb2
  have HR := Lib.hid hr
  have HOK := Lib.hid hok
  have HPL : Hid (ps.length ≤ 30 ∧ ∀ q ∈ ps, q.1.sites.length ≤ 4) := Lib.hid ⟨hl, hs⟩
  clear hb2 hr hok hs hown hl
  go_wp2_with fail
  refine (rgroup_any ps A c w2 HR.out HOK.out (by have := HPL.out.1; omega) (fun q hq => by have := HPL.out.2 q hq; omega)).mono ?_
  rintro e w3 ⟨v', qs, rfl, hrq, hrep, hb3⟩
  have HSZ : Hid (repsSize (qs.map (·.1)) ≤ 1000000) := Lib.hid (by
    obtain ⟨e1, e2⟩ := reports_small hrep HPL.out.2
    have e3 := sum_mul_le (qs.map (·.1)) (fun r => r.sites.length + 1) 5 fun r hr => by have := e2 r hr; omega
    have e4 := HPL.out.1
    unfold repsSize
    omega)
  obtain ⟨Aq, cq, rfl, -, -, -, -⟩ := id hrq
  have HRR : Hid (Reps w3 (.slice Aq qs.length cq) (qs.map (·.1))) := Lib.hid hrq.reps
  have HB13 : Hid (Below W1.heap.size W1 w3) := Lib.hid (HB2.out.trans (hb3.mono HB2.out.size))
  have HB3 : Hid (Below w.heap.size w w3) := Lib.hid (HBW1.out.trans (HB13.out.mono HBW1.out.size))
  have HBX := Lib.hid (HBX1.out.keep HB13.out)
  have HTS3 := Lib.hid (HTS1.out.keep HB13.out)
  have HSS3 := Lib.hid (HSS1.out.keep HB13.out)
  have HT3 := Lib.hid (HT.out.keep HB3.out HT.out.lt)
  have HW3 := Lib.hid (HW.out.keep HB3.out HW.out.1)
  clear hrq hrep hb3 HB2 HB13 HTS HSS HTS1 HSS1 HBX1 HB1 HR HOK HT HW HBW1
  go_upto_region 3 with fail
  have HSOF : Hid (∀ w', Below w3.heap.size w3 w' → w'.cell? ⟨w1.heap.size, 0, none⟩ = some (.slice (some a0) 5 5) ∧ w'.cell? ⟨w1.heap.size, 1, none⟩ = some (.slice (some a1) 3 3) ∧ w'.cell? ⟨w1.heap.size, 2, none⟩ = some (.slice (some a2) 1 1) ∧ w'.cell? ⟨w1.heap.size, 3, none⟩ = some (.slice (some a3) 1 1) ∧ w'.cell? ⟨w1.heap.size, 4, none⟩ = some (.slice (some a4) 4 4) ∧ w'.cell? ⟨w1.heap.size, 5, none⟩ = some (.slice A5 sts.length c5)) := Lib.hid (fun w' h => ⟨(HBX.out.keep h).cell 0, (HBX.out.keep h).cell 1, (HBX.out.keep h).cell 2, (HBX.out.keep h).cell 3, (HBX.out.keep h).cell 4, (HBX.out.keep h).cell 5⟩)
  have HWD : Hid (∀ w', Below w3.heap.size w3 w' → IsWld w' (.agg #[.slice (some a0) 5 5, .slice (some a1) 3 3, .slice (some a2) 1 1, .slice (some a3) 1 1, .slice (some a4) 4 4, .slice A5 sts.length c5]) wldThr sts ∧ Reps w' (.slice Aq qs.length cq) (qs.map (·.1)) ∧ Tab w' ∧ WordsAt w' ∧ Below w.heap.size w w') := Lib.hid (fun w' h => by
    have hb := HB3.out.trans (h.mono HB3.out.size)
    exact ⟨⟨_, _, _, _, _, _, rfl, HTS3.out.keep h, HSS3.out.keep h⟩, HRR.out.keep h, HT3.out.keep h HT3.out.lt, HW3.out.keep h HW3.out.1, hb⟩)
  have HTH : Hid (∀ s ∈ wldThr, s.length ≤ 1048576) := Lib.hid (by
    intro s hs
    simp [wldThr] at hs
    rcases hs with rfl | rfl | rfl | rfl <;> simp)
  obtain ⟨T, hTx⟩ : ∃ T, repsText wldThr sts (qs.map (·.1)) = T := ⟨_, rfl⟩
  have HTX := Lib.hid hTx
  clear hTx
  have HF1 : Hid (∀ w', Below w3.heap.size w3 w' → Calls Tryd.prog 25 #[.agg #[.slice (some a0) 5 5, .slice (some a1) 3 3, .slice (some a2) 1 1, .slice (some a3) 1 1, .slice (some a4) 4 4, .slice A5 sts.length c5], .slice Aq qs.length cq] w' fun e w2 => e = .returned (.string ⟨T.toArray⟩) ∧ Below w3.heap.size w3 w2) := Lib.hid (fun w' h => by
    obtain ⟨g1, g2, g3, g4, g5⟩ := HWD.out w' h
    exact (rpformat_any _ _ wldThr sts _ w' g1 g2 g3 g4 HTH.out HSZ.out).mono fun e w2 r => ⟨by rw [r.1, HTX.out], h.trans (r.2.mono h.size)⟩)
  have HF2 : Hid (∀ w', Below w3.heap.size w3 w' → Calls Tryd.prog 26 #[.agg #[.slice (some a0) 5 5, .slice (some a1) 3 3, .slice (some a2) 1 1, .slice (some a3) 1 1, .slice (some a4) 4 4, .slice A5 sts.length c5], .slice Aq qs.length cq] w' fun e w2 => e = .returned (.string ⟨T.toArray⟩) ∧ Below w3.heap.size w3 w2) := Lib.hid (fun w' h => by
    obtain ⟨g1, g2, g3, g4, g5⟩ := HWD.out w' h
    exact (rfmt_any _ _ wldThr sts _ w' g1 g2 g3 HTH.out HSZ.out).mono fun e w2 r => ⟨by rw [r.1, HTX.out], h.trans (r.2.mono h.size)⟩)
  have HAW2 := Lib.hid (awake39_from HT3.out HW3.out)
  have hs0 := HSOF.out _ (Below.refl _ _)
  obtain ⟨z1, z2, z3, z4, z5, z6⟩ := hs0
  go_region_held3 (fun w' => w'.cell? ⟨w1.heap.size, 0, none⟩ = some (.slice (some a0) 5 5) ∧ w'.cell? ⟨w1.heap.size, 1, none⟩ = some (.slice (some a1) 3 3) ∧ w'.cell? ⟨w1.heap.size, 2, none⟩ = some (.slice (some a2) 1 1) ∧ w'.cell? ⟨w1.heap.size, 3, none⟩ = some (.slice (some a3) 1 1) ∧ w'.cell? ⟨w1.heap.size, 4, none⟩ = some (.slice (some a4) 4 4) ∧ w'.cell? ⟨w1.heap.size, 5, none⟩ = some (.slice A5 sts.length c5)) (first | assumption | exact HSOF.out _ (Below.refl _ _).drew) (first
    | (go_at_call 25; (with_reducible refine (HF1.out _ (by exact (Below.refl _ _).drew)).mono ?_); rintro e w4 ⟨rfl, hb4⟩; have hs4 := HSOF.out _ hb4)
    | (go_at_call 26; (with_reducible refine (HF2.out _ (by exact hb4)).mono ?_); rintro e w5 ⟨rfl, hb5⟩; have hs5 := HSOF.out _ hb5)
    | (go_at_call 18; (with_reducible refine (HAW2.out _ (by exact hb5)).mono ?_); rintro e w6 ⟨rfl, hb6⟩; have hs6 := HSOF.out _ hb6))
  have HB6 := Lib.hid (HB3.out.trans (hb6.mono HB3.out.size))
  clear hs4 hs5 hs6 hb4 hb5 hb6
  go_wp2_with fail
  go_ret
  exact ⟨rfl, HB6.out⟩
end Go.Proofs.YtccpelfnkjckiaaDoor
