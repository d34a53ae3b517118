/-
  WALK: interleaveref31.Cyclic: the clause of a negative cycle.
-/
import Derived.Test.YtfffalfnjficaaaGreatDoorPs18
import Derived.Test.YtfffalfnjficaaaGreatDoorPs42
import Derived.Test.YtfffalfnjficaaaGreatDoorPs41
import Derived.Test.YtfffalfnjficaaaGreatDoorPs43
namespace Go.Proofs.YtfffalfnjficaaaGreatDoor
open Go.RowKit

/-- The reference's rows under way. -/
structure CR (w wr : World) (fv : Array Value) (v6 v7 v8 : Value) (ds : List Diff) (xs ys : List Int) : Prop where
  b0 : Blk wr w.heap.size 35 fv
  o6 : wr.ownsRow (w.heap.size + 1) 61 3 v6 ds.length (ds.flatMap Diff.cells)
  o7 : wr.ownsRow (w.heap.size + 1) 3 1 v7 xs.length (xs.map (Value.int .i64))
  o8 : wr.ownsRow (w.heap.size + 1) 3 1 v8 ys.length (ys.map (Value.int .i64))
  a67 : Apart v6 v7
  a68 : Apart v6 v8
  a78 : Apart v7 v8
  hi : w.heap.size + 1 ≤ wr.heap.size
  bl : Below w.heap.size w wr
section
variable {w wr w' : World} {fv : Array Value} {v6 v7 v8 : Value} {ds : List Diff} {xs ys : List Int}
theorem CR.keep (h : CR w wr fv v6 v7 v8 ds xs ys) (hb : Below wr.heap.size wr w') : CR w w' fv v6 v7 v8 ds xs ys :=
  ⟨h.b0.keep hb, owns_keep h.o6 hb, owns_keep h.o7 hb, owns_keep h.o8 hb, h.a67, h.a68, h.a78, Nat.le_trans h.hi hb.size, h.bl.trans (hb.mono h.bl.size)⟩
theorem CR.push6 {v6' : Value} {d : Diff} (h : CR w wr fv v6 v7 v8 ds xs ys) (ho : w'.ownsRow (w.heap.size + 1) 61 3 v6' (ds.length + 1) (ds.flatMap Diff.cells ++ d.cells)) (hg : wr.grownBy w' v6.ownBlock) (hat : v6'.ownBlock = v6.ownBlock ∨ v6'.ownBlock = some wr.heap.size) : CR w w' fv v6' v7 v8 (ds ++ [d]) xs ys := by
  refine ⟨h.b0.grown hg fun e => ?_, by simpa using ho, h.o7.kept hg h.a67.symm.ne, h.o8.kept hg h.a68.symm.ne, (h.a67.symm.append (fun g e => (h.o7.lt g e).2) hat).symm, (h.a68.symm.append (fun g e => (h.o8.lt g e).2) hat).symm, h.a78, Nat.le_trans h.hi hg.size, h.bl.grown hg h.bl.size fun g e => ?_⟩
  · have := (h.o6.lt _ e.symm).1; omega
  · have := (h.o6.lt g e).1; omega
theorem CR.push7 {v7' : Value} {x : Int} (h : CR w wr fv v6 v7 v8 ds xs ys) (ho : w'.ownsRow (w.heap.size + 1) 3 1 v7' (xs.length + 1) (xs.map (Value.int .i64) ++ [.int .i64 x])) (hg : wr.grownBy w' v7.ownBlock) (hat : v7'.ownBlock = v7.ownBlock ∨ v7'.ownBlock = some wr.heap.size) : CR w w' fv v6 v7' v8 ds (xs ++ [x]) ys := by
  refine ⟨h.b0.grown hg fun e => ?_, h.o6.kept hg h.a67.ne, by simpa using ho, h.o8.kept hg h.a78.symm.ne, h.a67.append (fun g e => (h.o6.lt g e).2) hat, h.a68, (h.a78.symm.append (fun g e => (h.o8.lt g e).2) hat).symm, Nat.le_trans h.hi hg.size, h.bl.grown hg h.bl.size fun g e => ?_⟩
  · have := (h.o7.lt _ e.symm).1; omega
  · have := (h.o7.lt g e).1; omega
theorem CR.push8 {v8' : Value} {x : Int} (h : CR w wr fv v6 v7 v8 ds xs ys) (ho : w'.ownsRow (w.heap.size + 1) 3 1 v8' (ys.length + 1) (ys.map (Value.int .i64) ++ [.int .i64 x])) (hg : wr.grownBy w' v8.ownBlock) (hat : v8'.ownBlock = v8.ownBlock ∨ v8'.ownBlock = some wr.heap.size) : CR w w' fv v6 v7 v8' ds xs (ys ++ [x]) := by
  refine ⟨h.b0.grown hg fun e => ?_, h.o6.kept hg h.a68.ne, h.o7.kept hg h.a78.ne, by simpa using ho, h.a67, h.a68.append (fun g e => (h.o6.lt g e).2) hat, h.a78.append (fun g e => (h.o7.lt g e).2) hat, Nat.le_trans h.hi hg.size, h.bl.grown hg h.bl.size fun g e => ?_⟩
  · have := (h.o8.lt _ e.symm).1; omega
  · have := (h.o8.lt g e).1; omega
end

set_option maxRecDepth 100000 in
set_option maxHeartbeats 2000000 in
theorem rcyclic_any (i j av cv lv : Value) (atoms : List Diff) (lits : List Int) (w : World) (ha : Diffs w av atoms) (hl : Ints w lv lits) (hok : OkC atoms) (hn : lits.length ≤ 1000000) (hat : atoms.length ≤ 1000000) :
    Calls Tryz.prog 50 #[.agg #[i, j, av, cv], lv] w (ClRet w (cyc atoms lits)) := by
  obtain ⟨A, c, rfl, h1, h2, h3, hr⟩ := hl
  unfold maxLen at h2
  have HA := Lib.hid ha
  have HX := Lib.hid h3
  have HR := Lib.hid hr
  have HOK := Lib.hid hok
  have HAT := Lib.hid hat
  obtain ⟨Aa, ca, rfl, -, -, -, -⟩ := ha
  obtain ⟨iD, hiD, hzD0, hzD1, hzD2⟩ := info_parts info_diff
  obtain ⟨iI, hiI, hzI0, hzI1, hzI2⟩ := info_parts info_int
  clear h3 hr hok hat
  go_enter Tryz.func50, Tryz.ntmps50
  go_wp2_with fail
  have hCR : CR w (w.alloc (.cells #[i, j, .slice Aa atoms.length ca, cv] 35)) #[i, j, .slice Aa atoms.length ca, cv] (.slice none 0 0) (.slice none 0 0) (.slice none 0 0) [] [] [] :=
    ⟨Blk.new _ _ _, World.ownsRow_nil _ _ _ _, World.ownsRow_nil _ _ _ _, World.ownsRow_nil _ _ _ _, Apart.nil_left _, Apart.nil_left _, Apart.nil_left _, by simp, by go_grown⟩
  generalize w.alloc (.cells #[i, j, .slice Aa atoms.length ca, cv] 35) = W at *
  have HCR := Lib.hid hCR
  clear hCR
  go_loopw [6, 7, 8, 15] (fun v6 v7 v8 i_ wr => ∃ (k : Nat) (ds : List Diff), k ≤ lits.length ∧ i_ = .int .i64 k ∧ ds.length = k ∧ (lits.take k).map (bound atoms) = ds.map some ∧ CR w wr #[i, j, .slice Aa atoms.length ca, cv] v6 v7 v8 ds (idx k) ((lits.take k).map (fun x => -x))) (fun _ _ _ i_ _ => lits.length - (intOf i_).toNat)
  case atStart => exact ⟨0, [], by omega, rfl, rfl, rfl, HCR.out⟩
  case round =>
    obtain ⟨k, ds, hk, rfl, hds, hbn, hcs⟩ := hrel
    generalize hys : (lits.take k).map (fun x => -x) = ys at hcs
    have HYS := Lib.hid hys
    clear hys
    have H1 := Lib.hid hcs
    have HDS := Lib.hid hds
    have HBN := Lib.hid hbn
    have q0 := hcs.b0.cell 0
    have q1 := hcs.b0.cell 1
    have q2 := hcs.b0.cell 2
    have q3 := hcs.b0.cell 3
    simp only [List.getElem?_toArray, List.getElem?_cons_zero, List.getElem?_cons_succ] at q0 q1 q2 q3
    clear hcs hds hbn
    by_cases hlt : k < lits.length
    · obtain ⟨x, hxk⟩ : ∃ x, lits[k]? = some x := ⟨_, List.getElem?_eq_getElem hlt⟩
      obtain ⟨b1, o1, rfl, hb1, hc1⟩ := (HR.out.keep H1.out.bl).int hxk
      have HXK := Lib.hid hxk
      have HIX := Lib.hid (HX.out x (List.mem_of_getElem? hxk))
      clear hxk
      go_wp2_with fail
      refine (rbound_any _ _ _ _ atoms _ x (HA.out.keep H1.out.bl) (fun d hd => by have := (HOK.out d hd).2.1; omega) HIX.out).mono ?_
      rintro e w2 ⟨rfl, hb2⟩
      have H2 := Lib.hid (H1.out.keep hb2)
      clear hb2 q0 q1 q2 q3
      cases hbd : bound atoms x with
      | none =>
        have HC : Hid (cyc atoms lits = none) := by
          refine Lib.hid ?_
          unfold cyc; rw [bnds_none (List.mem_of_getElem? HXK.out) hbd]
        rw [show boundVal none = .tuple #[.agg #[.int .i64 0, .int .i64 0, .int .i64 0], .bool false] from rfl]
        clear hbd
        go_wp2_with fail
        go_ret2
        exact ClRet.no HC.out (by have := H2.out.bl; exact this.alloc this.size _)
      | some d =>
        rw [show boundVal (some d) = .tuple #[.agg #[.int .i64 d.x, .int .i64 d.y, .int .i64 d.c], .bool true] from rfl]
        have HBD := Lib.hid hbd
        have hx0 : x ≠ -9223372036854775808 := by
          rcases bound_lit hbd with h | h
          · exact h
          · have := HAT.out; omega
        have hx1 : -9223372036854775807 ≤ x := by have := HIX.out.1; omega
        have hx2 : x ≤ 9223372036854775807 := HIX.out.2
        clear hbd hx0
        have H3 : Hid (CR w (w2.alloc (.cells #[.int .i64 d.x, .int .i64 d.y, .int .i64 d.c] 61)) #[i, j, .slice Aa atoms.length ca, cv] u6 u7 u8 ds (idx k) ys) := H2.out.keep (by go_grown)
        obtain ⟨A6, c6, e6, -, -, -⟩ := owns_rd H3.out.o6
        obtain ⟨A7, c7, e7, -, -, -⟩ := owns_rd H3.out.o7
        obtain ⟨A8, c8, e8, -, -, -⟩ := owns_rd H3.out.o8
        subst e6 e7 e8
        have hdl := HDS.out
        have hil := idx_len k
        have hll : ys.length = k := by rw [← HYS.out]; simp; omega
        have HDL := Lib.hid hdl
        have HIL := Lib.hid hil
        have HLL := Lib.hid hll
        clear hdl hil hll
        go_wp2_with (at_builtin; refine wpList_append_own_at _ rfl _ _ 32 rfl (w.heap.size + 1) 61 iD (.agg #[.int .i64 0, .int .i64 0, .int .i64 0]) 3 24 Tryz.underlying32 hiD hzD0 hzD1 hzD2 rfl (by decide) _ _ _ rfl (H3.out.o6.alloc _) ⟨w2.heap.size + 1, 0, none⟩ 1 1 [.int .i64 d.x, .int .i64 d.y, .int .i64 d.c] rfl rfl ?a1 ?a2 ?a3 ?a4 ?a5 ?_)
        case a1 => exact cells_at (w2.alloc (.cells #[.int .i64 d.x, .int .i64 d.y, .int .i64 d.c] 61)) _ [.int .i64 d.x, .int .i64 d.y, .int .i64 d.c] (by simp)
        case a2 => intro u hu; simp at hu; rcases hu with rfl | rfl | rfl <;> rfl
        case a3 => rw [HDL.out]; unfold maxLen; omega
        case a4 => rw [HDL.out]; omega
        case a5 => have := H3.out.hi; simp at this ⊢; omega
        intro v6' w4 hown' hgrow _ hat
        have H4 := Lib.hid ((H3.out.keep (by go_grown)).push6 (d := d) hown' hgrow (by simpa using hat))
        obtain ⟨A6', c6', e6, -, -, -⟩ := owns_rd hown'
        subst e6
        clear hown' hgrow hat
        go_wp2_with (at_builtin; refine wpList_append_own_at _ rfl _ _ 44 rfl (w.heap.size + 1) 3 iI (.int .i64 0) 1 8 Tryz.underlying44 hiI hzI0 hzI1 hzI2 rfl (by decide) _ _ _ rfl (H4.out.o7.alloc _) ⟨w4.heap.size, 0, none⟩ 1 1 [.int .i64 (k : Int)] rfl rfl ?b1 ?b2 ?b3 ?b4 ?b5 ?_)
        case b1 => exact one_at w4 _ _
        case b2 => intro u hu; simp at hu; subst hu; rfl
        case b3 => rw [HIL.out]; unfold maxLen; omega
        case b4 => rw [HIL.out]; omega
        case b5 => have := H4.out.hi; simp; omega
        intro v7' w5 hown' hgrow _ hat
        have H5 := Lib.hid ((H4.out.keep (by go_grown)).push7 (x := (k : Int)) hown' hgrow (by simpa using hat))
        obtain ⟨A7', c7', e7, -, -, -⟩ := owns_rd hown'
        subst e7
        clear hown' hgrow hat
        go_wp2_with (at_builtin; refine wpList_append_own_at _ rfl _ _ 44 rfl (w.heap.size + 1) 3 iI (.int .i64 0) 1 8 Tryz.underlying44 hiI hzI0 hzI1 hzI2 rfl (by decide) _ _ _ rfl (H5.out.o8.alloc _) ⟨w5.heap.size, 0, none⟩ 1 1 [.int .i64 (-x)] rfl rfl ?c1 ?c2 ?c3 ?c4 ?c5 ?_)
        case c1 => exact one_at w5 _ _
        case c2 => intro u hu; simp at hu; subst hu; rfl
        case c3 => rw [HLL.out]; unfold maxLen; omega
        case c4 => rw [HLL.out]; omega
        case c5 => have := H5.out.hi; simp; omega
        intro v8' w6 hown' hgrow _ hat
        have H6 := Lib.hid ((H5.out.keep (by go_grown)).push8 (x := -x) hown' hgrow (by simpa using hat))
        obtain ⟨A8', c8', e8, -, -, -⟩ := owns_rd hown'
        subst e8
        clear hown' hgrow hat
        have H7 : Hid (CR w w6 #[i, j, .slice Aa atoms.length ca, cv] (.slice A6' (ds.length + 1) c6') (.slice A7' ((idx k).length + 1) c7') (.slice A8' (ys.length + 1) c8') (ds ++ [d]) (idx (k + 1)) ((lits.take (k + 1)).map (fun x => -x))) := by
          have h := H6.out
          rw [idx_succ, take_succ_of HXK.out, List.map_append, HYS.out]
          exact h
        go_wp2_with fail
        go_roundw
        case rel => exact ⟨k + 1, ds ++ [d], by omega, by go_num, by simp [HDS.out], bnds_take HBN.out HXK.out HBD.out, H7.out⟩
        case measure => simp [intOf]; omega
    · obtain rfl : k = lits.length := by omega
      have HBS : Hid (bnds atoms lits = some ds) := bnds_some.2 (by have h := HBN.out; rwa [List.take_length] at h)
      have hdok := bnds_ok HOK.out (by have h := HBN.out; rwa [List.take_length] at h)
      have HDO := Lib.hid hdok
      have hD := owns_diffs H1.out.o6 (fun d hd => (HDO.out d hd).1)
      have hI : Ints wr u7 (idx lits.length) := Own.ints (base := w.heap.size + 1) ⟨H1.out.o7, fun x hx => by obtain ⟨q, hq, rfl⟩ := List.mem_map.1 hx; have := List.mem_range.1 hq; constructor <;> omega⟩
      have HD1 := Lib.hid hD
      have HI1 := Lib.hid hI
      have HO8 : Hid (wr.ownsRow (w.heap.size + 1) 3 1 u8 (lits.map (fun x => -x)).length ((lits.map (fun x => -x)).map (Value.int .i64))) := by
        have h := H1.out.o8
        rw [← HYS.out, List.take_length] at h
        exact h
      clear hD hI hdok q0 q1 q2 q3
      go_wp2_with fail
      refine (rcycle_any _ _ ds _ HD1.out (by rw [HDS.out]; exact HI1.out) (fun d hd => (HDO.out d hd).2) (by rw [HDS.out]; exact hn)).mono ?_
      rintro e w2 ⟨rfl, hb2⟩
      have H2 := Lib.hid (H1.out.bl.trans (hb2.mono H1.out.bl.size))
      have HN2 := Lib.hid (owns_keep HO8.out hb2)
      clear hb2
      cases hcy : cycB ds with
      | false =>
        have HC : Hid (cyc atoms lits = none) := by
          refine Lib.hid ?_
          unfold cyc; rw [HBS.out]; simp [hcy]
        clear hcy
        simp only
        go_wp2_with fail
        go_ret2
        exact ClRet.no HC.out H2.out
      | true =>
        have HC : Hid (cyc atoms lits = norm (lits.map (fun x => -x))) := by
          refine Lib.hid ?_
          unfold cyc; rw [HBS.out]; simp [hcy]
        clear hcy
        have hI2 : Ints w2 u8 (lits.map (fun x => -x)) := by
          refine Own.ints (base := w.heap.size + 1) ⟨HN2.out, fun y hy => ?_⟩
          obtain ⟨x, hx, rfl⟩ := List.mem_map.1 hy
          exact neg_i64 HBS.out hx (HX.out x hx) HAT.out
        have HI2 := Lib.hid hI2
        clear hI2
        simp only
        go_wp2_with fail
        refine (rnormal_any _ (lits.map (fun x => -x)) _ HI2.out (by simp; omega)).mono ?_
        intro e w3 hnr
        have hcl := NormRet.cl (w := w) hnr HC.out H2.out
        clear hnr
        obtain ⟨v, rfl, h5, h6⟩ := hcl
        have H5 := Lib.hid h5
        have H6 := Lib.hid h6
        clear h5 h6
        go_wp2_with fail
        go_ret2
        exact ⟨v, rfl, H5.out, H6.out⟩
end Go.Proofs.YtfffalfnjficaaaGreatDoor
