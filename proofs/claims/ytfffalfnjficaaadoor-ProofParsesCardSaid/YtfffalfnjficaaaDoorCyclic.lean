/-
  WALK: proof.cycle: the clause of a negative cycle.
-/
import Derived.Test.YtfffalfnjficaaaDoorCycle
import Derived.Test.YtfffalfnjficaaaDoorMake
import Derived.Test.YtfffalfnjficaaaDoorNormal
import Derived.Test.YtfffalfnjficaaaDoorOk
namespace Go.Proofs.YtfffalfnjficaaaDoor
open Go.RowKit

/-- What a function returns that derives a clause. -/
def ClRet (w : World) (r : Option (List Int)) (e : Ending) (w' : World) : Prop :=
  ∃ v, e = .returned (.tuple #[v, .bool r.isSome]) ∧ Own w' w.heap.size v (r.getD []) ∧ Below w.heap.size w w'
theorem ClRet.no {w w' : World} {r : Option (List Int)} (h : r = none) (hb : Below w.heap.size w w') : ClRet w r (.returned (.tuple #[.slice none 0 0, .bool false])) w' := by
  subst h
  exact ⟨_, rfl, ⟨World.ownsRow_nil _ _ _ _, by simp⟩, hb⟩
theorem NormRet.cl {w W w' : World} {xs : List Int} {r : Option (List Int)} {e : Ending} (h : NormRet W xs e w') (hr : r = norm xs) (hb : Below w.heap.size w W) : ClRet w r e w' := by
  obtain ⟨v, he, ⟨h1, h2⟩, h3⟩ := h
  subst hr
  exact ⟨v, he, ⟨owns_base h1 hb.size, h2⟩, hb.trans (h3.mono hb.size)⟩

/-- Atoms whose constraints can be added up. -/
def OkC (ds : List Diff) : Prop := ∀ d ∈ ds, d.ok ∧ -1048576 ≤ d.c ∧ d.c ≤ 1048576
theorem bound_ok {atoms : List Diff} (h : OkC atoms) {x : Int} {d : Diff} (hd : bound atoms x = some d) : d.ok ∧ -1048577 ≤ d.c ∧ d.c ≤ 1048577 := by
  unfold bound at hd
  split at hd
  · obtain ⟨h1, h2, h3⟩ := h d (List.mem_of_getElem? hd); exact ⟨h1, by omega, by omega⟩
  · split at hd
    · obtain ⟨e, he, rfl⟩ := Option.map_eq_some_iff.1 hd
      obtain ⟨⟨h1, h2, h4⟩, h3⟩ := h e (List.mem_of_getElem? he)
      refine ⟨⟨h2, h1, ?_⟩, ?_, ?_⟩
      · constructor <;> simp only [Diff.opp] <;> omega
      · simp only [Diff.opp]; omega
      · simp only [Diff.opp]; omega
    · cases hd
theorem bnds_take {atoms ds : List Diff} {lits : List Int} {k : Nat} (h : (lits.take k).map (bound atoms) = ds.map some) {x : Int} (hx : lits[k]? = some x) {d : Diff} (hd : bound atoms x = some d) : (lits.take (k + 1)).map (bound atoms) = (ds ++ [d]).map some := by
  rw [take_succ_of hx, List.map_append, h]; simp [hd]
theorem bnds_ok {atoms ds : List Diff} {lits : List Int} (ha : OkC atoms) (h : lits.map (bound atoms) = ds.map some) : ∀ d ∈ ds, d.ok ∧ -1048577 ≤ d.c ∧ d.c ≤ 1048577 := by
  intro d hd
  have h1 : some d ∈ lits.map (bound atoms) := by rw [h]; exact List.mem_map.2 ⟨d, hd, rfl⟩
  obtain ⟨x, _, hx⟩ := List.mem_map.1 h1
  exact bound_ok ha hx
theorem bound_lit {atoms : List Diff} {x : Int} {d : Diff} (h : bound atoms x = some d) : x ≠ -9223372036854775808 ∨ 9223372036854775807 < (atoms.length : Int) := by
  by_cases e : x = -9223372036854775808
  · right
    subst e
    unfold bound at h
    rw [if_neg (by omega), if_pos (by omega)] at h
    obtain ⟨e, he, _⟩ := Option.map_eq_some_iff.1 h
    have := (List.getElem?_eq_some_iff.1 he).1
    omega
  · exact .inl e

theorem neg_i64 {atoms ds : List Diff} {lits : List Int} (h : bnds atoms lits = some ds) {x : Int} (hx : x ∈ lits) (h1 : I64 x) (hat : atoms.length ≤ 1000000) : I64 (-x) := by
  have h2 : some (bound atoms x) ∈ (lits.map (bound atoms)).map some := List.mem_map.2 ⟨_, List.mem_map.2 ⟨x, hx, rfl⟩, rfl⟩
  rw [bnds_some.1 h] at h2
  obtain ⟨y, hy, e⟩ := List.mem_map.1 h2
  injection e with e
  obtain ⟨d, _, rfl⟩ := List.mem_map.1 hy
  rcases bound_lit e.symm with h | h
  · obtain ⟨h3, h4⟩ := h1; constructor <;> omega
  · omega
/-- The rows under way: constraints, places, opposite literals. -/
structure CS (w wr : World) (g1 g2 g3 n : Nat) (fv : Array Value) (ds : List Diff) (lits : List Int) (k : Nat) : Prop where
  b0 : Blk wr w.heap.size 26 fv
  b1 : Blk wr g1 48 (rowD (pad ⟨0, 0, 0⟩ n ds))
  b2 : Blk wr g2 3 (rowI (pad 0 n (idx k)))
  b3 : Blk wr g3 3 (rowI (pad 0 n ((lits.take k).map (fun x => -x))))
  bl : Below w.heap.size w wr
theorem CS.keep {w wr w' : World} {g1 g2 g3 n : Nat} {fv : Array Value} {ds : List Diff} {lits : List Int} {k : Nat} (h : CS w wr g1 g2 g3 n fv ds lits k) (hb : Below wr.heap.size wr w') : CS w w' g1 g2 g3 n fv ds lits k :=
  ⟨h.b0.keep hb, h.b1.keep hb, h.b2.keep hb, h.b3.keep hb, h.bl.trans (hb.mono h.bl.size)⟩
theorem CS.put {w wr : World} {n : Nat} {fv : Array Value} {ds : List Diff} {lits : List Int} {k : Nat} {x : Int} {d : Diff} (h : CS w wr (w.heap.size + 1) (w.heap.size + 1 + 1) (w.heap.size + 1 + 1 + 1) n fv ds lits k) (hx : lits[k]? = some x) (hd : ds.length = k) (hk : k < n) :
    CS w (((((wr.setCell ⟨w.heap.size + 1, k * 3, none⟩ (.int .i64 d.x)).setCell ⟨w.heap.size + 1, k * 3 + 1, none⟩ (.int .i64 d.y)).setCell ⟨w.heap.size + 1, k * 3 + 2, none⟩ (.int .i64 d.c)).setCell ⟨w.heap.size + 1 + 1, k, none⟩ (.int .i64 (k : Int))).setCell ⟨w.heap.size + 1 + 1 + 1, k, none⟩ (.int .i64 (-x)))
      (w.heap.size + 1) (w.heap.size + 1 + 1) (w.heap.size + 1 + 1 + 1) n fv (ds ++ [d]) lits (k + 1) := by
  have hlt : k < lits.length := (List.getElem?_eq_some_iff.1 hx).1
  refine ⟨?_, ?_, ?_, ?_, ?_⟩
  · exact ((((h.b0.far (by simp) _).far (by simp) _).far (by simp) _).far (by simp; omega) _).far (by simp; omega) _
  · rw [← pad_set (x := d) (by omega) hd]
    exact ((h.b1.setD k d).far (by simp) _).far (by simp) _
  · rw [idx_succ, ← pad_set (x := (k : Int)) (by rw [idx_len]; omega) (idx_len k)]
    exact ((((h.b2.far (by simp) _).far (by simp) _).far (by simp) _).setI k k).far (by simp) _
  · rw [take_succ_of hx, List.map_append, List.map_cons, List.map_nil, ← pad_set (x := -x) (k := k) (by simp; omega) (by simp; omega)]
    exact ((((h.b3.far (by simp; omega) _).far (by simp; omega) _).far (by simp; omega) _).far (by simp) _).setI k (-x)
  · exact ((((h.bl.setCell (by simp) _).setCell (by simp) _).setCell (by simp) _).setCell (by simp; omega) _).setCell (by simp; omega) _

set_option maxRecDepth 100000 in
set_option maxHeartbeats 2000000 in
theorem pcycle_any (i j av cv lv : Value) (atoms : List Diff) (lits : List Int) (w : World) (ha : Diffs w av atoms) (hl : Ints w lv lits) (hok : OkC atoms) (hn : lits.length ≤ 1000000) (hat : atoms.length ≤ 1000000) :
    Calls Tryd.prog 60 #[.agg #[i, j, av, cv], lv] w (ClRet w (cyc atoms lits)) := by
  obtain ⟨A, c, rfl, h1, h2, h3, hr⟩ := hl
  unfold maxLen at h2
  have HA := Lib.hid ha
  have HX := Lib.hid h3
  have HR := Lib.hid hr
  have HOK := Lib.hid hok
  have HAT := Lib.hid hat
  obtain ⟨Aa, ca, rfl, -, -, -, -⟩ := ha
  have m1 := mk_diffs lits.length hn
  have m2 := mk_ints lits.length hn
  clear h3 hr hok hat
  go_enter Tryd.func60, Tryd.ntmps60
  go_wp2_with fail
  have hCS : CS w ((((w.alloc (.cells #[i, j, .slice Aa atoms.length ca, cv] 26)).alloc (.cells (rowD (List.replicate lits.length ⟨0, 0, 0⟩)) 48)).alloc (.cells (rowI (List.replicate lits.length 0)) 3)).alloc (.cells (rowI (List.replicate lits.length 0)) 3))
      (w.heap.size + 1) (w.heap.size + 1 + 1) (w.heap.size + 1 + 1 + 1) lits.length #[i, j, .slice Aa atoms.length ca, cv] [] lits 0 := by
    have z0 := Blk.new w 26 #[i, j, .slice Aa atoms.length ca, cv]
    have z1 := Blk.new (w.alloc (.cells #[i, j, .slice Aa atoms.length ca, cv] 26)) 48 (rowD (List.replicate lits.length ⟨0, 0, 0⟩))
    have z2 := Blk.new ((w.alloc (.cells #[i, j, .slice Aa atoms.length ca, cv] 26)).alloc (.cells (rowD (List.replicate lits.length ⟨0, 0, 0⟩)) 48)) 3 (rowI (List.replicate lits.length 0))
    have z3 := Blk.new (((w.alloc (.cells #[i, j, .slice Aa atoms.length ca, cv] 26)).alloc (.cells (rowD (List.replicate lits.length ⟨0, 0, 0⟩)) 48)).alloc (.cells (rowI (List.replicate lits.length 0)) 3)) 3 (rowI (List.replicate lits.length 0))
    simp only [World.size_alloc] at z1 z2 z3
    refine ⟨((z0.alloc _).alloc _).alloc _, ?_, ?_, ?_, by go_grown⟩
    · rw [pad_nil]; exact (z1.alloc _).alloc _
    · rw [show idx 0 = [] from rfl, pad_nil]; exact z2.alloc _
    · rw [List.take_zero, List.map_nil, pad_nil]; exact z3
  generalize (((w.alloc (.cells #[i, j, .slice Aa atoms.length ca, cv] 26)).alloc (.cells (rowD (List.replicate lits.length ⟨0, 0, 0⟩)) 48)).alloc (.cells (rowI (List.replicate lits.length 0)) 3)).alloc (.cells (rowI (List.replicate lits.length 0)) 3) = W at *
  have HCS := Lib.hid hCS
  clear hCS m1 m2
  go_loopw [24] (fun i_ wr => ∃ (k : Nat) (ds : List Diff), k ≤ lits.length ∧ i_ = .int .i64 k ∧ ds.length = k ∧ (lits.take k).map (bound atoms) = ds.map some ∧ CS w wr (w.heap.size + 1) (w.heap.size + 1 + 1) (w.heap.size + 1 + 1 + 1) lits.length #[i, j, .slice Aa atoms.length ca, cv] ds lits k) (fun i_ _ => lits.length - (intOf i_).toNat)
  case atStart => exact ⟨0, [], by omega, rfl, rfl, rfl, HCS.out⟩
  case round =>
    obtain ⟨k, ds, hk, rfl, hds, hbn, hcs⟩ := hrel
    have H1 := Lib.hid hcs
    have HDS := Lib.hid hds
    have HBN := Lib.hid hbn
    have q0 := hcs.b0.cell 0
    have q1 := hcs.b0.cell 1
    have q2 := hcs.b0.cell 2
    have q3 := hcs.b0.cell 3
    simp only [List.getElem?_toArray, List.getElem?_cons_zero, List.getElem?_cons_succ] at q0 q1 q2 q3
    clear hcs hds hbn
    by_cases hlt : k < lits.length
    · obtain ⟨x, hxk⟩ : ∃ x, lits[k]? = some x := ⟨_, List.getElem?_eq_getElem hlt⟩
      obtain ⟨b1, o1, rfl, hb1, hc1⟩ := (HR.out.keep H1.out.bl).int hxk
      have HXK := Lib.hid hxk
      have HIX := Lib.hid (HX.out x (List.mem_of_getElem? hxk))
      clear hxk
      go_wp2_with fail
      refine (fbound_any _ _ _ _ atoms _ x (HA.out.keep H1.out.bl) (fun d hd => by have := (HOK.out d hd).2.1; omega) HIX.out).mono ?_
      rintro e w2 ⟨rfl, hb2⟩
      have H2 := Lib.hid (H1.out.keep hb2)
      clear hb2 q0 q1 q2 q3
      cases hbd : bound atoms x with
      | none =>
        have HC : Hid (cyc atoms lits = none) := by
          refine Lib.hid ?_
          unfold cyc; rw [bnds_none (List.mem_of_getElem? HXK.out) hbd]
        rw [show boundVal none = .tuple #[.agg #[.int .i64 0, .int .i64 0, .int .i64 0], .bool false] from rfl]
        clear hbd
        go_wp2_with fail
        go_ret2
        exact ClRet.no HC.out (by have := H2.out.bl; exact this.alloc this.size _)
      | some d =>
        rw [show boundVal (some d) = .tuple #[.agg #[.int .i64 d.x, .int .i64 d.y, .int .i64 d.c], .bool true] from rfl]
        have HBD := Lib.hid hbd
        have hx0 : x ≠ -9223372036854775808 := by
          rcases bound_lit hbd with h | h
          · exact h
          · have := HAT.out; omega
        have hx1 : -9223372036854775807 ≤ x := by have := HIX.out.1; omega
        have hx2 : x ≤ 9223372036854775807 := HIX.out.2
        clear hbd hx0
        have H3 : Hid (CS w (w2.alloc (.cells #[.int .i64 d.x, .int .i64 d.y, .int .i64 d.c] 48)) (w.heap.size + 1) (w.heap.size + 1 + 1) (w.heap.size + 1 + 1 + 1) lits.length #[i, j, .slice Aa atoms.length ca, cv] ds lits k) := H2.out.keep (by go_grown)
        have p0 := H3.out.b1.cell (k * 3)
        have p1 := H3.out.b1.cell (k * 3 + 1)
        have p2 := H3.out.b1.cell (k * 3 + 2)
        have hat := rowD_at (pad_at (z := (⟨0, 0, 0⟩ : Diff)) (n := lits.length) (ys := ds) hlt (by rw [HDS.out]; exact Nat.le_refl _))
        rw [hat.1] at p0
        rw [hat.2.1] at p1
        rw [hat.2.2] at p2
        have p3 := H3.out.b2.cell k
        rw [rowI_at (pad_at (z := (0 : Int)) (n := lits.length) (ys := idx k) hlt (by rw [idx_len]; exact Nat.le_refl _))] at p3
        have p4 := H3.out.b3.cell k
        rw [rowI_at (pad_at (z := (0 : Int)) (n := lits.length) (ys := (lits.take k).map (fun x => -x)) hlt (by simp; omega))] at p4
        have z0 := H3.out.b1.frozen (k * 3)
        have z1 := H3.out.b1.frozen (k * 3 + 1)
        have z2 := H3.out.b1.frozen (k * 3 + 2)
        have z3 := H3.out.b2.frozen k
        have z4 := H3.out.b3.frozen k
        clear hat
        go_wp2_with fail
        have H4 := Lib.hid (H3.out.put (d := d) HXK.out HDS.out hlt)
        go_roundw
        case rel => exact ⟨k + 1, ds ++ [d], by omega, by go_num, by simp [HDS.out], bnds_take HBN.out HXK.out HBD.out, H4.out⟩
        case measure => simp [intOf]; omega
    · obtain rfl : k = lits.length := by omega
      have HBS : Hid (bnds atoms lits = some ds) := bnds_some.2 (by have h := HBN.out; rwa [List.take_length] at h)
      have hdok := bnds_ok HOK.out (by have h := HBN.out; rwa [List.take_length] at h)
      have HDO := Lib.hid hdok
      have hb1 := H1.out.b1
      have hb2 := H1.out.b2
      have hb3 := H1.out.b3
      rw [pad_full HDS.out] at hb1
      rw [pad_full (idx_len _)] at hb2
      rw [List.take_length, pad_full (by simp)] at hb3
      have hD := hb1.diffs (fun d hd => (HDO.out d hd).1) (by rw [HDS.out]; unfold maxLen; omega)
      rw [HDS.out] at hD
      have hI := hb2.ints (fun x hx => by obtain ⟨q, hq, rfl⟩ := List.mem_map.1 hx; have := List.mem_range.1 hq; constructor <;> omega) (by rw [idx_len]; unfold maxLen; omega)
      rw [idx_len] at hI
      have HD1 := Lib.hid hD
      have HI1 := Lib.hid hI
      have HB3 := Lib.hid hb3
      clear hb1 hb2 hb3 hD hI hdok q0 q1 q2 q3
      go_wp2_with fail
      refine (fcycle_any _ _ ds _ HD1.out (by rw [HDS.out]; exact HI1.out) (fun d hd => (HDO.out d hd).2) (by rw [HDS.out]; exact hn)).mono ?_
      rintro e w2 ⟨rfl, hb2⟩
      have H2 := Lib.hid (H1.out.bl.trans (hb2.mono H1.out.bl.size))
      have HN2 := Lib.hid (HB3.out.keep hb2)
      clear hb2
      cases hcy : cycB ds with
      | false =>
        have HC : Hid (cyc atoms lits = none) := by
          refine Lib.hid ?_
          unfold cyc; rw [HBS.out]; simp [hcy]
        clear hcy
        simp only
        go_wp2_with fail
        go_ret2
        exact ClRet.no HC.out H2.out
      | true =>
        have HC : Hid (cyc atoms lits = norm (lits.map (fun x => -x))) := by
          refine Lib.hid ?_
          unfold cyc; rw [HBS.out]; simp [hcy]
        clear hcy
        have hI2 : Ints w2 (.slice (some ⟨w.heap.size + 1 + 1 + 1, 0, none⟩) lits.length lits.length) (lits.map (fun x => -x)) := by
          have h := HN2.out.ints (fun y hy => ?_) (by simp; unfold maxLen; omega)
          · simpa using h
          · obtain ⟨x, hx, rfl⟩ := List.mem_map.1 hy
            have h1 := HX.out x hx
            have h2 : some (bound atoms x) ∈ (lits.map (bound atoms)).map some := List.mem_map.2 ⟨_, List.mem_map.2 ⟨x, hx, rfl⟩, rfl⟩
            rw [bnds_some.1 HBS.out] at h2
            obtain ⟨y, hy, e⟩ := List.mem_map.1 h2
            injection e with e
            obtain ⟨d, _, rfl⟩ := List.mem_map.1 hy
            rcases bound_lit e.symm with h | h
            · obtain ⟨h3, h4⟩ := h1; constructor <;> omega
            · have := HAT.out; omega
        have HI2 := Lib.hid hI2
        clear hI2
        simp only
        go_wp2_with fail
        refine (fnormal_any _ (lits.map (fun x => -x)) _ HI2.out (by simp; omega)).mono ?_
        intro e w3 hnr
        have hcl := NormRet.cl (w := w) hnr HC.out H2.out
        clear hnr
        obtain ⟨v, rfl, h5, h6⟩ := hcl
        have H5 := Lib.hid h5
        have H6 := Lib.hid h6
        clear h5 h6
        go_wp2_with fail
        go_ret2
        exact ⟨v, rfl, H5.out, H6.out⟩

end Go.Proofs.YtfffalfnjficaaaDoor
