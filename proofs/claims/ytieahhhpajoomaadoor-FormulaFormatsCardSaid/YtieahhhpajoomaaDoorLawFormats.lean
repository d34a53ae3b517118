/-
  WALK: interleavelaw31.FormulaFormats.
-/
import Derived.Test.YtieahhhpajoomaaDoorAwake31
import Derived.Test.YtieahhhpajoomaaDoorFormatRef
import Derived.Deep.RegionHeld3
namespace Go.Proofs.YtieahhhpajoomaaDoor
open Go.RowKit

set_option maxRecDepth 100000 in
set_option maxHeartbeats 1000000 in
theorem lawFormats (v : Value) (f : Form) (w : World) (hf : IsForm w v f) (ha : f.atoms.length ≤ 140737488355328) (hc : f.clauses.length ≤ 140737488355328) (hcl : ∀ xs ∈ f.clauses, xs.length ≤ 140737488355328) (hT : Tab w) :
    Calls Tryd.prog 6 #[v] w fun e w' => e = .returned (.bool true) ∧ Below w.heap.size w w' := by
  have HT := Lib.hid hT
  have HF := Lib.hid hf
  have HA := Lib.hid ha
  have HC := Lib.hid hc
  have HCL := Lib.hid hcl
  obtain ⟨av, cv, rfl, -, -, -, -⟩ := hf
  clear hT ha hc hcl
  go_enter Tryd.func6, Tryd.ntmps6
  go_wp2_with fail
  have B0 := Blk.new w 31 #[.int .i64 f.ints, .int .i64 f.bools, av, cv]
  generalize hW : w.alloc (.cells #[.int .i64 f.ints, .int .i64 f.bools, av, cv] 31) = W at B0 ⊢
  have hbW : Below w.heap.size w W := by rw [← hW]; go_grown
  have hsz : W.heap.size = w.heap.size + 1 := by rw [← hW]; simp
  have HS := Lib.hid hsz
  have HB0 := Lib.hid B0
  have HBW := Lib.hid hbW
  clear hW hsz B0 hbW
  refine (large_any _ f _ (HF.out.keep HBW.out) HA.out HC.out HCL.out).mono ?_
  rintro e w1 ⟨rfl, hb1⟩
  have HB1 := Lib.hid (HBW.out.trans (hb1.mono HBW.out.size))
  have B1 := HB0.out.keep hb1
  have hz : w.heap.size < w1.heap.size := B1.lt
  have q0 := B1.cell 0
  have q1 := B1.cell 1
  have q2 := B1.cell 2
  have q3 := B1.cell 3
  simp only [List.getElem?_toArray, List.getElem?_cons_zero, List.getElem?_cons_succ] at q0 q1 q2 q3
  clear hb1 B1
  cases hlg : largeF f
  · have HSM := Lib.hid (largeF_small hlg)
    clear hlg
    have HSOF : Hid (∀ w', Below w1.heap.size w1 w' → w'.cell? ⟨w.heap.size, 0, none⟩ = some (.int .i64 f.ints) ∧ w'.cell? ⟨w.heap.size, 1, none⟩ = some (.int .i64 f.bools) ∧ w'.cell? ⟨w.heap.size, 2, none⟩ = some av ∧ w'.cell? ⟨w.heap.size, 3, none⟩ = some cv ∧ Below w1.heap.size w1 w') :=
      fun w' h => ⟨(h.cell (p := ⟨w.heap.size, 0, none⟩) hz).trans q0, (h.cell (p := ⟨w.heap.size, 1, none⟩) hz).trans q1, (h.cell (p := ⟨w.heap.size, 2, none⟩) hz).trans q2, (h.cell (p := ⟨w.heap.size, 3, none⟩) hz).trans q3, h⟩
    go_wp2_with fail
    go_region_held3 (fun w' => w'.cell? ⟨w.heap.size, 0, none⟩ = some (.int .i64 f.ints) ∧ w'.cell? ⟨w.heap.size, 1, none⟩ = some (.int .i64 f.bools) ∧ w'.cell? ⟨w.heap.size, 2, none⟩ = some av ∧ w'.cell? ⟨w.heap.size, 3, none⟩ = some cv ∧ Below w1.heap.size w1 w') (first | assumption | exact HSOF.out _ (Below.refl _ _).drew) (first
      | (go_at_call 22; refine (fformat_any _ f _ (HF.out.keep HB1.out.drew) (HT.out.keep HB1.out.drew HT.out.lt) (Nat.le_trans HSM.out (by omega))).mono ?_; rintro e w2 ⟨rfl, hb2⟩; have hs2 := HSOF.out w2 (Below.trans (Below.refl _ _).drew hb2))
      | (go_at_call 23; refine (rformat_any _ f _ (HF.out.keep (HB1.out.trans (hs2.2.2.2.2.mono HB1.out.size))) (HT.out.keep (HB1.out.trans (hs2.2.2.2.2.mono HB1.out.size)) HT.out.lt) (Nat.le_trans HSM.out (by omega))).mono ?_; rintro e w3 ⟨rfl, hb3⟩; have hs3 := HSOF.out w3 (hs2.2.2.2.2.trans (hb3.mono hs2.2.2.2.2.size)))
      | (go_at_call 14; refine (awake31 _ (HT.out.keep (HB1.out.trans (hs3.2.2.2.2.mono HB1.out.size)) HT.out.lt)).mono ?_; rintro e w4 ⟨rfl, hb4⟩; have hs4 := HSOF.out w4 (hs3.2.2.2.2.trans (hb4.mono hs3.2.2.2.2.size))))
    have HB4 := Lib.hid hs4.2.2.2.2
    clear hs2 hs3 hs4 hb2 hb3 hb4
    go_wp2_with fail
    go_ret
    exact ⟨rfl, HB1.out.trans (HB4.out.mono HB1.out.size)⟩
  · clear hlg
    go_wp2_with fail
    refine (awake31 _ (HT.out.keep HB1.out HT.out.lt)).mono ?_
    rintro e w4 ⟨rfl, hb4⟩
    have HB4 := Lib.hid hb4
    clear hb4
    go_wp2_with fail
    go_ret
    exact ⟨rfl, HB1.out.trans (HB4.out.mono HB1.out.size)⟩
end Go.Proofs.YtieahhhpajoomaaDoor
