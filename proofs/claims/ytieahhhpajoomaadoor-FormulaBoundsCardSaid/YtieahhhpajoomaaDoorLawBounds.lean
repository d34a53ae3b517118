/-
  WALK: interleavelaw31.FormulaBounds.
-/
import Derived.Test.YtieahhhpajoomaaDoorAwake31
import Derived.Test.YtieahhhpajoomaaDoorValid
import Derived.Test.YtieahhhpajoomaaDoorValidRef
import Derived.Deep.RegionHeld3
namespace Go.Proofs.YtieahhhpajoomaaDoor
open Go.RowKit

theorem fbound_val (i j av cv : Value) (ds : List Diff) (w : World) (lit : Int) (d : Diff) (b : Bool) (hd : boundVal (bound ds lit) = .tuple #[.agg #[.int .i64 d.x, .int .i64 d.y, .int .i64 d.c], .bool b]) (hb : Diffs w av ds) (hC : ∀ d ∈ ds, -9223372036854775807 ≤ d.c) (hl : I64 lit) :
    Calls Tryd.prog 20 #[.agg #[i, j, av, cv], .int .i64 lit] w fun e w' => e = .returned (.tuple #[.agg #[.int .i64 d.x, .int .i64 d.y, .int .i64 d.c], .bool b]) ∧ Below w.heap.size w w' := by
  have h := fbound_any i j av cv ds w lit hb hC hl
  rw [hd] at h
  exact h
theorem rbound_val (i j av cv : Value) (ds : List Diff) (w : World) (lit : Int) (d : Diff) (b : Bool) (hd : boundVal (bound ds lit) = .tuple #[.agg #[.int .i64 d.x, .int .i64 d.y, .int .i64 d.c], .bool b]) (hb : Diffs w av ds) (hC : ∀ d ∈ ds, -9223372036854775807 ≤ d.c) (hl : I64 lit) :
    Calls Tryd.prog 21 #[.agg #[i, j, av, cv], .int .i64 lit] w fun e w' => e = .returned (.tuple #[.agg #[.int .i64 d.x, .int .i64 d.y, .int .i64 d.c], .bool b]) ∧ Below w.heap.size w w' := by
  have h := rbound_any i j av cv ds w lit hb hC hl
  rw [hd] at h
  exact h
theorem boundVal_form (ds : List Diff) (lit : Int) : ∃ (d : Diff) (b : Bool), boundVal (bound ds lit) = .tuple #[.agg #[.int .i64 d.x, .int .i64 d.y, .int .i64 d.c], .bool b] := by
  cases bound ds lit with
  | none => exact ⟨⟨0, 0, 0⟩, false, rfl⟩
  | some d => exact ⟨d, true, rfl⟩

theorem validF_atoms {f : Form} (h : validF f = 0) : (∀ d ∈ f.atoms, -1048576 ≤ d.c ∧ d.c ≤ 1048576) ∧ (f.atoms.length : Int) ≤ 1024 := by
  unfold validF at h
  split at h
  · cases h
  · split at h
    · cases h
    · rename_i h1 h2
      refine ⟨fun d hd => ?_, by omega⟩
      have hb : bodyOk f = true := by
        cases hh : bodyOk f with
        | true => rfl
        | false => rw [hh] at h; cases h
      unfold bodyOk at hb
      rw [Bool.and_eq_true] at hb
      have := List.all_eq_true.1 hb.1 d hd
      obtain ⟨x, y, z⟩ := d
      have := (okAtom_iff (ints := f.ints)).1 this
      exact ⟨this.2.2.2.2.2.1, this.2.2.2.2.2.2⟩

set_option maxRecDepth 100000 in
set_option maxHeartbeats 2000000 in
theorem lawBounds (v : Value) (f : Form) (lit : Int) (w : World) (hf : IsForm w v f) (hli : I64 lit) (ha : f.atoms.length ≤ 140737488355328) (hc : f.clauses.length ≤ 140737488355328) (hcl : ∀ xs ∈ f.clauses, xs.length ≤ 140737488355328) (hT : Tab w) :
    Calls Tryd.prog 4 #[v, .int .i64 lit] w fun e w' => e = .returned (.bool true) ∧ Below w.heap.size w w' := by
  have HT := Lib.hid hT
  have HF := Lib.hid hf
  have HA := Lib.hid ha
  have HC := Lib.hid hc
  have HCL := Lib.hid hcl
  have HLI := Lib.hid hli
  obtain ⟨av, cv, rfl, -, -, hda, -⟩ := hf
  have HDA := Lib.hid hda
  obtain ⟨A, c, rfl, ha1, ha2, -, -⟩ := hda
  clear hT ha hc hcl hli ha2
  go_enter Tryd.func4, Tryd.ntmps4
  go_wp2_with fail
  have B0 := Blk.new w 31 #[.int .i64 f.ints, .int .i64 f.bools, .slice A f.atoms.length c, cv]
  generalize hW : w.alloc (.cells #[.int .i64 f.ints, .int .i64 f.bools, .slice A f.atoms.length c, cv] 31) = W at B0 ⊢
  have hbW : Below w.heap.size w W := by rw [← hW]; go_grown
  have HB0 := Lib.hid B0
  have HBW := Lib.hid hbW
  clear hW B0 hbW
  refine (large_any _ f _ (HF.out.keep HBW.out) HA.out HC.out HCL.out).mono ?_
  rintro e w1 ⟨rfl, hb1⟩
  have HB1 := Lib.hid (HBW.out.trans (hb1.mono HBW.out.size))
  have HB2 := Lib.hid (HB0.out.keep hb1)
  have hz : w.heap.size < w1.heap.size := HB2.out.lt
  have q0 := HB2.out.cell 0
  have q1 := HB2.out.cell 1
  have q2 := HB2.out.cell 2
  have q3 := HB2.out.cell 3
  simp only [List.getElem?_toArray, List.getElem?_cons_zero, List.getElem?_cons_succ] at q0 q1 q2 q3
  clear hb1
  cases hlg : largeF f
  · clear hlg
    go_wp2_with fail
    refine (rvalid_any f _ _ (HF.out.keep HB1.out)).mono ?_
    rintro e w2 ⟨rfl, hb2⟩
    have HBZ := Lib.hid (HB1.out.trans (hb2.mono HB1.out.size))
    have HB3 := Lib.hid (HB2.out.keep hb2)
    have hz2 : w.heap.size < w2.heap.size := HB3.out.lt
    clear hb2 q0 q1 q2 q3
    by_cases hv0 : validF f = 0
    · have hvb : (validF f != 0) = false := by simp [hv0]
      obtain ⟨hat, hal⟩ := validF_atoms hv0
      have HAT : Hid (∀ d ∈ f.atoms, -9223372036854775807 ≤ d.c) := fun d hd => by have := hat d hd; omega
      have q0 := HB3.out.cell 0
      have q1 := HB3.out.cell 1
      have q2 := HB3.out.cell 2
      have q3 := HB3.out.cell 3
      simp only [List.getElem?_toArray, List.getElem?_cons_zero, List.getElem?_cons_succ] at q0 q1 q2 q3
      rw [hv0]
      clear hv0 hat hvb
      go_wp2_with fail
      clear q0 q1 q2 q3
      go_loopw [5] (fun i wr => ∃ k : Nat, k ≤ 2 * f.atoms.length + 3 ∧ i = .int .i64 ((k : Int) - f.atoms.length - 1) ∧ Below w2.heap.size w2 wr) (fun i _ => (2 * (f.atoms.length : Int) + 3 - (intOf i + f.atoms.length + 1)).toNat)
      case atStart => exact ⟨0, by omega, by go_num, Below.refl _ _⟩
      case round =>
        obtain ⟨k, hk, rfl, hbw⟩ := hrel
        have HBR := Lib.hid hbw
        have HB4 := Lib.hid (HB3.out.keep hbw)
        have q0 := HB4.out.cell 0
        have q1 := HB4.out.cell 1
        have q2 := HB4.out.cell 2
        have q3 := HB4.out.cell 3
        simp only [List.getElem?_toArray, List.getElem?_cons_zero, List.getElem?_cons_succ] at q0 q1 q2 q3
        have hz4 := HB4.out.lt
        have HBB := Lib.hid (HBZ.out.trans (hbw.mono HBZ.out.size) : Below w.heap.size w wr)
        clear hbw
        by_cases hlt : k < 2 * f.atoms.length + 3
        · obtain ⟨⟨dx, dy, dc⟩, b, hbv⟩ := boundVal_form f.atoms ((k : Int) - f.atoms.length - 1)
          have HBV := Lib.hid hbv
          clear hbv
          go_wp2_with fail
          refine (fbound_val _ _ _ _ f.atoms _ _ ⟨dx, dy, dc⟩ b HBV.out (HDA.out.keep HBB.out) HAT.out ⟨by omega, by omega⟩).mono ?_
          rintro e w5 ⟨rfl, hb5⟩
          have HB5 := Lib.hid (HB4.out.keep hb5)
          have r0 := HB5.out.cell 0
          have r1 := HB5.out.cell 1
          have r2 := HB5.out.cell 2
          have r3 := HB5.out.cell 3
          simp only [List.getElem?_toArray, List.getElem?_cons_zero, List.getElem?_cons_succ] at r0 r1 r2 r3
          have hz5 := HB5.out.lt
          have HBR5 := Lib.hid (HBR.out.trans (hb5.mono HBR.out.size))
          have HBB5 := Lib.hid (HBB.out.trans (hb5.mono HBB.out.size))
          clear hb5
          simp only
          go_wp2_with fail
          refine (rbound_val _ _ _ _ f.atoms _ _ ⟨dx, dy, dc⟩ b HBV.out (HDA.out.keep (HBB5.out.alloc HBB5.out.size _)) HAT.out ⟨by omega, by omega⟩).mono ?_
          rintro e w6 ⟨rfl, hb6⟩
          have BX := (Blk.new w5 36 #[.int .i64 dx, .int .i64 dy, .int .i64 dc]).keep hb6
          have s0 := BX.cell 0
          have s1 := BX.cell 1
          have s2 := BX.cell 2
          simp only [List.getElem?_toArray, List.getElem?_cons_zero, List.getElem?_cons_succ] at s0 s1 s2
          have hz6 := BX.lt
          have HBR6 := Lib.hid ((HBR5.out.alloc HBR5.out.size _).trans (hb6.mono (by have := HBR5.out.size; simp; omega)))
          clear hb6 BX
          simp only
          go_wp2_with fail
          refine ⟨⟨k + 1, by omega, by go_num, HBR6.out.alloc HBR6.out.size _⟩, by simp [intOf]; omega⟩
        · obtain ⟨⟨dx, dy, dc⟩, b, hbv⟩ := boundVal_form f.atoms lit
          have HBV := Lib.hid hbv
          clear hbv
          go_wp2_with fail
          refine (fbound_val _ _ _ _ f.atoms _ _ ⟨dx, dy, dc⟩ b HBV.out (HDA.out.keep HBB.out) HAT.out HLI.out).mono ?_
          rintro e w5 ⟨rfl, hb5⟩
          have HB5 := Lib.hid (HB4.out.keep hb5)
          have r0 := HB5.out.cell 0
          have r1 := HB5.out.cell 1
          have r2 := HB5.out.cell 2
          have r3 := HB5.out.cell 3
          simp only [List.getElem?_toArray, List.getElem?_cons_zero, List.getElem?_cons_succ] at r0 r1 r2 r3
          have hz5 := HB5.out.lt
          have HBB5 := Lib.hid (HBB.out.trans (hb5.mono HBB.out.size))
          clear hb5
          simp only
          go_wp2_with fail
          refine (rbound_val _ _ _ _ f.atoms _ _ ⟨dx, dy, dc⟩ b HBV.out (HDA.out.keep (HBB5.out.alloc HBB5.out.size _)) HAT.out HLI.out).mono ?_
          rintro e w6 ⟨rfl, hb6⟩
          have BX := (Blk.new w5 36 #[.int .i64 dx, .int .i64 dy, .int .i64 dc]).keep hb6
          have s0 := BX.cell 0
          have s1 := BX.cell 1
          have s2 := BX.cell 2
          simp only [List.getElem?_toArray, List.getElem?_cons_zero, List.getElem?_cons_succ] at s0 s1 s2
          have hz6 := BX.lt
          have HBB6 := Lib.hid ((HBB5.out.alloc HBB5.out.size _).trans (hb6.mono (by have := HBB5.out.size; simp; omega)))
          clear hb6 BX
          simp only
          go_wp2_with fail
          refine (awake31 _ (HT.out.keep (HBB6.out.alloc HBB6.out.size _) HT.out.lt)).mono ?_
          rintro e w7 ⟨rfl, hb7⟩
          have HB7 := Lib.hid hb7
          clear hb7
          go_wp2_with fail
          go_ret
          exact ⟨rfl, (HBB6.out.alloc HBB6.out.size _).trans (HB7.out.mono (by have := HBB6.out.size; simp; omega))⟩
    · have hvb : (validF f != 0) = true := by simp [hv0]
      clear hv0
      go_wp2_with fail
      refine (awake31 _ (HT.out.keep HBZ.out HT.out.lt)).mono ?_
      rintro e w4 ⟨rfl, hb4⟩
      have HB4 := Lib.hid hb4
      clear hb4
      go_wp2_with fail
      go_ret
      exact ⟨rfl, HBZ.out.trans (HB4.out.mono HBZ.out.size)⟩

  · clear hlg
    have HBZ := HB1
    go_wp2_with fail
    refine (awake31 _ (HT.out.keep HBZ.out HT.out.lt)).mono ?_
    rintro e w4 ⟨rfl, hb4⟩
    have HB4 := Lib.hid hb4
    clear hb4
    go_wp2_with fail
    go_ret
    exact ⟨rfl, HBZ.out.trans (HB4.out.mono HBZ.out.size)⟩

end Go.Proofs.YtieahhhpajoomaaDoor
