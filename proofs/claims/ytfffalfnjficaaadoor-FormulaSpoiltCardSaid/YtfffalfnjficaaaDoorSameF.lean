/-
  WALK: interleaveref31.SameFormula of a formula and itself.
-/
import Derived.Test.YtfffalfnjficaaaDoorSame
import Derived.Test.YtfffalfnjficaaaDoorForm
import Derived.Test.YtfffalfnjficaaaDoorMake
namespace Go.Proofs.YtfffalfnjficaaaDoor
open Go.RowKit

set_option maxRecDepth 100000 in
set_option maxHeartbeats 4000000 in
theorem samef_any (a b : Value) (f : Form) (w : World) (ha : IsForm w a f) (hb : IsForm w b f) :
    Calls Tryd.prog 10 #[a, b] w fun e w' => e = .returned (.bool true) ∧ Below w.heap.size w w' := by
  obtain ⟨av, cv, rfl, hI, hB, hD, hM⟩ := ha
  obtain ⟨av2, cv2, rfl, -, -, hD2, hM2⟩ := hb
  obtain ⟨A, c, rfl, a1, a2, a3, hr⟩ := hD
  obtain ⟨A2, c2, rfl, a4, a5, -, hr2⟩ := hD2
  obtain ⟨C, cc, vs, rfl, m1, m2, m3, hcr, hci⟩ := hM
  obtain ⟨C2, cc2, vs2, rfl, m4, m5, m6, hcr2, hci2⟩ := hM2
  unfold maxLen at a2 a5 m2 m5
  have HF1 := Lib.hid (Blk.new w 26 #[.int .i64 f.ints, .int .i64 f.bools, .slice A f.atoms.length c, .slice C f.clauses.length cc])
  have HF1' := Lib.hid (HF1.out.alloc (.cells #[.int .i64 f.ints, .int .i64 f.bools, .slice A2 f.atoms.length c2, .slice C2 f.clauses.length cc2] 26))
  have hF2 := Blk.new (w.alloc (.cells #[.int .i64 f.ints, .int .i64 f.bools, .slice A f.atoms.length c, .slice C f.clauses.length cc] 26)) 26 #[.int .i64 f.ints, .int .i64 f.bools, .slice A2 f.atoms.length c2, .slice C2 f.clauses.length cc2]
  rw [show ∀ (a : World) (o : Obj), (a.alloc o).heap.size = a.heap.size + 1 from fun a o => by simp] at hF2
  have hb2 : Below w.heap.size w ((w.alloc (.cells #[.int .i64 f.ints, .int .i64 f.bools, .slice A f.atoms.length c, .slice C f.clauses.length cc] 26)).alloc (.cells #[.int .i64 f.ints, .int .i64 f.bools, .slice A2 f.atoms.length c2, .slice C2 f.clauses.length cc2] 26)) := by go_grown
  have HF2 := Lib.hid hF2
  have HBB := Lib.hid hb2
  have HR1 := Lib.hid hr
  have HR2 := Lib.hid hr2
  have HC1 := Lib.hid hcr
  have HC2 := Lib.hid hcr2
  have HX1 := Lib.hid hci
  have HX2 := Lib.hid hci2
  clear hr hr2 hcr hcr2 hci hci2 hF2 hb2 HF1
  go_enter Tryd.func10, Tryd.ntmps10
  go_wp2_with fail
  generalize (w.alloc (.cells #[.int .i64 f.ints, .int .i64 f.bools, .slice A f.atoms.length c, .slice C f.clauses.length cc] 26)).alloc (.cells #[.int .i64 f.ints, .int .i64 f.bools, .slice A2 f.atoms.length c2, .slice C2 f.clauses.length cc2] 26) = W at *
  have p2 := HF1'.out.cell 2
  have p3 := HF1'.out.cell 3
  have q2 := HF2.out.cell 2
  have q3 := HF2.out.cell 3
  simp only [List.getElem?_toArray, List.getElem?_cons_zero, List.getElem?_cons_succ] at p2 p3 q2 q3
  go_loopw [40] (fun i wr => ∃ k n, k ≤ f.atoms.length ∧ i = .int .i64 (k : Nat) ∧ wr = W.drewN n) (fun i _ => f.atoms.length - (intOf i).toNat)
  case atStart => exact ⟨0, 0, by omega, rfl, rfl⟩
  case round =>
    obtain ⟨k, n, hk, rfl, rfl⟩ := hrel
    by_cases hlt : k < f.atoms.length
    · obtain ⟨d, hdk⟩ : ∃ d, f.atoms[k]? = some d := ⟨_, List.getElem?_eq_getElem hlt⟩
      obtain ⟨b1, o1, rfl, l1, x1, y1, z1⟩ := (HR1.out.keep HBB.out).diff hdk
      obtain ⟨b2, o2, rfl, l2, x2, y2, z2⟩ := (HR2.out.keep HBB.out).diff hdk
      go_wp2_with fail
      go_quiet (fail)
      go_wp2_with fail
      go_roundw
      case rel => exact ⟨k + 1, _, by omega, by go_num, rfl⟩
      case measure => simp [intOf]; omega
    · go_wp2_with fail
      go_loopw [58] (fun i wr => ∃ j w1, j ≤ f.clauses.length ∧ i = .int .i64 (j : Nat) ∧ wr = w1 ∧ Below W.heap.size W w1) (fun i _ => f.clauses.length - (intOf i).toNat)
      case atStart => exact ⟨0, _, by omega, rfl, rfl, bdrew (Below.refl _ _) _⟩
      case round =>
        obtain ⟨j, w1, hj, rfl, rfl, hb1⟩ := hrel
        have HB1 := Lib.hid hb1
        have HBW := Lib.hid (HBB.out.trans (hb1.mono HBB.out.size))
        have g2 := ((HF1'.out.keep hb1).cell 2)
        have g3 := ((HF1'.out.keep hb1).cell 3)
        have k2 := ((HF2.out.keep hb1).cell 2)
        have k3 := ((HF2.out.keep hb1).cell 3)
        simp only [List.getElem?_toArray, List.getElem?_cons_zero, List.getElem?_cons_succ] at g2 g3 k2 k3
        clear hb1 p2 p3 q2 q3
        by_cases hjl : j < f.clauses.length
        · obtain ⟨xs, hxs⟩ : ∃ xs, f.clauses[j]? = some xs := ⟨_, List.getElem?_eq_getElem hjl⟩
          obtain ⟨b1, o1, A', c', rfl, l1, x1, i1⟩ := Mat.at_ (HC1.out.keep HBW.out) m3 (fun k u xs h1 h2 => (HX1.out k u xs h1 h2).keep HBW.out) hxs
          obtain ⟨b2, o2, A'', c'', rfl, l2, x2, i2⟩ := Mat.at_ (HC2.out.keep HBW.out) m6 (fun k u xs h1 h2 => (HX2.out k u xs h1 h2).keep HBW.out) hxs
          have HI := Lib.hid i1
          have HI' := Lib.hid i2
          have HT : Hid (decide (xs = xs) = true) := by refine Lib.hid ?_; simp
          have HS : Hid (∀ n, Calls Tryd.prog 22 #[.slice A' xs.length c', .slice A'' xs.length c''] (wr.drewN n) fun e w' => e = .returned (.bool true) ∧ ∃ m, w' = (wr.drewN n).drewN m) := fun n => by
            have h := same_any (.slice A' xs.length c') (.slice A'' xs.length c'') xs xs (wr.drewN n) (HI.out.keep (bdrew (Below.refl _ _) n)) (HI'.out.keep (bdrew (Below.refl _ _) n))
            rwa [HT.out] at h
          clear hxs i1 i2
          go_wp2_with fail
          go_quiet ((go_at_call 22; exact Calls.quiet_of (HS.out _)))
          go_wp2_with fail
          go_roundw
          case rel => exact ⟨j + 1, _, by omega, by go_num, rfl, bdrew HB1.out _⟩
          case measure => simp [intOf]; omega
        · go_wp2_with fail
          go_ret
          exact ⟨rfl, HBW.out⟩
end Go.Proofs.YtfffalfnjficaaaDoor
