/-
  WALK: interleavelaw31.awake: the examples of chapter 31.
-/
import Derived.Test.YtfffalfnjficaaaDoorFormat
import Derived.Test.YtfffalfnjficaaaDoorNormal
import Derived.Test.YtfffalfnjficaaaDoorSame
import Derived.Test.YtfffalfnjficaaaDoorLit
namespace Go.Proofs.YtfffalfnjficaaaDoor
open Go.RowKit

def awForm : Form := ⟨2, 2, [⟨0, 1, -1⟩], [[1, -2]]⟩
def awText : List UInt8 := [102, 111, 114, 109, 117, 108, 97, 32, 50, 32, 50, 10, 97, 116, 111, 109, 32, 48, 32, 49, 32, 45, 49, 10, 99, 108, 97, 117, 115, 101, 32, 49, 32, 45, 50, 10]

theorem itoa_d (n : Nat) (h : n < 10) : Lib.itoa (n : Int) = [UInt8.ofNat (48 + n)] := by
  unfold Lib.itoa
  rw [if_neg (by omega), show (n : Int).toNat = n by omega, Lib.decDigits_one h]
theorem itoa_n (n : Nat) (h : n < 10) (h0 : 0 < n) : Lib.itoa (-(n : Int)) = [45, UInt8.ofNat (48 + n)] := by
  unfold Lib.itoa
  rw [if_pos (by omega), show (-(n : Int)).natAbs = n by omega, Lib.decDigits_one h]

theorem awForm_text : formText awForm = awText := by
  have h0 : Lib.itoa 0 = [48] := itoa_d 0 (by omega)
  have h1 : Lib.itoa 1 = [49] := itoa_d 1 (by omega)
  have h2 : Lib.itoa 2 = [50] := itoa_d 2 (by omega)
  have h3 : Lib.itoa (-1) = [45, 49] := itoa_n 1 (by omega) (by omega)
  have h4 : Lib.itoa (-2) = [45, 50] := itoa_n 2 (by omega) (by omega)
  simp [formText, awForm, headText, atomText, lineText, numsText, wFormula, wAtom, wClause, awText, h0, h1, h2, h3, h4]

theorem awNorm : norm [3, -1, 3] = some [-1, 3] := by decide

set_option maxRecDepth 100000 in
set_option maxHeartbeats 1000000 in
theorem awake31 (w : World) (hT : Tab w) : Calls Tryd.prog 7 #[] w fun e w' => e = .returned (.bool true) ∧ Below w.heap.size w w' := by
  have HT := Lib.hid hT
  clear hT
  go_enter Tryd.func7, Tryd.ntmps7
  go_wp2_with fail
  have B0 : Blk ((((w.alloc (.cells #[.int .i64 0, .int .i64 1, .int .i64 (-1)] 48)).alloc (.cells #[.int .i64 1, .int .i64 (-2)] 3)).alloc (.cells #[.slice (some ⟨w.heap.size + 1, 0, none⟩) 2 2] 49)).alloc (.cells #[.int .i64 2, .int .i64 2, .slice (some ⟨w.heap.size, 0, none⟩) 1 1, .slice (some ⟨w.heap.size + 1 + 1, 0, none⟩) 1 1] 26)) w.heap.size 48 #[.int .i64 0, .int .i64 1, .int .i64 (-1)] := (((Blk.new w _ _).alloc _).alloc _).alloc _
  have B1 : Blk ((((w.alloc (.cells #[.int .i64 0, .int .i64 1, .int .i64 (-1)] 48)).alloc (.cells #[.int .i64 1, .int .i64 (-2)] 3)).alloc (.cells #[.slice (some ⟨w.heap.size + 1, 0, none⟩) 2 2] 49)).alloc (.cells #[.int .i64 2, .int .i64 2, .slice (some ⟨w.heap.size, 0, none⟩) 1 1, .slice (some ⟨w.heap.size + 1 + 1, 0, none⟩) 1 1] 26)) (w.heap.size + 1) 3 #[.int .i64 1, .int .i64 (-2)] := by
    have h := Blk.new (w.alloc (.cells #[.int .i64 0, .int .i64 1, .int .i64 (-1)] 48)) 3 #[.int .i64 1, .int .i64 (-2)]
    rw [World.size_alloc] at h
    exact (h.alloc _).alloc _
  have B2 : Blk ((((w.alloc (.cells #[.int .i64 0, .int .i64 1, .int .i64 (-1)] 48)).alloc (.cells #[.int .i64 1, .int .i64 (-2)] 3)).alloc (.cells #[.slice (some ⟨w.heap.size + 1, 0, none⟩) 2 2] 49)).alloc (.cells #[.int .i64 2, .int .i64 2, .slice (some ⟨w.heap.size, 0, none⟩) 1 1, .slice (some ⟨w.heap.size + 1 + 1, 0, none⟩) 1 1] 26)) (w.heap.size + 1 + 1) 49 #[.slice (some ⟨w.heap.size + 1, 0, none⟩) 2 2] := by
    have h := Blk.new ((w.alloc (.cells #[.int .i64 0, .int .i64 1, .int .i64 (-1)] 48)).alloc (.cells #[.int .i64 1, .int .i64 (-2)] 3)) 49 #[.slice (some ⟨w.heap.size + 1, 0, none⟩) 2 2]
    rw [World.size_alloc, World.size_alloc] at h
    exact h.alloc _
  have B3 : Blk ((((w.alloc (.cells #[.int .i64 0, .int .i64 1, .int .i64 (-1)] 48)).alloc (.cells #[.int .i64 1, .int .i64 (-2)] 3)).alloc (.cells #[.slice (some ⟨w.heap.size + 1, 0, none⟩) 2 2] 49)).alloc (.cells #[.int .i64 2, .int .i64 2, .slice (some ⟨w.heap.size, 0, none⟩) 1 1, .slice (some ⟨w.heap.size + 1 + 1, 0, none⟩) 1 1] 26)) (w.heap.size + 1 + 1 + 1) 26 #[.int .i64 2, .int .i64 2, .slice (some ⟨w.heap.size, 0, none⟩) 1 1, .slice (some ⟨w.heap.size + 1 + 1, 0, none⟩) 1 1] := by
    have h := Blk.new (((w.alloc (.cells #[.int .i64 0, .int .i64 1, .int .i64 (-1)] 48)).alloc (.cells #[.int .i64 1, .int .i64 (-2)] 3)).alloc (.cells #[.slice (some ⟨w.heap.size + 1, 0, none⟩) 2 2] 49)) 26 #[.int .i64 2, .int .i64 2, .slice (some ⟨w.heap.size, 0, none⟩) 1 1, .slice (some ⟨w.heap.size + 1 + 1, 0, none⟩) 1 1]
    rw [World.size_alloc, World.size_alloc, World.size_alloc] at h
    exact h
  have hbW : Below w.heap.size w ((((w.alloc (.cells #[.int .i64 0, .int .i64 1, .int .i64 (-1)] 48)).alloc (.cells #[.int .i64 1, .int .i64 (-2)] 3)).alloc (.cells #[.slice (some ⟨w.heap.size + 1, 0, none⟩) 2 2] 49)).alloc (.cells #[.int .i64 2, .int .i64 2, .slice (some ⟨w.heap.size, 0, none⟩) 1 1, .slice (some ⟨w.heap.size + 1 + 1, 0, none⟩) 1 1] 26)) := by go_grown
  have hszW : ((((w.alloc (.cells #[.int .i64 0, .int .i64 1, .int .i64 (-1)] 48)).alloc (.cells #[.int .i64 1, .int .i64 (-2)] 3)).alloc (.cells #[.slice (some ⟨w.heap.size + 1, 0, none⟩) 2 2] 49)).alloc (.cells #[.int .i64 2, .int .i64 2, .slice (some ⟨w.heap.size, 0, none⟩) 1 1, .slice (some ⟨w.heap.size + 1 + 1, 0, none⟩) 1 1] 26)).heap.size = w.heap.size + 4 := by simp
  generalize ((((w.alloc (.cells #[.int .i64 0, .int .i64 1, .int .i64 (-1)] 48)).alloc (.cells #[.int .i64 1, .int .i64 (-2)] 3)).alloc (.cells #[.slice (some ⟨w.heap.size + 1, 0, none⟩) 2 2] 49)).alloc (.cells #[.int .i64 2, .int .i64 2, .slice (some ⟨w.heap.size, 0, none⟩) 1 1, .slice (some ⟨w.heap.size + 1 + 1, 0, none⟩) 1 1] 26)) = W at *
  have hF : IsForm W (.agg #[.int .i64 2, .int .i64 2, .slice (some ⟨w.heap.size, 0, none⟩) 1 1, .slice (some ⟨w.heap.size + 1 + 1, 0, none⟩) 1 1]) awForm := by
    refine ⟨_, _, rfl, by simp [awForm, I64], by simp [awForm, I64], ?_, ?_⟩
    · exact diffs_lit (ds := [⟨0, 1, -1⟩]) B0 (by simp [Diff.ok, I64]) (by simp [maxLen])
    · refine mat_lit (xss := [[1, -2]]) (vs := [.slice (some ⟨w.heap.size + 1, 0, none⟩) 2 2]) B2 rfl (by simp [maxLen]) (fun k u xs h1 h2 => ?_)
      match k with
      | 0 =>
        simp at h1 h2
        subst h1 h2
        exact ints_lit (xs := [1, -2]) B1 (Below.refl _ _) (by simp [I64]) (by simp [maxLen])
      | k + 1 => simp at h1
  have HF := Lib.hid hF
  have HB3 := Lib.hid B3
  have HBW := Lib.hid hbW
  have HTW := Lib.hid (HT.out.keep hbW HT.out.lt)
  clear hF B0 B1 B2 B3 hbW
  have hsz : w.heap.size + 4 ≤ W.heap.size := by omega
  clear hszW
  refine (fbound_any _ _ _ _ awForm.atoms W (-1) HF.out.parts.2.2.2.2.1 (by simp [awForm]) (by simp [I64])).mono ?_
  rintro e w1 ⟨rfl, hb1⟩
  rw [show boundVal (bound awForm.atoms (-1)) = .tuple #[.agg #[.int .i64 1, .int .i64 0, .int .i64 0], .bool true] from rfl]
  have HB1 := Lib.hid hb1
  have hsz1 : W.heap.size ≤ w1.heap.size := hb1.size
  clear hb1
  go_wp2_with fail
  have B4 := Blk.new w1 48 #[.int .i64 1, .int .i64 0, .int .i64 0]
  have B5 := Blk.new (w1.alloc (.cells #[.int .i64 1, .int .i64 0, .int .i64 0] 48)) 3 #[.int .i64 3, .int .i64 (-1), .int .i64 3]
  rw [World.size_alloc] at B5
  refine (fnormal_any _ [3, -1, 3] _ (ints_lit (xs := [3, -1, 3]) B5 (Below.refl _ _) (by simp [I64]) (by simp [maxLen])) (by simp)).mono ?_
  rintro e w2 ⟨v, rfl, hown, hb2⟩
  rw [awNorm] at hown ⊢
  have B6 := (B4.alloc _).keep hb2
  have hsz2 : w1.heap.size + 2 ≤ w2.heap.size := by have := hb2.size; simp at this; omega
  have HB2 : Hid (Below w1.heap.size w1 w2) := by
    refine Below.trans ?_ (hb2.mono (by simp; omega))
    go_grown
  have HV := Lib.hid hown.ints
  have q0 := B6.cell 0
  have q1 := B6.cell 1
  have q2 := B6.cell 2
  simp only [List.getElem?_toArray, List.getElem?_cons_zero, List.getElem?_cons_succ] at q0 q1 q2
  obtain ⟨A, c, hvv, _⟩ := hown.ints
  subst hvv
  clear hown hb2 B4 B5 B6
  go_wp2_with fail
  refine (same_any _ _ [-1, 3] [-1, 3] _ ?h1 ?h2).mono ?_
  case h1 => exact HV.out.keep (by go_grown)
  case h2 => exact ints_lit (xs := [-1, 3]) (Blk.new w2 3 #[.int .i64 (-1), .int .i64 3]) (Below.refl _ _) (by simp [I64]) (by simp [maxLen])
  rintro e w3 ⟨rfl, n3, rfl⟩
  rw [show decide (([-1, 3] : List Int) = [-1, 3]) = true from rfl]
  have HB5 : Hid (Below W.heap.size W (w2.alloc (.cells #[.int .i64 (-1), .int .i64 3] 3))) := by
    have h1 : Below W.heap.size W w2 := HB1.out.trans (HB2.out.mono hsz1)
    exact h1.alloc (by omega) _
  have B7 := HB3.out.keep HB5.out
  have r0 := B7.cell 0
  have r1 := B7.cell 1
  have r2 := B7.cell 2
  have r3 := B7.cell 3
  simp only [List.getElem?_toArray, List.getElem?_cons_zero, List.getElem?_cons_succ] at r0 r1 r2 r3
  clear B7
  go_wp2_with fail
  refine (fformat_any _ awForm _ ?k1 ?k2 (by decide)).mono ?_
  case k1 => exact HF.out.keep (bdrew HB5.out _)
  case k2 => exact HTW.out.keep (bdrew HB5.out _) HTW.out.lt
  rintro e w4 ⟨rfl, hb4⟩
  rw [awForm_text]
  have HB4 := Lib.hid hb4
  clear hb4
  go_wp2_with fail
  go_ret
  refine ⟨rfl, ?_⟩
  refine (HBW.out.trans (HB5.out.mono (by omega))).trans ?_
  have h := HB4.out
  exact ⟨h.os, h.tape, h.output, h.size, fun k hk => h.block k (by have := HB5.out.size; show k < (w2.alloc _).heap.size; omega)⟩
end Go.Proofs.YtfffalfnjficaaaDoor
