/-
  WALK: interleavelaw39.ReportScores.
-/
import Derived.Test.YtccpelfnkjckiaaDoorAwake39
namespace Go.Proofs.YtccpelfnkjckiaaDoor
open Go.RowKit

set_option maxRecDepth 100000 in
set_option maxHeartbeats 4000000 in
theorem lawScores (k n l : Int) (w : World) (hT : Tab w) (hW : WordsAt w) :
    Calls Tryd.prog 4 #[.int .i64 k, .int .i64 n, .int .i64 l] w fun e w' => e = .returned (.bool true) ∧ Below w.heap.size w w' := by
  have HAW := Lib.hid (awake39_from hT hW)
  clear hT hW
  go_enter Tryd.func4, Tryd.ntmps4
  go_wp2_with fail
  go_loopw [7] (fun kv wr => ∃ x : Int, -1 ≤ x ∧ x ≤ 7 ∧ kv = .int .i64 x ∧ Hid (Below w.heap.size w wr)) (fun kv _ => (7 - intOf kv).toNat)
  case atStart => exact ⟨-1, by omega, by omega, rfl, Lib.hid (Below.refl _ _)⟩
  case round =>
    obtain ⟨x, hx1, hx2, rfl, HBW⟩ := hrel
    by_cases hx : x ≤ 6
    · obtain ⟨m, hm⟩ : ∃ m, m = n.tmod 25 := ⟨_, rfl⟩
      have HM := Lib.hid hm
      clear hm
      go_wp2_with fail
      obtain ⟨wo, hwo⟩ : ∃ wo : World, wo = wr.alloc (.cells #[.int .i64 n, .int .i64 (n.tmod 25), .int .i64 (-1), .int .i64 0, .int .i64 20, .int .i64 21] 3) := ⟨_, rfl⟩
      have HBO : Hid (Below w.heap.size w wo) := by rw [hwo]; exact Lib.hid (HBW.out.alloc HBW.out.size _)
      have HBK : Hid (Blk wo wr.heap.size 3 #[.int .i64 n, .int .i64 (n.tmod 25), .int .i64 (-1), .int .i64 0, .int .i64 20, .int .i64 21]) := by rw [hwo]; exact Lib.hid (Blk.new _ _ _)
      rw [← hwo]
      clear hwo
      generalize wr.heap.size = fb at HBK ⊢
      go_loop [19] (fun jv => ∃ j : Nat, j ≤ 6 ∧ jv = .int .i64 j) (fun jv => 6 - (intOf jv).toNat)
      case atStart => exact ⟨0, by omega, rfl⟩
      case round =>
        obtain ⟨j, hj, rfl⟩ := hrel
        by_cases hj6 : j < 6
        · obtain ⟨y, hy⟩ : ∃ y : Int, wo.cell? ⟨fb, j, none⟩ = some (.int .i64 y) := by
            have h := HBK.out.cell j
            match j, hj6 with
            | 0, _ => exact ⟨_, h⟩
            | 1, _ => exact ⟨_, h⟩
            | 2, _ => exact ⟨_, h⟩
            | 3, _ => exact ⟨_, h⟩
            | 4, _ => exact ⟨_, h⟩
            | 5, _ => exact ⟨_, h⟩
          have lj : (j : Int) < 6 := by omega
          have dj : decide ((j : Int) < 6) = true := by simpa using lj
          go_wp2_with (first
            | (go_at_call 16; (with_reducible refine (score_any _ _ _ _).mono ?_); rintro e w' ⟨rfl, rfl⟩)
            | (go_at_call 17; (with_reducible refine (rscore_any _ _ _ _).mono ?_); rintro e w' ⟨rfl, rfl⟩))
          go_round
          case rel => exact ⟨j + 1, by omega, by go_num⟩
          case measure => simp [intOf]; omega
        · have lj : ¬ (j : Int) < 6 := by omega
          go_wp2_with fail
          go_roundw
          case rel => exact ⟨x + 1, by omega, by omega, rfl, HBO⟩
          case measure => simp [intOf]; omega
    · go_wp2_with (first
        | (go_at_call 16; (with_reducible refine (score_any _ _ _ _).mono ?_); rintro e w' ⟨rfl, rfl⟩)
        | (go_at_call 17; (with_reducible refine (rscore_any _ _ _ _).mono ?_); rintro e w' ⟨rfl, rfl⟩)
        | (go_at_call 18; (with_reducible refine (HAW.out _ HBW.out).mono ?_); rintro e w' ⟨rfl, hbl⟩; have HBL := Lib.hid hbl; clear hbl))
      go_ret
      exact ⟨rfl, HBL.out⟩
end Go.Proofs.YtccpelfnkjckiaaDoor
