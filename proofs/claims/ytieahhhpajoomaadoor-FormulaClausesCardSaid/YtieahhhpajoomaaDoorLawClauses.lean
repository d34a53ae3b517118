/-
  WALK: interleavelaw31.FormulaClauses.
-/
import Derived.Test.YtieahhhpajoomaaDoorAwake31
import Derived.Test.YtieahhhpajoomaaDoorValid
import Derived.Test.YtieahhhpajoomaaDoorLit
import Derived.Deep.RegionHeld3
namespace Go.Proofs.YtieahhhpajoomaaDoor
open Go.RowKit

theorem info_ints : (Tryd.prog.info? 22).map (fun i => (i.zero, i.size, i.bytes)) = some (some (.slice none 0 0), 1, 24) := by kernel_rfl

theorem made_form {w : World} {base g : Nat} (n : Nat) (hn : n ≤ maxLen) (h : w.ownsRow base 22 1 (.slice (some ⟨g, 0, none⟩) n n) n (madeCells (Value.slice none 0 0).cells (n * 1)).toList) :
    IsForm w (.agg #[.int .i64 0, .int .i64 0, .slice none 0 0, .slice (some ⟨g, 0, none⟩) n n]) ⟨0, 0, [], List.replicate n []⟩ := by
  refine ⟨_, _, rfl, by simp [I64], by simp [I64], ⟨none, 0, rfl, by simp, by simp [maxLen], by simp, Rd.nil _ _⟩, ?_⟩
  have hc : (Value.slice none 0 0).cells = #[.slice none 0 0] := rfl
  rw [hc, toList_madeCells_one] at h
  refine ⟨some ⟨g, 0, none⟩, n, List.replicate n (.slice none 0 0), by simp, by simp, hn, by simp, fun hp => ⟨g, 0, rfl, ?_, fun j u hu => ?_⟩, fun k u xs h1 h2 => ?_⟩
  · exact (h.lt g rfl).2
  · have hj : j < n := by have := (List.getElem?_eq_some_iff.1 hu).1; simpa using this
    rw [Nat.zero_add, h.cellAt j (by omega), Nat.mul_one]
    exact hu
  · rw [List.getElem?_replicate] at h1 h2
    split at h1
    · rename_i hk
      rw [if_pos hk] at h2
      injection h1 with h1
      injection h2 with h2
      subst h1 h2
      exact Ints.nil w
    · cases h1

theorem valid_many : validF ⟨0, 0, [], List.replicate 32768 []⟩ = 0 := by
  have h := validF_body (f := ⟨0, 0, [], List.replicate 32768 []⟩) (by show ¬ (32 : Int) < 0; omega) (by show ¬ (1024 : Int) < 0; omega) (by show ¬ 32768 < (List.replicate 32768 ([] : List Int)).length; rw [List.length_replicate]; omega) (by show ¬ (0 : Int) < 0; omega) (by show ¬ (0 : Int) < 0; omega) (by show ¬ (0 : Int) < ((0 : Nat) : Int); omega)
  rw [h, bodyOk_all (by rfl) ?_]
  · rfl
  · rw [List.all_eq_true]
    intro c hc
    rw [List.eq_of_mem_replicate hc]
    rfl
theorem valid_more : validF ⟨0, 0, [], List.replicate 32769 []⟩ = 2 := by
  unfold validF
  rw [if_pos (Or.inr (Or.inr (by show 32768 < (List.replicate 32769 ([] : List Int)).length; rw [List.length_replicate]; omega)))]

set_option maxRecDepth 100000 in
set_option maxHeartbeats 1000000 in
theorem clauses_no (w : World) (hT : Tab w) :
    Calls Tryd.prog 11 #[.bool false] w fun e w' => e = .returned (.bool true) ∧ Below w.heap.size w w' := by
  obtain ⟨i0, hi, hz0, hz1, hz2⟩ := info_parts info_ints
  have HT := Lib.hid hT
  clear hT
  go_enter Tryd.func11, Tryd.ntmps11
  go_wp2_with (at_make; refine wpList_make_full _ rfl _ _ 29 rfl w.heap.size 22 i0 (.slice none 0 0) 1 Tryd.underlying29 hi hz0 hz1 .i64 .i64 _ _ 32768 rfl rfl rfl rfl (by rw [hz2]; omega) (by unfold maxLen; omega) (Nat.le_refl _) ?_; intro w0 hown0 hg0; have hbw0 : Below w.heap.size w w0 := (Below.refl _ _).grown hg0 (Nat.le_refl _) (by simp); have HF := Lib.hid (made_form 32768 (by unfold maxLen; omega) hown0); have HBW := Lib.hid hbw0; clear hown0 hg0 hbw0)
  refine (fvalid_any ⟨0, 0, [], List.replicate 32768 []⟩ _ _ HF.out).mono ?_
  rintro e w1 ⟨rfl, hb1⟩
  rw [valid_many]
  have HB1 := Lib.hid (HBW.out.trans (hb1.mono HBW.out.size))
  clear hb1
  go_wp2_with fail
  refine (awake31 _ (HT.out.keep HB1.out HT.out.lt)).mono ?_
  rintro e w4 ⟨rfl, hb4⟩
  have HB4 := Lib.hid hb4
  clear hb4
  go_wp2_with fail
  go_ret
  exact ⟨rfl, HB1.out.trans (HB4.out.mono HB1.out.size)⟩

set_option maxRecDepth 100000 in
set_option maxHeartbeats 1000000 in
theorem clauses_yes (w : World) (hT : Tab w) :
    Calls Tryd.prog 11 #[.bool true] w fun e w' => e = .returned (.bool true) ∧ Below w.heap.size w w' := by
  obtain ⟨i0, hi, hz0, hz1, hz2⟩ := info_parts info_ints
  have HT := Lib.hid hT
  clear hT
  go_enter Tryd.func11, Tryd.ntmps11
  go_wp2_with (at_make; refine wpList_make_full _ rfl _ _ 29 rfl w.heap.size 22 i0 (.slice none 0 0) 1 Tryd.underlying29 hi hz0 hz1 .i64 .i64 _ _ 32769 rfl rfl rfl rfl (by rw [hz2]; omega) (by unfold maxLen; omega) (Nat.le_refl _) ?_; intro w0 hown0 hg0; have hbw0 : Below w.heap.size w w0 := (Below.refl _ _).grown hg0 (Nat.le_refl _) (by simp); have HF := Lib.hid (made_form 32769 (by unfold maxLen; omega) hown0); have HBW := Lib.hid hbw0; clear hown0 hg0 hbw0)
  refine (fvalid_any ⟨0, 0, [], List.replicate 32769 []⟩ _ _ HF.out).mono ?_
  rintro e w1 ⟨rfl, hb1⟩
  rw [valid_more]
  have HB1 := Lib.hid (HBW.out.trans (hb1.mono HBW.out.size))
  clear hb1
  go_wp2_with fail
  refine (awake31 _ (HT.out.keep HB1.out HT.out.lt)).mono ?_
  rintro e w4 ⟨rfl, hb4⟩
  have HB4 := Lib.hid hb4
  clear hb4
  go_wp2_with fail
  go_ret
  exact ⟨rfl, HB1.out.trans (HB4.out.mono HB1.out.size)⟩

theorem lawClauses (b : Bool) (w : World) (hT : Tab w) :
    Calls Tryd.prog 11 #[.bool b] w fun e w' => e = .returned (.bool true) ∧ Below w.heap.size w w' := by
  cases b
  · exact clauses_no w hT
  · exact clauses_yes w hT
end Go.Proofs.YtieahhhpajoomaaDoor
