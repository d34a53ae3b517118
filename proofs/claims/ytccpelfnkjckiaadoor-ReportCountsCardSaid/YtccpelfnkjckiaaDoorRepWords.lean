/-
  WORDS: findings and reports in memory; worlds that have grown.
-/
import Derived.Test.YtccpelfnkjckiaaDoorRepCmp
import Derived.Test.YtccpelfnkjckiaaDoorOwn
import Derived.Test.YtccpelfnkjckiaaDoorText
import Derived.Sort.Grow
namespace Go.Proofs.YtccpelfnkjckiaaDoor
open Go.RowKit

/-- The world w' is w with some draws and new blocks. -/
def Grew (w w' : World) : Prop := ∃ q os, w' = Sort.grow (w.drewN q) os
theorem Grew.refl (w : World) : Grew w w := ⟨0, #[], by unfold Sort.grow; simp [World.drewN]⟩
theorem Grew.drewN {w w' : World} (h : Grew w w') (n : Nat) : Grew w (w'.drewN n) := by
  obtain ⟨q, os, rfl⟩ := h
  exact ⟨q + n, os, by rw [← World.drewN_drewN]; rfl⟩
theorem Grew.drew {w w' : World} (h : Grew w w') : Grew w w'.drew := h.drewN 1
theorem Grew.alloc {w w' : World} (h : Grew w w') (o : Obj) : Grew w (w'.alloc o) := by
  obtain ⟨q, os, rfl⟩ := h
  exact ⟨q, os.push o, by unfold Sort.grow World.alloc; simp⟩
theorem Grew.trans {w w' w'' : World} (h : Grew w w') (h2 : Grew w' w'') : Grew w w'' := by
  obtain ⟨q, os, rfl⟩ := h
  obtain ⟨q2, os2, rfl⟩ := h2
  exact ⟨q + q2, os ++ os2, by rw [← World.drewN_drewN]; unfold Sort.grow World.drewN; simp⟩
theorem Grew.below {w w' : World} (h : Grew w w') : Below w.heap.size w w' := by
  obtain ⟨q, os, rfl⟩ := h
  exact below_grow w q os

/-- A report. -/
structure Rep where
  kind : Int
  sites : List Int
  starts : List Int
  count : Int
  best : Int
  score : Int
def Rep.ok (r : Rep) : Prop := I64 r.kind ∧ I64 r.count ∧ I64 r.best ∧ I64 r.score
def Rep.cells (q : Rep × Value × Value) : List Value := [.int .i64 q.1.kind, q.2.1, q.2.2, .int .i64 q.1.count, .int .i64 q.1.best, .int .i64 q.1.score]
def IsRep (w : World) (v : Value) (r : Rep) : Prop :=
  ∃ sv tv, v = .agg #[.int .i64 r.kind, sv, tv, .int .i64 r.count, .int .i64 r.best, .int .i64 r.score] ∧ Ints w sv r.sites ∧ Ints w tv r.starts ∧ r.ok
def Reps (w : World) (v : Value) (l : List Rep) : Prop :=
  ∃ A c, ∃ ps : List (Rep × Value × Value), ps.map (·.1) = l ∧ v = .slice A ps.length c ∧ ps.length ≤ c ∧ c ≤ maxLen ∧ Rd w A (ps.flatMap Rep.cells) ∧ ∀ q ∈ ps, Ints w q.2.1 q.1.sites ∧ Ints w q.2.2 q.1.starts ∧ q.1.ok
theorem IsRep.keep {w w' : World} {v : Value} {r : Rep} (h : IsRep w v r) (hb : Below w.heap.size w w') : IsRep w' v r := by
  obtain ⟨sv, tv, h1, h2, h3, h4⟩ := h
  exact ⟨sv, tv, h1, h2.keep hb, h3.keep hb, h4⟩
theorem Reps.keep {w w' : World} {v : Value} {l : List Rep} (h : Reps w v l) (hb : Below w.heap.size w w') : Reps w' v l := by
  obtain ⟨A, c, ps, h1, h2, h3, h4, h5, h6⟩ := h
  exact ⟨A, c, ps, h1, h2, h3, h4, h5.keep hb, fun q hq => ⟨(h6 q hq).1.keep hb, (h6 q hq).2.1.keep hb, (h6 q hq).2.2⟩⟩

/-- The first number that is not 0. -/
def orL : List Int → Int
  | [] => 0
  | x :: r => if x = 0 then orL r else x
/-- The order of reports. -/
def cmpR (a b : Rep) : Int := orL [Lib.compareInt b.score a.score, Lib.compareInt a.kind b.kind, cmpL a.sites b.sites]
def lessR (a b : Rep) : Bool := decide (cmpR a b < 0)

set_option maxHeartbeats 1000000 in
theorem or_any (v : Value) (xs : List Int) (w : World) (h : Ints w v xs) :
    Calls Tryd.prog 38 #[v] w fun e w' => e = .returned (.int .i64 (orL xs)) ∧ w = w' := by
  obtain ⟨A, c, rfl, hl, hm, hx, hr⟩ := h
  unfold maxLen at hm
  have HR := Lib.hid hr
  clear hx hr
  go_enter Tryd.func38, Tryd.ntmps38
  go_wp2
  go_loop [8] (fun i => ∃ k : Nat, k ≤ xs.length ∧ i = .int .i64 k ∧ Hid (orL xs = orL (xs.drop k))) (fun i => xs.length - (intOf i).toNat)
  case atStart => exact ⟨0, by omega, rfl, Lib.hid rfl⟩
  case round =>
    obtain ⟨k, hk, rfl, HE⟩ := hrel
    by_cases hlt : k < xs.length
    · obtain ⟨x, hxk⟩ : ∃ x, xs[k]? = some x := ⟨_, List.getElem?_eq_getElem hlt⟩
      obtain ⟨b1, o1, rfl, hb1, hc1⟩ := HR.out.int hxk
      have HD : Hid (xs.drop k = x :: xs.drop (k + 1)) := Lib.hid (by rw [List.drop_eq_getElem_cons hlt, (List.getElem?_eq_some_iff.1 hxk).2])
      clear hxk
      by_cases h0 : x = 0
      · subst h0
        go_wp2
        go_round
        case rel => exact ⟨k + 1, by omega, by go_num, Lib.hid (by rw [HE.out, HD.out]; simp [orL])⟩
        case measure => simp [intOf]; omega
      · have hne : (x != 0) = true := by simpa using h0
        have HV : Hid (orL xs = x) := Lib.hid (by rw [HE.out, HD.out]; simp [orL, h0])
        clear h0
        go_wp2
        go_ret
        exact ⟨ret_int64 HV.out.symm, rfl⟩
    · have HV : Hid (orL xs = 0) := Lib.hid (by rw [HE.out, List.drop_eq_nil_of_le (by omega)]; rfl)
      go_wp2
      go_ret
      exact ⟨ret_int64 HV.out.symm, rfl⟩

theorem ints_newR (w : World) (t : TypeId) (xs : List Int) (hx : ∀ x ∈ xs, I64 x) (hl : xs.length ≤ maxLen) : Ints (w.alloc (.cells (xs.map (Value.int .i64)).toArray t)) (.slice (some ⟨w.heap.size, 0, none⟩) xs.length xs.length) xs := by
  refine ⟨_, _, rfl, Nat.le_refl _, hl, hx, fun _ => ⟨_, _, rfl, by simp, fun j u hu => ?_⟩⟩
  have h := (Blk.new w t (xs.map (Value.int .i64)).toArray).cell j
  rw [Nat.zero_add, h, List.getElem?_toArray, hu]
theorem compareInt_i64 (x y : Int) : I64 (Lib.compareInt x y) := by
  unfold Lib.compareInt I64
  by_cases h1 : x < y
  · simp [h1]
  · by_cases h2 : y < x <;> simp [h1, h2]
theorem cmpL_i64 (x y : List Int) : I64 (cmpL x y) := by
  rcases cmpL_range x y with h | h | h <;> rw [h] <;> unfold I64 <;> omega
end Go.Proofs.YtccpelfnkjckiaaDoor
