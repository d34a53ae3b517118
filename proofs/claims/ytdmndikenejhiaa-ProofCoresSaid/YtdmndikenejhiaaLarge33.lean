/-
  WALK: interleavelaw33.large.
-/
import Derived.Test.YtdmndikenejhiaaDerive
namespace Go.Proofs.Ytdmndikenejhiaa
open Go.RowKit

def sumTo2 : Nat → List Nat → Nat
  | n, [] => n
  | n, l :: r => if n < 1000 then sumTo2 (n + l) r else n
def largeS (l : List Stp) : Bool := decide (200 < sumTo2 l.length (l.map fun s => s.lits.length))
theorem sumTo2_small {n : Nat} {l : List Nat} (h : ¬ 200 < sumTo2 n l) : n + l.sum ≤ 200 := by
  induction l generalizing n with
  | nil => simp [sumTo2] at h ⊢; exact h
  | cons a r ih =>
    rw [sumTo2] at h
    by_cases hn : n < 1000
    · rw [if_pos hn] at h
      have := ih h
      simp; omega
    · rw [if_neg hn] at h; omega
theorem le_sum_mem {l : List Nat} {a : Nat} (h : a ∈ l) : a ≤ l.sum := by
  induction l with
  | nil => cases h
  | cons b r ih =>
    rw [List.sum_cons]
    rcases List.mem_cons.1 h with rfl | h
    · omega
    · have := ih h; omega
theorem largeS_small {l : List Stp} (h : largeS l = false) : l.length ≤ 200 ∧ ∀ s ∈ l, s.lits.length ≤ 200 := by
  have h1 := sumTo2_small (n := l.length) (l := l.map fun s => s.lits.length) (by simpa [largeS] using h)
  refine ⟨by omega, fun s hs => ?_⟩
  have : s.lits.length ≤ (l.map fun s => s.lits.length).sum := le_sum_mem (List.mem_map.2 ⟨s, hs, rfl⟩)
  omega

set_option maxRecDepth 100000 in
set_option maxHeartbeats 1000000 in
theorem large33_any (lv : Value) (l : List Stp) (w : World) (hl : Stps w lv l) (hn : l.length ≤ 140737488355328) (hll : ∀ s ∈ l, s.lits.length ≤ 140737488355328) :
    Calls Try.prog 12 #[lv] w fun e w' => e = .returned (.bool (largeS l)) ∧ w = w' := by
  have HLL := Lib.hid hll
  obtain ⟨A, c, ps, hps, rfl, l1, l2, l3, l4⟩ := hl
  have hpl : ps.length = l.length := by rw [hps]; simp
  have HPS := Lib.hid hps
  have HPL := Lib.hid hpl
  have HR := Lib.hid l3
  have H4 := Lib.hid l4
  unfold maxLen at l2
  have hpn : ps.length ≤ 140737488355328 := by omega
  clear hll hps hpl l3 l4
  go_enter Try.func12, Try.ntmps12
  go_wp2_with fail
  go_loop [3, 4] (fun s i => ∃ k n : Nat, k ≤ ps.length ∧ i = .int .i64 (k : Nat) ∧ s = .int .i64 (n : Nat) ∧ n ≤ 1000000000000000 ∧ sumTo2 n ((l.map fun s => s.lits.length).drop k) = sumTo2 l.length (l.map fun s => s.lits.length)) (fun _ i => ps.length - (intOf i).toNat)
  case atStart => exact ⟨0, ps.length, by omega, rfl, rfl, by omega, by rw [HPL.out]; rfl⟩
  case round =>
    obtain ⟨k, n, hk, rfl, rfl, hn', hs⟩ := hrel
    have HS := Lib.hid hs
    clear hs
    by_cases hlt : k < ps.length
    · by_cases hnn : n < 1000
      · obtain ⟨⟨s, sv⟩, hp⟩ : ∃ p, ps[k]? = some p := ⟨_, List.getElem?_eq_getElem hlt⟩
        obtain ⟨b1, o1, rfl, hb1, t0, t1, t2, t3, t4, t5⟩ := Stps.at_ HR.out hp
        have hlk : l[k]? = some s := by rw [HPS.out, List.getElem?_map, hp]; rfl
        obtain ⟨As, cs', hsv, -, -, -, -⟩ := (H4.out (s, sv) (List.mem_of_getElem? hp)).1
        simp only at hsv t2
        subst hsv
        have hx := HLL.out s (List.mem_of_getElem? hlk)
        have HN : Hid (sumTo2 (n + s.lits.length) ((l.map fun s => s.lits.length).drop (k + 1)) = sumTo2 n ((l.map fun s => s.lits.length).drop k)) := by
          refine Lib.hid ?_
          have hk2 : k < (l.map fun s => s.lits.length).length := by rw [List.length_map, ← HPL.out]; exact hlt
          rw [List.drop_eq_getElem_cons hk2, sumTo2, if_pos hnn]
          have : (l.map fun s => s.lits.length)[k] = s.lits.length := by
            rw [List.getElem_map]
            obtain ⟨_, h2⟩ := List.getElem?_eq_some_iff.1 hlk
            rw [h2]
          rw [this]
        have hnb : decide ((n : Int) < 1000) = true := by simp; omega
        have hnI : (n : Int) ≤ 999 := by omega
        have hxI : (s.lits.length : Int) ≤ 140737488355328 := by omega
        have HX := Lib.hid hx
        have HNN := Lib.hid hnn
        clear hnn hn' hx hlk hp t0 t1 t3 t4 t5
        go_wp2_with fail
        go_round
        case rel => exact ⟨k + 1, n + s.lits.length, by omega, by go_num, by go_num, by have := HX.out; have := HNN.out; omega, by rw [HN.out, HS.out]⟩
        case measure => simp [intOf]; omega
      · have HN : Hid (sumTo2 n ((l.map fun s => s.lits.length).drop k) = n) := by
          refine Lib.hid ?_
          have hk2 : k < (l.map fun s => s.lits.length).length := by rw [List.length_map, ← HPL.out]; exact hlt
          rw [List.drop_eq_getElem_cons hk2, sumTo2, if_neg hnn]
        have hnb : decide ((n : Int) < 1000) = false := by simp; omega
        clear hnn hn'
        go_wp2_with fail
        go_ret
        exact ⟨ret_bool (by unfold largeS; rw [← HS.out, HN.out]; exact decide_congr (by omega)), rfl⟩
    · have HN : Hid (sumTo2 n ((l.map fun s => s.lits.length).drop k) = n) := by
        refine Lib.hid ?_
        rw [List.drop_eq_nil_of_le (by rw [List.length_map, ← HPL.out]; omega), sumTo2]
      clear hn'
      go_wp2_with fail
      go_ret
      exact ⟨ret_bool (by unfold largeS; rw [← HS.out, HN.out]; exact decide_congr (by omega)), rfl⟩
end Go.Proofs.Ytdmndikenejhiaa
