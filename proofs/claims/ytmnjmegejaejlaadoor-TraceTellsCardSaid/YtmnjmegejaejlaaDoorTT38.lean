/-
  WALKS: interleaveref01.Letter, Digit, inner, IsName.
-/
import Derived.Test.YtmnjmegejaejlaaDoorTT37
namespace Go.Proofs.YtmnjmegejaejlaaDoor
open Go.RowKit

set_option maxRecDepth 100000 in
set_option maxHeartbeats 4000000 in
theorem rletter_any (c : UInt8) (w : World) :
    Calls Tryd.prog 45 #[.int .u8 (c.toNat : Int)] w fun e w' => e = .returned (.bool (letterB c)) ∧ w' = w := by
  have hlt : c.toNat < 256 := c.toNat_lt
  have HL := Lib.hid (letterB_nat c)
  obtain ⟨n, hn0⟩ : ∃ n, c.toNat = n := ⟨_, rfl⟩
  have HN := Lib.hid hn0
  rw [hn0] at HL hlt ⊢
  clear hn0
  go_enter Tryd.func45, Tryd.ntmps45
  rcases (show (0 ≤ n ∧ n ≤ 47) ∨ (48 ≤ n ∧ n ≤ 57) ∨ (58 ≤ n ∧ n ≤ 64) ∨ (65 ≤ n ∧ n ≤ 90) ∨ (91 ≤ n ∧ n ≤ 94) ∨ (95 ≤ n ∧ n ≤ 95) ∨ (96 ≤ n ∧ n ≤ 96) ∨ (97 ≤ n ∧ n ≤ 122) ∨ (123 ≤ n ∧ n ≤ 255) by omega) with hn | hn | hn | hn | hn | hn | hn | hn | hn
  · have t1 : decide ((97 : Int) ≤ (n : Int)) = false := by simp; omega
    have t2 : decide ((n : Int) ≤ 122) = true := by simp; omega
    have t3 : decide ((65 : Int) ≤ (n : Int)) = false := by simp; omega
    have t4 : decide ((n : Int) ≤ 90) = true := by simp; omega
    have HV : Hid ((letterB c) = false) := Lib.hid (by rw [HL.out]; simp; omega)
    clear HL
    go_wp2_with fail
    go_ret
    exact ⟨by rw [HV.out]; rfl, rfl⟩
  · have t1 : decide ((97 : Int) ≤ (n : Int)) = false := by simp; omega
    have t2 : decide ((n : Int) ≤ 122) = true := by simp; omega
    have t3 : decide ((65 : Int) ≤ (n : Int)) = false := by simp; omega
    have t4 : decide ((n : Int) ≤ 90) = true := by simp; omega
    have HV : Hid ((letterB c) = false) := Lib.hid (by rw [HL.out]; simp; omega)
    clear HL
    go_wp2_with fail
    go_ret
    exact ⟨by rw [HV.out]; rfl, rfl⟩
  · have t1 : decide ((97 : Int) ≤ (n : Int)) = false := by simp; omega
    have t2 : decide ((n : Int) ≤ 122) = true := by simp; omega
    have t3 : decide ((65 : Int) ≤ (n : Int)) = false := by simp; omega
    have t4 : decide ((n : Int) ≤ 90) = true := by simp; omega
    have HV : Hid ((letterB c) = false) := Lib.hid (by rw [HL.out]; simp; omega)
    clear HL
    go_wp2_with fail
    go_ret
    exact ⟨by rw [HV.out]; rfl, rfl⟩
  · have t1 : decide ((97 : Int) ≤ (n : Int)) = false := by simp; omega
    have t2 : decide ((n : Int) ≤ 122) = true := by simp; omega
    have t3 : decide ((65 : Int) ≤ (n : Int)) = true := by simp; omega
    have t4 : decide ((n : Int) ≤ 90) = true := by simp; omega
    have HV : Hid ((letterB c) = true) := Lib.hid (by rw [HL.out]; simp; omega)
    clear HL
    go_wp2_with fail
    go_ret
    exact ⟨by rw [HV.out]; rfl, rfl⟩
  · have t1 : decide ((97 : Int) ≤ (n : Int)) = false := by simp; omega
    have t2 : decide ((n : Int) ≤ 122) = true := by simp; omega
    have t3 : decide ((65 : Int) ≤ (n : Int)) = true := by simp; omega
    have t4 : decide ((n : Int) ≤ 90) = false := by simp; omega
    have HV : Hid ((letterB c) = false) := Lib.hid (by rw [HL.out]; simp; omega)
    clear HL
    go_wp2_with fail
    go_ret
    exact ⟨by rw [HV.out]; rfl, rfl⟩
  · have t1 : decide ((97 : Int) ≤ (n : Int)) = false := by simp; omega
    have t2 : decide ((n : Int) ≤ 122) = true := by simp; omega
    have t3 : decide ((65 : Int) ≤ (n : Int)) = true := by simp; omega
    have t4 : decide ((n : Int) ≤ 90) = false := by simp; omega
    have HV : Hid ((letterB c) = false) := Lib.hid (by rw [HL.out]; simp; omega)
    clear HL
    go_wp2_with fail
    go_ret
    exact ⟨by rw [HV.out]; rfl, rfl⟩
  · have t1 : decide ((97 : Int) ≤ (n : Int)) = false := by simp; omega
    have t2 : decide ((n : Int) ≤ 122) = true := by simp; omega
    have t3 : decide ((65 : Int) ≤ (n : Int)) = true := by simp; omega
    have t4 : decide ((n : Int) ≤ 90) = false := by simp; omega
    have HV : Hid ((letterB c) = false) := Lib.hid (by rw [HL.out]; simp; omega)
    clear HL
    go_wp2_with fail
    go_ret
    exact ⟨by rw [HV.out]; rfl, rfl⟩
  · have t1 : decide ((97 : Int) ≤ (n : Int)) = true := by simp; omega
    have t2 : decide ((n : Int) ≤ 122) = true := by simp; omega
    have t3 : decide ((65 : Int) ≤ (n : Int)) = true := by simp; omega
    have t4 : decide ((n : Int) ≤ 90) = false := by simp; omega
    have HV : Hid ((letterB c) = true) := Lib.hid (by rw [HL.out]; simp; omega)
    clear HL
    go_wp2_with fail
    go_ret
    exact ⟨by rw [HV.out]; rfl, rfl⟩
  · have t1 : decide ((97 : Int) ≤ (n : Int)) = true := by simp; omega
    have t2 : decide ((n : Int) ≤ 122) = false := by simp; omega
    have t3 : decide ((65 : Int) ≤ (n : Int)) = true := by simp; omega
    have t4 : decide ((n : Int) ≤ 90) = false := by simp; omega
    have HV : Hid ((letterB c) = false) := Lib.hid (by rw [HL.out]; simp; omega)
    clear HL
    go_wp2_with fail
    go_ret
    exact ⟨by rw [HV.out]; rfl, rfl⟩
set_option maxRecDepth 100000 in
set_option maxHeartbeats 4000000 in
theorem rdigit_any (c : UInt8) (w : World) :
    Calls Tryd.prog 68 #[.int .u8 (c.toNat : Int)] w fun e w' => e = .returned (.bool (decide (48 ≤ c.toNat) && decide (c.toNat ≤ 57))) ∧ w' = w := by
  have hlt : c.toNat < 256 := c.toNat_lt
  have HL := Lib.hid (letterB_nat c)
  obtain ⟨n, hn0⟩ : ∃ n, c.toNat = n := ⟨_, rfl⟩
  have HN := Lib.hid hn0
  rw [hn0] at HL hlt ⊢
  clear hn0
  go_enter Tryd.func68, Tryd.ntmps68
  rcases (show (0 ≤ n ∧ n ≤ 47) ∨ (48 ≤ n ∧ n ≤ 57) ∨ (58 ≤ n ∧ n ≤ 64) ∨ (65 ≤ n ∧ n ≤ 90) ∨ (91 ≤ n ∧ n ≤ 94) ∨ (95 ≤ n ∧ n ≤ 95) ∨ (96 ≤ n ∧ n ≤ 96) ∨ (97 ≤ n ∧ n ≤ 122) ∨ (123 ≤ n ∧ n ≤ 255) by omega) with hn | hn | hn | hn | hn | hn | hn | hn | hn
  · have t6 : decide ((48 : Int) ≤ (n : Int)) = false := by simp; omega
    have t7 : decide ((n : Int) ≤ 57) = true := by simp; omega
    have HV : Hid ((decide (48 ≤ n) && decide (n ≤ 57)) = false) := Lib.hid (by simp; omega)
    clear HL
    go_wp2_with fail
    go_ret
    exact ⟨by rw [HV.out]; rfl, rfl⟩
  · have t6 : decide ((48 : Int) ≤ (n : Int)) = true := by simp; omega
    have t7 : decide ((n : Int) ≤ 57) = true := by simp; omega
    have HV : Hid ((decide (48 ≤ n) && decide (n ≤ 57)) = true) := Lib.hid (by simp; omega)
    clear HL
    go_wp2_with fail
    go_ret
    exact ⟨by rw [HV.out]; rfl, rfl⟩
  · have t6 : decide ((48 : Int) ≤ (n : Int)) = true := by simp; omega
    have t7 : decide ((n : Int) ≤ 57) = false := by simp; omega
    have HV : Hid ((decide (48 ≤ n) && decide (n ≤ 57)) = false) := Lib.hid (by simp; omega)
    clear HL
    go_wp2_with fail
    go_ret
    exact ⟨by rw [HV.out]; rfl, rfl⟩
  · have t6 : decide ((48 : Int) ≤ (n : Int)) = true := by simp; omega
    have t7 : decide ((n : Int) ≤ 57) = false := by simp; omega
    have HV : Hid ((decide (48 ≤ n) && decide (n ≤ 57)) = false) := Lib.hid (by simp; omega)
    clear HL
    go_wp2_with fail
    go_ret
    exact ⟨by rw [HV.out]; rfl, rfl⟩
  · have t6 : decide ((48 : Int) ≤ (n : Int)) = true := by simp; omega
    have t7 : decide ((n : Int) ≤ 57) = false := by simp; omega
    have HV : Hid ((decide (48 ≤ n) && decide (n ≤ 57)) = false) := Lib.hid (by simp; omega)
    clear HL
    go_wp2_with fail
    go_ret
    exact ⟨by rw [HV.out]; rfl, rfl⟩
  · have t6 : decide ((48 : Int) ≤ (n : Int)) = true := by simp; omega
    have t7 : decide ((n : Int) ≤ 57) = false := by simp; omega
    have HV : Hid ((decide (48 ≤ n) && decide (n ≤ 57)) = false) := Lib.hid (by simp; omega)
    clear HL
    go_wp2_with fail
    go_ret
    exact ⟨by rw [HV.out]; rfl, rfl⟩
  · have t6 : decide ((48 : Int) ≤ (n : Int)) = true := by simp; omega
    have t7 : decide ((n : Int) ≤ 57) = false := by simp; omega
    have HV : Hid ((decide (48 ≤ n) && decide (n ≤ 57)) = false) := Lib.hid (by simp; omega)
    clear HL
    go_wp2_with fail
    go_ret
    exact ⟨by rw [HV.out]; rfl, rfl⟩
  · have t6 : decide ((48 : Int) ≤ (n : Int)) = true := by simp; omega
    have t7 : decide ((n : Int) ≤ 57) = false := by simp; omega
    have HV : Hid ((decide (48 ≤ n) && decide (n ≤ 57)) = false) := Lib.hid (by simp; omega)
    clear HL
    go_wp2_with fail
    go_ret
    exact ⟨by rw [HV.out]; rfl, rfl⟩
  · have t6 : decide ((48 : Int) ≤ (n : Int)) = true := by simp; omega
    have t7 : decide ((n : Int) ≤ 57) = false := by simp; omega
    have HV : Hid ((decide (48 ≤ n) && decide (n ≤ 57)) = false) := Lib.hid (by simp; omega)
    clear HL
    go_wp2_with fail
    go_ret
    exact ⟨by rw [HV.out]; rfl, rfl⟩
theorem innerB_parts (c : UInt8) : innerB c = ((letterB c || (decide (48 ≤ c.toNat) && decide (c.toNat ≤ 57))) || decide (c.toNat = 95)) := by rw [innerB_nat, letterB_nat]
set_option maxRecDepth 100000 in
set_option maxHeartbeats 2000000 in
theorem rinner_any (c : UInt8) (w : World) :
    Calls Tryd.prog 47 #[.int .u8 (c.toNat : Int)] w fun e w' => e = .returned (.bool (innerB c)) ∧ w' = w := by
  have HI := Lib.hid (innerB_parts c)
  have HCL := Lib.hid (rletter_any c w)
  have HCD := Lib.hid (rdigit_any c w)
  have h5 : ((c.toNat : Int) == 95) = decide (c.toNat = 95) := by
    rw [Bool.eq_iff_iff, beq_iff_eq, decide_eq_true_eq]; omega
  generalize letterB c = l at *
  generalize (decide (48 ≤ c.toNat) && decide (c.toNat ≤ 57)) = d at *
  generalize decide (c.toNat = 95) = u at *
  generalize (c.toNat : Int) = n at *
  generalize innerB c = r at *
  go_enter Tryd.func47, Tryd.ntmps47
  go_wp2_with fail
  refine HCL.out.mono ?_
  rintro e w2 ⟨rfl, rfl⟩
  cases l with
  | true =>
    go_wp2_with fail
    go_ret
    exact ⟨by rw [HI.out]; simp, rfl⟩
  | false =>
    go_wp2_with fail
    refine HCD.out.mono ?_
    rintro e w3 ⟨rfl, rfl⟩
    cases d with
    | true =>
      go_wp2_with fail
      go_ret
      exact ⟨by rw [HI.out]; simp, rfl⟩
    | false =>
      go_wp2_with fail
      go_ret
      exact ⟨by rw [HI.out]; simp, rfl⟩
end Go.Proofs.YtmnjmegejaejlaaDoor
