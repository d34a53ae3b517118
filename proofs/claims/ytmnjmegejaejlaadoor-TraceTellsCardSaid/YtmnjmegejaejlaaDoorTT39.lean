/-
  WALKS: interleaveref01.IsName; interleaveref16.words.
-/
import Derived.Test.YtmnjmegejaejlaaDoorTT38
import Derived.Laws.DeepStrings4
import Derived.Laws.Strings3
namespace Go.Proofs.YtmnjmegejaejlaaDoor
open Go.RowKit

theorem nameB_cons (c : UInt8) (r : List UInt8) : nameB (c :: r) = (decide ((c :: r).length ≤ 12) && letterB c && !keysL.contains (c :: r) && r.all innerB) := rfl
/-- s[i] of a text. -/
theorem byte_at {s : List UInt8} {i : Nat} {c : UInt8} (h : s[i]? = some c) (w : World) : (Instr.index 9 (.string ⟨s.toArray⟩) (.int .i64 (i : Int))).run Tryd.prog w = .ok (.int .u8 (c.toNat : Int)) w := by
  have hi := (List.getElem?_eq_some_iff.1 h).1
  have hsz : (⟨s.toArray⟩ : ByteArray).size = s.length := by simp [ByteArray.size]
  rw [run_index_string (P := Tryd.prog) w 9 ⟨s.toArray⟩ .i64 (i : Int) Tryd.underlying9]
  rw [dif_pos ⟨by omega, by rw [hsz]; omega⟩]
  have h1 : s[i] = c := by rw [List.getElem?_eq_getElem hi] at h; injection h
  subst h1
  rfl
set_option maxRecDepth 100000 in
set_option maxHeartbeats 4000000 in
theorem rname_any (s : List UInt8) (w : World) :
    Calls Tryd.prog 30 #[.string ⟨s.toArray⟩] w fun e w' => e = .returned (.bool (nameB s)) ∧ Below w.heap.size w w' := by
  go_enter Tryd.func30, Tryd.ntmps30
  by_cases hs0 : s = []
  · subst hs0
    go_wp2_with fail
    go_ret
    exact ⟨rfl, Below.refl _ _⟩
  · obtain ⟨c, r, hcr⟩ : ∃ c r, s = c :: r := by cases s with | nil => exact absurd rfl hs0 | cons c r => exact ⟨c, r, rfl⟩
    have HCR := Lib.hid hcr
    have hpos : 0 < s.length := List.length_pos_iff.2 hs0
    have hge : 1 ≤ (s.length : Int) := by omega
    clear hcr hs0
    by_cases h12 : 12 < s.length
    · have HB : Hid (nameB s = false) := Lib.hid (by rw [HCR.out] at h12 ⊢; rw [nameB_cons, show decide ((c :: r).length ≤ 12) = false by simp; simp at h12; omega]; rfl)
      go_wp2_with fail
      go_ret
      exact ⟨by rw [HB.out]; rfl, Below.refl _ _⟩
    · have hle : (s.length : Int) ≤ 12 := by omega
      have HX := Lib.hid (byte_at (s := s) (i := 0) (c := c) (by rw [HCR.out]; rfl))
      have hx0 : ∀ w, (Instr.index 9 (.string ⟨s.toArray⟩) (.int .i64 0)).run Tryd.prog w = .ok (.int .u8 (c.toNat : Int)) w := HX.out
      have HCL := Lib.hid (rletter_any c w)
      cases hl : letterB c with
      | false =>
        have HB : Hid (nameB s = false) := Lib.hid (by rw [HCR.out, nameB_cons, hl]; simp)
        rw [hl] at HCL
        clear hl
        go_wp2_with fail
        refine HCL.out.mono ?_
        rintro e w2 ⟨rfl, rfl⟩
        go_wp2_with fail
        go_ret
        exact ⟨by rw [HB.out]; rfl, Below.refl _ _⟩
      | true =>
        have HL := Lib.hid hl
        rw [hl] at HCL
        clear hl
        go_wp2_with fail
        refine HCL.out.mono ?_
        rintro e w2 ⟨rfl, rfl⟩
        go_wp2_with fail
        refine (rkey_any s w2).mono ?_
        rintro e w3 ⟨rfl, hb3⟩
        have HB3 := Lib.hid hb3
        clear hb3
        cases hk : keysL.contains s with
        | true =>
          have HB : Hid (nameB s = false) := Lib.hid (by rw [HCR.out] at hk ⊢; rw [nameB_cons, hk]; simp)
          clear hk
          go_wp2_with fail
          go_ret
          exact ⟨by rw [HB.out]; rfl, HB3.out⟩
        | false =>
          have HK := Lib.hid hk
          clear hk
          go_wp2_with fail
          go_loopw [3] (fun iv wr => ∃ i : Nat, i ≤ s.length ∧ iv = .int .i64 i ∧ Hid (∀ (j : Nat) (d : UInt8), j < i → s[j]? = some d → innerB d = true) ∧ wr = w3) (fun iv _ => s.length - (intOf iv).toNat)
          case atStart => exact ⟨0, by omega, rfl, Lib.hid (fun j d h => by omega), rfl⟩
          case round =>
            obtain ⟨i, hi, rfl, HIN, rfl⟩ := hrel
            by_cases hlt : i < s.length
            · obtain ⟨d, hd⟩ : ∃ d, s[i]? = some d := ⟨_, List.getElem?_eq_getElem hlt⟩
              have hix := byte_at hd
              have HD := Lib.hid hd
              have HCI := Lib.hid (rinner_any d wr)
              clear hd
              cases hin : innerB d with
              | true =>
                have HI2 : Hid (∀ (j : Nat) (d : UInt8), j < i + 1 → s[j]? = some d → innerB d = true) := Lib.hid (fun j d' hj hd' => by
                  rcases Nat.lt_or_ge j i with h | h
                  · exact HIN.out j d' h hd'
                  · obtain rfl : j = i := by omega
                    rw [HD.out] at hd'; injection hd' with hd'; rw [← hd']; exact hin)
                rw [hin] at HCI
                clear hin
                go_wp2_with fail
                refine HCI.out.mono ?_
                rintro e w4 ⟨rfl, rfl⟩
                go_wp2_with fail
                go_roundw
                case rel => exact ⟨i + 1, by omega, by go_num, HI2, trivial⟩
                case measure => simp [intOf]; omega
              | false =>
                have HB : Hid (nameB s = false) := Lib.hid (by
                  have hm := List.mem_of_getElem? HD.out
                  rw [HCR.out] at hm ⊢
                  rw [nameB_cons]
                  rcases List.mem_cons.1 hm with e | e
                  · subst e
                    have : innerB d = true := by unfold innerB; rw [HL.out]; rfl
                    rw [hin] at this; cases this
                  · have : r.all innerB = false := by rw [List.all_eq_false]; exact ⟨d, e, by simp [hin]⟩
                    rw [this]; simp)
                rw [hin] at HCI
                clear hin
                go_wp2_with fail
                refine HCI.out.mono ?_
                rintro e w4 ⟨rfl, rfl⟩
                go_wp2_with fail
                go_ret
                exact ⟨by rw [HB.out]; rfl, HB3.out⟩
            · obtain rfl : i = s.length := by omega
              have HB : Hid (nameB s = true) := Lib.hid (by
                have h := HIN.out
                have hk := HK.out
                have hc : r.all innerB = true := by
                  rw [List.all_eq_true]
                  intro x hx
                  obtain ⟨j, hj⟩ := List.getElem?_of_mem hx
                  have hj2 := (List.getElem?_eq_some_iff.1 hj).1
                  exact h (j + 1) x (by rw [HCR.out]; simp; omega) (by rw [HCR.out]; simpa using hj)
                rw [HCR.out] at hk h12 ⊢
                rw [nameB_cons, hk, hc, HL.out]
                simp
                simp at h12; omega)
              go_wp2_with fail
              go_ret
              exact ⟨by rw [HB.out]; rfl, HB3.out⟩
end Go.Proofs.YtmnjmegejaejlaaDoor
