/-
  PLAIN LAW: canonical numbers: what strconv.Atoi and strconv.Itoa say together; the pieces of a text.
-/
import Derived.Lib.AtoiAll
import Derived.Lib.ItoaMem
import Derived.Lib.ItoaLen
import Derived.Lib.Split
import Derived.Lib.SplitLaws
namespace Go.Proofs.YtmnjmegejaejlaaDoor

theorem digit_toNat {d : Nat} (h : d < 10) : (UInt8.ofNat (48 + d)).toNat = 48 + d := by
  rw [UInt8.toNat_ofNat']; omega
/-- The digits of a number are read as that number. -/
theorem parse_digits (u : Nat) : ∀ r : List UInt8, u < 18446744073709551616 → Lib.parseUint10 0 (Lib.decDigits u ++ r) = Lib.parseUint10 u r := by
  induction u using Nat.strongRecOn with
  | ind u ih =>
    intro r hu
    by_cases h : u < 10
    · rw [Lib.decDigits_one h]
      simp only [List.cons_append, List.nil_append, Lib.parseUint10, digit_toNat h]
      rw [if_pos (by omega), if_neg (by omega), if_neg (by omega)]
      congr 1; omega
    · rw [Lib.decDigits, dif_neg h, List.append_assoc, ih (u / 10) (by omega) _ (by omega)]
      simp only [List.cons_append, List.nil_append, Lib.parseUint10, digit_toNat (Nat.mod_lt u (by omega : 10 > 0))]
      rw [if_pos (by omega), if_neg (by omega), if_neg (by omega)]
      congr 1; omega
theorem digits_ne (u : Nat) : Lib.decDigits u ≠ [] := by
  intro h
  have := Lib.decDigits_length u
  rw [h] at this
  unfold Lib.nDigits at this
  split at this <;> simp at this
theorem parse_mag (u : Nat) (hu : u < 18446744073709551616) : Lib.parseMag (Lib.decDigits u) = .ok u := by
  unfold Lib.parseMag
  rw [if_neg (digits_ne u)]
  have h := parse_digits u [] hu
  rw [List.append_nil] at h
  rw [h]; rfl
theorem digits_head (u : Nat) : ∃ c r, Lib.decDigits u = c :: r ∧ 48 ≤ c.toNat ∧ c.toNat ≤ 57 := by
  induction u using Nat.strongRecOn with
  | ind u ih =>
    by_cases h : u < 10
    · exact ⟨_, _, Lib.decDigits_one h, by rw [digit_toNat h]; omega, by rw [digit_toNat h]; omega⟩
    · obtain ⟨c, r, e, h1, h2⟩ := ih (u / 10) (by omega)
      exact ⟨c, r ++ [UInt8.ofNat (48 + u % 10)], by rw [Lib.decDigits, dif_neg h, e]; rfl, h1, h2⟩
/-- Atoi undoes Itoa. -/
theorem atoi_itoa (v : Int) (h0 : -9223372036854775808 ≤ v) (h1 : v ≤ 9223372036854775807) : Lib.atoiAll (Lib.itoa v) = .ok v := by
  by_cases h : v < 0
  · obtain ⟨u, rfl⟩ : ∃ u : Nat, v = -(u : Int) := ⟨v.natAbs, by omega⟩
    rw [Lib.itoa_neg u (by omega)]
    unfold Lib.atoiAll
    simp only [show (45 : UInt8).toNat = 45 from rfl, or_true, if_true, parse_mag u (by omega), not_true, false_and, if_false, true_and]
    rw [if_neg (by omega)]
  · obtain ⟨u, rfl⟩ : ∃ u : Nat, v = (u : Int) := ⟨v.toNat, by omega⟩
    rw [Lib.itoa_nonneg u]
    obtain ⟨c, r, e, h2, h3⟩ := digits_head u
    rw [e]
    unfold Lib.atoiAll
    have n43 : ¬ c.toNat = 43 := by omega
    have n45 : ¬ c.toNat = 45 := by omega
    simp only [n43, n45, or_self, if_false, not_false_eq_true, true_and, false_and]
    rw [← e, parse_mag u (by omega)]
    simp only
    rw [if_neg (by omega)]

/-- The number that a text is the canonical text of. -/
def canonI (s : List UInt8) : Option Int := match Lib.atoiAll s with
  | .ok v => if Lib.itoa v = s then some v else none
  | _ => none
theorem canonI_itoa (v : Int) (h0 : -9223372036854775808 ≤ v) (h1 : v ≤ 9223372036854775807) : canonI (Lib.itoa v) = some v := by
  unfold canonI; rw [atoi_itoa v h0 h1]; simp
theorem atoi_range {s : List UInt8} {v : Int} (h : Lib.atoiAll s = .ok v) : -9223372036854775808 ≤ v ∧ v ≤ 9223372036854775807 := by
  unfold Lib.atoiAll at h
  cases s with
  | nil => cases h
  | cons c r =>
    simp only at h
    split at h
    · cases h
    · cases h
    · rename_i u hu
      by_cases hc : c.toNat = 45
      · simp only [hc, not_true, false_and, if_false, true_and, if_true] at h
        split at h
        · cases h
        · injection h with h; omega
      · simp only [hc, not_false_eq_true, true_and, false_and, if_false] at h
        split at h
        · cases h
        · injection h with h; omega
theorem canonI_some {s : List UInt8} {v : Int} (h : canonI s = some v) : Lib.atoiAll s = .ok v ∧ Lib.itoa v = s ∧ -9223372036854775808 ≤ v ∧ v ≤ 9223372036854775807 := by
  unfold canonI at h
  split at h
  · rename_i u hu
    split at h
    · injection h with h; subst h; exact ⟨hu, ‹_›, atoi_range hu⟩
    · cases h
  · cases h
theorem canonI_bad {s : List UInt8} {v : Int} (h : Lib.atoiAll s = .ok v) (hn : canonI s = none) : Lib.itoa v ≠ s := by
  intro e
  unfold canonI at hn
  rw [h] at hn
  simp [e] at hn
theorem canonI_syntax {s : List UInt8} (h : Lib.atoiAll s = Lib.NumEnd.syntax) : canonI s = none ∧ Lib.itoa 0 ≠ s := by
  refine ⟨by unfold canonI; rw [h], fun e => ?_⟩
  rw [← e, atoi_itoa 0 (by omega) (by omega)] at h
  cases h
theorem atoi_three (p : List UInt8) : (∃ v, Lib.atoiAll p = .ok v) ∨ Lib.atoiAll p = Lib.NumEnd.syntax ∨ Lib.atoiAll p = .range := by cases Lib.atoiAll p <;> simp
theorem canonI_range {s : List UInt8} (h : Lib.atoiAll s = .range) : canonI s = none ∧ Lib.itoa (Lib.atoiSat s) ≠ s := by
  refine ⟨by unfold canonI; rw [h], fun e => ?_⟩
  rw [← e] at h
  unfold Lib.atoiSat at h
  split at h
  · rw [atoi_itoa _ (by omega) (by omega)] at h; cases h
  · rw [atoi_itoa _ (by omega) (by omega)] at h; cases h

/-- The pieces of a text between bytes c. -/
def pieces (c : UInt8) : List UInt8 → List (List UInt8)
  | [] => [[]]
  | x :: r => if x = c then [] :: pieces c r else match pieces c r with
    | [] => [[x]]
    | p :: ps => (x :: p) :: ps
theorem pieces_ne (c : UInt8) (s : List UInt8) : pieces c s ≠ [] := by
  cases s with
  | nil => simp [pieces]
  | cons x r =>
    unfold pieces
    split
    · simp
    · split <;> simp
theorem pieces_none {c : UInt8} {s : List UInt8} (h : c ∉ s) : pieces c s = [s] := by
  induction s with
  | nil => rfl
  | cons x r ih =>
    simp only [List.mem_cons, not_or] at h
    unfold pieces
    rw [if_neg (fun e => h.1 e.symm), ih h.2]
theorem pieces_app {c : UInt8} {a : List UInt8} (b : List UInt8) (h : c ∉ a) : pieces c (a ++ c :: b) = a :: pieces c b := by
  induction a with
  | nil => simp [pieces]
  | cons x r ih =>
    simp only [List.mem_cons, not_or] at h
    rw [List.cons_append]
    conv => lhs; unfold pieces
    rw [if_neg (fun e => h.1 e.symm), ih h.2]
theorem pieces_mem {c : UInt8} {s p : List UInt8} (h : p ∈ pieces c s) : c ∉ p ∧ p.length ≤ s.length := by
  induction s generalizing p with
  | nil => simp [pieces] at h; subst h; simp
  | cons x r ih =>
    unfold pieces at h
    split at h
    · rcases List.mem_cons.1 h with rfl | h
      · simp
      · have := ih h; exact ⟨this.1, by simp; omega⟩
    · rename_i hx
      split at h
      · rename_i e; exact absurd e (pieces_ne c r)
      · rename_i q qs e
        rcases List.mem_cons.1 h with rfl | h
        · have := ih (p := q) (by rw [e]; simp)
          exact ⟨by simp only [List.mem_cons, not_or]; exact ⟨fun e => hx e.symm, this.1⟩, by simp; omega⟩
        · have := ih (p := p) (by rw [e]; simp [h]); exact ⟨this.1, by simp; omega⟩
theorem index_split (c : UInt8) (s : List UInt8) : (Lib.indexByte s c = -1 ∧ c ∉ s) ∨ ∃ a b, s = a ++ c :: b ∧ c ∉ a ∧ Lib.indexByte s c = a.length := by
  induction s with
  | nil => exact .inl ⟨rfl, by simp⟩
  | cons x r ih =>
    unfold Lib.indexByte
    by_cases hx : x = c
    · subst hx
      exact .inr ⟨[], r, rfl, by simp, by simp⟩
    · have hxb : (x == c) = false := by simpa using hx
      rcases ih with ⟨h1, h2⟩ | ⟨a, b, h1, h2, h3⟩
      · refine .inl ⟨by rw [hxb, h1]; rfl, ?_⟩
        simp only [List.mem_cons, not_or]; exact ⟨fun e => hx e.symm, h2⟩
      · refine .inr ⟨x :: a, b, by rw [h1]; rfl, ?_, ?_⟩
        · simp only [List.mem_cons, not_or]; exact ⟨fun e => hx e.symm, h2⟩
        · rw [hxb, h3]
          have hn : ((a.length : Int) == -1) = false := by rw [beq_eq_false_iff_ne]; omega
          simp [hn]
/-- What strings.Cut gives at one byte. -/
theorem cut_split (c : UInt8) (s : List UInt8) : (c ∉ s ∧ Lib.cut s [c] = (s, [], false)) ∨ ∃ a b, s = a ++ c :: b ∧ c ∉ a ∧ Lib.cut s [c] = (a, b, true) := by
  rcases index_split c s with ⟨h1, h2⟩ | ⟨a, b, h1, h2, h3⟩
  · refine .inl ⟨h2, ?_⟩
    unfold Lib.cut
    rw [Lib.index_one, h1, if_neg (by omega)]
  · refine .inr ⟨a, b, h1, h2, ?_⟩
    unfold Lib.cut
    rw [Lib.index_one, h3, if_pos (by omega), h1]
    simp
theorem count_split (c : UInt8) : ∀ (n : Nat) (s : List UInt8), s.length ≤ n → Lib.splitK [c] 0 (Lib.count s [c]) s = pieces c s := by
  intro n
  induction n with
  | zero =>
    intro s hs
    obtain rfl : s = [] := List.eq_nil_of_length_eq_zero (by omega)
    rw [Lib.count_miss (by rw [Lib.index_one]; rfl)]; rfl
  | succ n ih =>
    intro s hs
    rcases index_split c s with ⟨h1, h2⟩ | ⟨a, b, h1, h2, h3⟩
    · rw [Lib.count_miss (by rw [Lib.index_one, h1]), pieces_none h2]; rfl
    · have hx : Lib.index s [c] = (a.length : Int) := by rw [Lib.index_one, h3]
      have hd : s.drop (a.length + 1) = b := by rw [h1]; simp
      have ht : s.take (a.length + 0) = a := by rw [h1]; simp
      rw [Lib.count_hit (by simp) hx, Nat.add_comm 1, List.length_singleton, hd]
      unfold Lib.splitK
      have hn : ¬ (Lib.index s [c] == -1) = true := by rw [hx]; simp
      rw [if_neg hn, hx, Int.toNat_natCast, List.length_singleton, hd, ht, ih b (by rw [h1] at hs; simp at hs; omega), h1, pieces_app b h2]
/-- What strings.Split gives at one byte. -/
theorem split_pieces (c : UInt8) (s : ByteArray) : (Lib.splitB ⟨#[c]⟩ 0 (Lib.countB s ⟨#[c]⟩) s).map (·.data.toList) = pieces c s.data.toList := by
  rw [Lib.splitB_data]
  exact count_split c _ _ (Nat.le_refl _)
end Go.Proofs.YtmnjmegejaejlaaDoor
