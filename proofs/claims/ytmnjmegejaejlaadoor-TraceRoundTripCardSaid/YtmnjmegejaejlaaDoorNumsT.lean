/-
  PLAIN LAW: the text of numbers and its pieces.
-/
import Derived.Test.YtmnjmegejaejlaaDoorNumsL
import Derived.Test.YtmnjmegejaejlaaDoorTextP
namespace Go.Proofs.YtmnjmegejaejlaaDoor

theorem digits_all (u : Nat) : ∀ c ∈ Lib.decDigits u, 48 ≤ c.toNat ∧ c.toNat ≤ 57 := by
  induction u using Nat.strongRecOn with
  | ind u ih =>
    by_cases h : u < 10
    · rw [Lib.decDigits_one h]
      intro c hc
      rw [List.mem_singleton] at hc
      subst hc
      rw [digit_toNat h]; omega
    · rw [Lib.decDigits, dif_neg h]
      intro c hc
      rcases List.mem_append.1 hc with hc | hc
      · exact ih (u / 10) (by omega) c hc
      · rw [List.mem_singleton] at hc
        subst hc
        rw [digit_toNat (by omega)]; omega
theorem itoa_all (v : Int) : ∀ c ∈ Lib.itoa v, 45 ≤ c.toNat := by
  intro c hc
  unfold Lib.itoa at hc
  split at hc
  · rcases List.mem_cons.1 hc with rfl | hc
    · decide
    · have := (digits_all _ c hc).1; omega
  · have := (digits_all _ c hc).1; omega
theorem itoa_not (v : Int) {b : UInt8} (hb : b.toNat < 45) : b ∉ Lib.itoa v := fun h => by
  have := itoa_all v b h; omega
theorem nums_not (l : List Int) {b : UInt8} (hb : b.toNat < 45) (h32 : b ≠ 32) : b ∉ numsText l := by
  induction l with
  | nil => simp [numsText]
  | cons x r ih =>
    unfold numsText at ih ⊢
    rw [List.flatMap_cons]
    intro h
    rcases List.mem_append.1 h with h | h
    · rcases List.mem_cons.1 h with h | h
      · exact h32 h
      · exact itoa_not x hb h
    · exact ih h
theorem pieces_nums (l : List Int) : ∀ word : List UInt8, (32 : UInt8) ∉ word → pieces 32 (word ++ numsText l) = word :: l.map Lib.itoa := by
  induction l with
  | nil => intro word h; simp [numsText, pieces_none h]
  | cons x r ih =>
    intro word h
    have e : word ++ numsText (x :: r) = word ++ 32 :: (Lib.itoa x ++ numsText r) := by simp [numsText]
    rw [e, pieces_app _ h, ih (Lib.itoa x) (itoa_not x (by decide))]
    rfl
theorem mapM_itoa (l : List Int) (h : ∀ x ∈ l, I64 x) : (l.map Lib.itoa).mapM canonI = some l := by
  induction l with
  | nil => rfl
  | cons x r ih =>
    have h1 := h x (by simp)
    rw [List.map_cons, List.mapM_cons, canonI_itoa x h1.1 (by have := h1.2; omega), ih fun y hy => h y (by simp [hy])]
    rfl
theorem numsW_text (word : List UInt8) (l : List Int) (h : ∀ x ∈ l, I64 x) : numsW word l.length (word :: l.map Lib.itoa) = some l := by
  show (if word = word ∧ (l.map Lib.itoa).length = l.length then (l.map Lib.itoa).mapM canonI else none) = some l
  rw [if_pos ⟨rfl, by simp⟩, mapM_itoa l h]
theorem line_split (word : List UInt8) (l : List Int) (rest : List UInt8) : lineText word l ++ rest = (word ++ numsText l) ++ 10 :: rest := by simp [lineText]
theorem line_not (word : List UInt8) (l : List Int) (h : (10 : UInt8) ∉ word) : (10 : UInt8) ∉ word ++ numsText l := by
  intro hc
  rcases List.mem_append.1 hc with hc | hc
  · exact h hc
  · exact nums_not l (by decide) (by decide) hc
end Go.Proofs.YtmnjmegejaejlaaDoor
