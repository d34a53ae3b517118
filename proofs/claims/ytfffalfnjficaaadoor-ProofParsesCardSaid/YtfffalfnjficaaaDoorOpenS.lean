/-
  HOW AN ARGUMENT'S READING GIVES THE WORDS: a text; small numbers without a sign.
-/
import Derived.Test.YtfffalfnjficaaaDoorOpenP
namespace Go.Proofs.YtfffalfnjficaaaDoor
open Go.ChangeShapes Go.WideShapes Go.ChangeAt Go.RowKit Go.Deep Go.Joins

section
variable {H : Type} {enc : TypeId × Value → H} {P : Program} {w : World}
theorem okWide_text {b0 : Nat} {t : TypeId} {v : Value} (ht : P.underlying t = some .string) (h : Value.okWide P w .any b0 t v) : ∃ b, v = .string b := by
  simp only [Value.okWide, ht, Cell.okWide] at h
  cases v <;> simp_all [Cell.ok]
theorem rd_str {b0 : Nat} {t : TypeId} {v : Value} (ht : P.underlying t = some .string) (hv : Value.okWide P w .any b0 t v) : ∃ s : List UInt8, v = .string ⟨s.toArray⟩ := by
  obtain ⟨b, rfl⟩ := okWide_text ht hv
  exact ⟨b.data.toList, by simp⟩
theorem rd_u16 {b0 : Nat} {t : TypeId} {v : Value} {d : DataW H} {p : List MemPlace} (ht : P.underlying t = some (.int .u16)) (hv : Value.okWide P w .any b0 t v) (h : DataW.Trod enc P w 0 (fun _ => true) true t v d p) : ∃ n, v = .int .u16 n ∧ 0 ≤ n ∧ n ≤ 65535 := by
  obtain ⟨n, h1, h2⟩ := rd_num ht hv h
  exact ⟨n, h1, by simpa [Lit.wf, IntKind.min, IntKind.max, IntKind.signed, IntKind.bits] using h2⟩
end
end Go.Proofs.YtfffalfnjficaaaDoor
