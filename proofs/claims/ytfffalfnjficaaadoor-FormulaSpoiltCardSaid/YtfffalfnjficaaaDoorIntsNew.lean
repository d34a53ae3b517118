/-
  WORDS: a slice of numbers in a block of its own.
-/
import Derived.Test.YtfffalfnjficaaaDoorBuild
import Derived.Test.YtfffalfnjficaaaDoorWords
namespace Go.Proofs.YtfffalfnjficaaaDoor
open Go.RowKit

theorem ints_new {w w' : World} {B b g : Nat} {xs : List Int} (hk : Kept B b w w') (hb : Blk w g 3 (xs.map (Value.int .i64)).toArray) (hg : g ≠ b) (hx : ∀ x ∈ xs, I64 x) (hl : xs.length ≤ maxLen) :
    Ints w' (.slice (some ⟨g, 0, none⟩) xs.length xs.length) xs := by
  have h := hk.others g _ hb (fun e => hg (by injection e)) (fun c fz e => by injection e with _ e2; exact absurd e2 (by decide))
  have hb' : Blk w' g 3 (xs.map (Value.int .i64)).toArray := h
  refine ⟨_, _, rfl, Nat.le_refl _, hl, hx, fun _ => ⟨g, 0, rfl, hb'.lt, fun j u hu => ?_⟩⟩
  rw [hb'.cell, Nat.zero_add]
  simpa using hu
end Go.Proofs.YtfffalfnjficaaaDoor
