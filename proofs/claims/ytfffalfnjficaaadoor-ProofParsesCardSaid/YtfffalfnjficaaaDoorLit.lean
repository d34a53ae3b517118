/-
  WORDS: slices that a call has laid by itself (composite literals).
-/
import Derived.Test.YtfffalfnjficaaaDoorForm
namespace Go.Proofs.YtfffalfnjficaaaDoor
open Go.RowKit

theorem ints_lit {w w' : World} {g : Nat} {xs : List Int} (hb : Blk w g 3 (xs.map (Value.int .i64)).toArray) (hk : Below w.heap.size w w') (hx : ∀ x ∈ xs, I64 x) (hl : xs.length ≤ maxLen) :
    Ints w' (.slice (some ⟨g, 0, none⟩) xs.length xs.length) xs := by
  have hb' := hb.keep hk
  refine ⟨_, _, rfl, Nat.le_refl _, hl, hx, fun _ => ⟨g, 0, rfl, hb'.lt, fun j u hu => ?_⟩⟩
  rw [hb'.cell, Nat.zero_add]
  simpa using hu

theorem diffs_lit {w : World} {g : Nat} {ds : List Diff} (hb : Blk w g 48 (ds.flatMap Diff.cells).toArray) (hx : ∀ d ∈ ds, d.ok) (hl : ds.length ≤ maxLen) :
    Diffs w (.slice (some ⟨g, 0, none⟩) ds.length ds.length) ds := by
  refine ⟨_, _, rfl, Nat.le_refl _, hl, hx, fun _ => ⟨g, 0, rfl, hb.lt, fun j u hu => ?_⟩⟩
  rw [hb.cell, Nat.zero_add]
  simpa using hu

theorem mat_lit {w : World} {g : Nat} {vs : List Value} {xss : List (List Int)} (hb : Blk w g 49 vs.toArray) (hl : vs.length = xss.length) (hm : xss.length ≤ maxLen)
    (hi : ∀ (k : Nat) (u : Value) (xs : List Int), vs[k]? = some u → xss[k]? = some xs → Ints w u xs) :
    Mat w (.slice (some ⟨g, 0, none⟩) xss.length xss.length) xss := by
  refine ⟨_, _, vs, rfl, Nat.le_refl _, hm, hl, fun _ => ⟨g, 0, rfl, hb.lt, fun j u hu => ?_⟩, hi⟩
  rw [hb.cell, Nat.zero_add]
  simpa using hu

end Go.Proofs.YtfffalfnjficaaaDoor
