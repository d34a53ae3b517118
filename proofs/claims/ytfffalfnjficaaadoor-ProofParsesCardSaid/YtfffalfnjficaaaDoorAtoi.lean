/-
  CONTRACTS: strconv.Atoi in this seat's words; what the library's variables hold.
-/
import Derived.Test.YtfffalfnjficaaaDoorCutSplit
namespace Go.Proofs.YtfffalfnjficaaaDoor
open Go.RowKit

/-- An error, or none. -/
def IsErr (v : Value) : Prop := v = .nilIface ∨ ∃ te pe, v = .iface te pe
def GB (B : Nat) : Prop := 0 < B ∧ 1 < B ∧ 2 < B ∧ 3 < B
/-- What the library's variables hold. -/
structure PL (w : World) : Prop where
  gb : GB w.heap.size
  ml : ML w
  tab : Tab w
  e1 : ∃ v, w.cell? ⟨1, 0, none⟩ = some v ∧ IsErr v
  e2 : ∃ v, w.cell? ⟨2, 0, none⟩ = some v ∧ IsErr v
theorem PL.keep {B : Nat} {w w' : World} (h : PL w) (hb : Below B w w') (hB : GB B) : PL w' := by
  obtain ⟨v, h1, h2⟩ := h.e1
  obtain ⟨u, h3, h4⟩ := h.e2
  obtain ⟨b0, b1, b2, b3⟩ := hB
  obtain ⟨g0, g1, g2, g3⟩ := h.gb
  have hs := hb.size
  exact ⟨⟨by omega, by omega, by omega, by omega⟩, h.ml.keep hb b0, h.tab.keep hb b3, ⟨v, (hb.cell (p := ⟨1, 0, none⟩) b1).trans h1, h2⟩, ⟨u, (hb.cell (p := ⟨2, 0, none⟩) b2).trans h3, h4⟩⟩
theorem PL.below {w w' : World} (h : PL w) (hb : Below w.heap.size w w') : PL w' := h.keep hb h.gb
theorem PL.grown {w w' : World} {g B : Nat} (h : PL w) (hg : w.grownBy w' (some g)) (hB : B ≤ g) (hs : B ≤ w.heap.size) (hB2 : GB B) : PL w' :=
  h.keep (grownBy_below hg hs fun k e => by injection e with e; omega) hB2

theorem atoi_ok (p : List UInt8) (v : Int) (w : World) (h : Lib.atoiAll p = .ok v) (hl : p.length ≤ 1000000) :
    Calls Tryd.prog 46 #[.string ⟨p.toArray⟩] w fun e w' => e = .returned (.tuple #[.int .i64 v, .nilIface]) ∧ Below w.heap.size w w' := by
  refine (Tryd.strconv_Atoi_ok ⟨p.toArray⟩ (by show p.toArray.size ≤ _; simp; omega) v h w).mono ?_
  rintro e w' ⟨rfl, hw⟩
  refine ⟨rfl, ?_⟩
  rcases hw with rfl | ⟨t, rfl⟩
  · exact Below.refl _ _
  · exact Lib.bytesWorld_below _ _ _
/-- What Atoi does to a text that is no number. -/
def AtoiBad (p : List UInt8) (w : World) (e : Ending) (w' : World) : Prop :=
  ∃ v N, e = .returned (.tuple #[.int .i64 v, .iface 125 (.pointer (some ⟨N, 0, none⟩))]) ∧ Lib.itoa v ≠ p ∧ I64 v ∧ Below w.heap.size w w'
theorem atoi_bad (p : List UInt8) (w : World) (h : ∀ v, Lib.atoiAll p ≠ .ok v) (hl : p.length ≤ 1000000) (hp : PL w) : Calls Tryd.prog 46 #[.string ⟨p.toArray⟩] w (AtoiBad p w) := by
  rcases atoi_three p with ⟨v, hs⟩ | hs | hs
  · exact absurd hs (h v)
  · obtain ⟨ev, h1, h2⟩ := hp.e1
    refine (Tryd.strconv_Atoi_syntax ⟨p.toArray⟩ (by show p.toArray.size ≤ _; simp; omega) hs ev w h1 h2).mono ?_
    rintro e w' ⟨N, rfl, _, _, hb⟩
    exact ⟨0, N, rfl, (canonI_syntax hs).2, by unfold I64; omega, hb⟩
  · obtain ⟨ev, h1, h2⟩ := hp.e2
    refine (Tryd.strconv_Atoi_range ⟨p.toArray⟩ (by show p.toArray.size ≤ _; simp; omega) hs ev w h1 h2).mono ?_
    rintro e w' ⟨N, rfl, _, _, hb⟩
    exact ⟨Lib.atoiSat p, N, rfl, (canonI_range hs).2, by unfold I64 Lib.atoiSat; split <;> omega, hb⟩
end Go.Proofs.YtfffalfnjficaaaDoor
