/-
  CONTRACTS: strconv.ParseInt, strconv.FormatInt in this seat's words; what the variables hold.
-/
import Derived.Test.YtmnjmegejaejlaaDoorTT7
import Derived.Test.YtmnjmegejaejlaaDoorTT9
import Derived.Test.YtmnjmegejaejlaaDoorTT5
import Derived.Lib.ParseIntBTie
namespace Go.Proofs.YtmnjmegejaejlaaDoor
open Go.RowKit

/-- An error, or none. -/
def IsErr (v : Value) : Prop := v = .nilIface ∨ ∃ te pe, v = .iface te pe
def GT (B : Nat) : Prop := 1 < B ∧ 4 < B ∧ 5 < B ∧ 2 < B ∧ 0 < B ∧ 3 < B
/-- What the variables hold. -/
structure PT (w : World) : Prop where
  gb : GT w.heap.size
  ml : ML w
  tab : Tab w
  e1 : ∃ v, w.cell? ⟨4, 0, none⟩ = some v ∧ IsErr v
  e2 : ∃ v, w.cell? ⟨5, 0, none⟩ = some v ∧ IsErr v
  kd : ∀ (k : Nat) (s : List UInt8), ([] :: kindsL)[k]? = some s → w.cell? ⟨0, k, none⟩ = some (.string ⟨s.toArray⟩)
  kw : ∀ (k : Nat) (s : List UInt8), keysL[k]? = some s → w.cell? ⟨3, k, none⟩ = some (.string ⟨s.toArray⟩)
theorem PT.keep {B : Nat} {w w' : World} (h : PT w) (hb : Below B w w') (hB : GT B) : PT w' := by
  obtain ⟨v, h1, h2⟩ := h.e1
  obtain ⟨u, h3, h4⟩ := h.e2
  obtain ⟨b0, b1, b2, b3, b4, b5⟩ := hB
  obtain ⟨g0, g1, g2, g3, g4, g5⟩ := h.gb
  have hs := hb.size
  exact ⟨⟨by omega, by omega, by omega, by omega, by omega, by omega⟩, h.ml.keep hb b0, h.tab.keep hb b3, ⟨v, (hb.cell (p := ⟨4, 0, none⟩) b1).trans h1, h2⟩, ⟨u, (hb.cell (p := ⟨5, 0, none⟩) b2).trans h3, h4⟩,
    fun k s hk => (hb.cell (p := ⟨0, k, none⟩) b4).trans (h.kd k s hk), fun k s hk => (hb.cell (p := ⟨3, k, none⟩) b5).trans (h.kw k s hk)⟩
theorem PT.below {w w' : World} (h : PT w) (hb : Below w.heap.size w w') : PT w' := h.keep hb h.gb
theorem PT.grown {w w' : World} {g B : Nat} (h : PT w) (hg : w.grownBy w' (some g)) (hB : B ≤ g) (hs : B ≤ w.heap.size) (hB2 : GT B) : PT w' :=
  h.keep (grownBy_below hg hs fun k e => by injection e with e; omega) hB2

theorem pint_ok (p : List UInt8) (v : Int) (w : World) (h : Lib.atoiAll p = .ok v) (hl : p.length ≤ 1000000000) :
    Calls Tryd.prog 51 #[.string ⟨p.toArray⟩, .int .i64 10, .int .i64 64] w fun e w' => e = .returned (.tuple #[.int .i64 v, .nilIface]) ∧ Below w.heap.size w w' := by
  refine (Tryd.strconv_ParseInt_10_at64_ok ⟨p.toArray⟩ (by show p.toArray.size ≤ _; simp; omega) v (by rw [Lib.parseIntB_64]; exact h) w).mono ?_
  rintro e w' ⟨rfl, hw⟩
  refine ⟨rfl, ?_⟩
  rcases hw with rfl | ⟨t, rfl⟩
  · exact Below.refl _ _
  · exact Lib.bytesWorld_below _ _ _
theorem intSat_64 (p : List UInt8) : Lib.intSat 64 p = Lib.atoiSat p := rfl
/-- What ParseInt does to a text that is no number. -/
def PIntBad (p : List UInt8) (w : World) (e : Ending) (w' : World) : Prop :=
  ∃ v N, e = .returned (.tuple #[.int .i64 v, .iface 137 (.pointer (some ⟨N, 0, none⟩))]) ∧ Lib.itoa v ≠ p ∧ I64 v ∧ Below w.heap.size w w'
theorem pint_bad (p : List UInt8) (w : World) (h : ∀ v, Lib.atoiAll p ≠ .ok v) (hl : p.length ≤ 1000000000) (hp : PT w) : Calls Tryd.prog 51 #[.string ⟨p.toArray⟩, .int .i64 10, .int .i64 64] w (PIntBad p w) := by
  rcases atoi_three p with ⟨v, hs⟩ | hs | hs
  · exact absurd hs (h v)
  · obtain ⟨ev, h1, h2⟩ := hp.e1
    refine (Tryd.strconv_ParseInt_10_at64_syntax ⟨p.toArray⟩ (by show p.toArray.size ≤ _; simp; omega) (by rw [Lib.parseIntB_64]; exact hs) ev w h1 h2).mono ?_
    rintro e w' ⟨N, rfl, _, _, hb⟩
    exact ⟨0, N, rfl, (canonI_syntax hs).2, by unfold I64; omega, hb⟩
  · obtain ⟨ev, h1, h2⟩ := hp.e2
    refine (Tryd.strconv_ParseInt_10_at64_range ⟨p.toArray⟩ (by show p.toArray.size ≤ _; simp; omega) (by rw [Lib.parseIntB_64]; exact hs) ev w h1 h2).mono ?_
    rintro e w' ⟨N, rfl, _, _, hb⟩
    exact ⟨Lib.atoiSat p, N, rfl, (canonI_range hs).2, by unfold I64 Lib.atoiSat; split <;> omega, hb⟩
theorem fint_any (n : Int) (w : World) (hn : I64 n) (hT : Tab w) :
    Calls Tryd.prog 24 #[.int .i64 n, .int .i64 10] w fun e w' => e = .returned (.string ⟨(Lib.itoa n).toArray⟩) ∧ Below w.heap.size w w' := by
  refine (Tryd.strconv_FormatInt_10 n hn.1 hn.2 w hT).mono ?_
  rintro e w' ⟨rfl, k, os, rfl⟩
  exact ⟨rfl, below_grow w k os⟩
end Go.Proofs.YtmnjmegejaejlaaDoor
