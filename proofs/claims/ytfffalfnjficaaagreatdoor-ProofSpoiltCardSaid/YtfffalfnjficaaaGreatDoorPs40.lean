/-
  WORDS: formulas made of numbers are among the asked ones.
  WALK: interleavescene.Spoil.
-/
import Derived.Test.YtfffalfnjficaaaGreatDoorPs21
import Derived.Test.YtfffalfnjficaaaGreatDoorPs39
import Derived.Test.YtfffalfnjficaaaGreatDoorPs5
import Derived.Laws.IdiomStrings
import Derived.Laws.BytesString
import Derived.Laws.Concat
import Derived.Laws.Strings2
import Derived.Laws.Strings3
import Derived.Deep.RegionHeld3
import Derived.Deep.Cut
import Derived.Deep.RegionLaw
namespace Go.Proofs.YtfffalfnjficaaaGreatDoor
open Go.RowKit

theorem SmallF.asked {a b c : Int} {f : Form} {l : List Stp} (h : SmallF a b c f) (h1 : l.length ≤ 100000) (h2 : ∀ s ∈ l, s.lits.length ≤ 1000000) : Asked f l :=
  ⟨h.valid, fun x hx => by have := (h.2.2.2.2.2 x hx).2.1; omega, h1, h2⟩
theorem SmallF.pos {a b c : Int} {f : Form} (h : SmallF a b c f) : 0 < f.bools ∧ 0 < f.atoms.length := by
  obtain ⟨h1, h2, h3, _⟩ := h
  constructor <;> omega
end Go.Proofs.YtfffalfnjficaaaGreatDoor

namespace Go.Proofs.YtfffalfnjficaaaGreatDoor
open Go.RowKit

/-- What Spoil returns: a text that is not much longer. -/
def SpoilRet (w : World) (n : Nat) (e : Ending) (w' : World) : Prop := ∃ t : ByteArray, e = .returned (.string t) ∧ t.size ≤ 2 * n + 1 ∧ Below w.heap.size w w'
theorem one_byte (w : World) (c : Int) (hc : 0 ≤ c ∧ c ≤ 255) (g : Nat) (h : w.cell? ⟨g, 0, none⟩ = some (.int .u8 c)) :
    (convert 23 9 (.slice (some ⟨g, 0, none⟩) 1 1)).run Tryz.prog w = .ok (.string ⟨#[UInt8.ofNat c.toNat]⟩) w := by
  have hn : ((UInt8.ofNat c.toNat).toNat : Int) = c := by
    rw [UInt8.toNat_ofNat']; omega
  exact run_convert_bytes_back (P := Tryz.prog) w 23 9 5 ⟨g, 0, none⟩ 1 [UInt8.ofNat c.toNat] Tryz.underlying23 Tryz.underlying5 Tryz.underlying9 (by
    intro j hj
    obtain rfl : j = 0 := by simp at hj; omega
    rw [List.getElem_cons_zero, hn]
    exact h)
set_option maxRecDepth 100000 in
set_option maxHeartbeats 4000000 in
theorem spoil_any (s : ByteArray) (a h c : Int) (w : World) (ha : 0 ≤ a ∧ a ≤ 65535) (hh : 0 ≤ h ∧ h ≤ 65535) (hc : 0 ≤ c ∧ c ≤ 255) (hl : s.size ≤ 1000000) :
    Calls Tryz.prog 5 #[.string s, .int .u16 a, .int .u16 h, .int .u8 c] w (SpoilRet w s.size) := by
  have hcv := one_byte (w.alloc (.cells #[.int .u8 c] 5)) c hc w.heap.size (by simp [World.cell?_alloc_mark])
  have hcv2 := one_byte (w.drew.alloc (.cells #[.int .u8 c] 5)) c hc w.heap.size (World.cell?_alloc_mark w.drew #[.int .u8 c] 5 (0, 0) 0)
  have hcv3 := one_byte (w.alloc (.cells #[.int .u8 c] 5)).drew c hc w.heap.size (World.cell?_alloc_mark w #[.int .u8 c] 5 (0, 0) 0)
  go_enter Tryz.func5, Tryz.ntmps5
  by_cases hs : s.size = 0
  · have q0 : (s.toList == []) = true := by
      rw [beq_iff_eq, ByteArray.toList_eq]; exact List.eq_nil_of_length_eq_zero (by simpa using hs)
    go_wp2_with fail
    go_ret
    exact ⟨_, rfl, by show 1 ≤ _; omega, (Below.refl _ _).alloc (Nat.le_refl _) _⟩
  · have q0 : (s.toList == []) = false := by
      rw [beq_eq_false_iff_ne, ByteArray.toList_eq]; intro e; exact hs (by have := congrArg List.length e; simpa using this)
    obtain ⟨i, hi, hil⟩ : ∃ i : Nat, a % (s.size : Int) = i ∧ i < s.size := ⟨(a % (s.size : Int)).toNat, by have := Int.emod_nonneg a (show (s.size : Int) ≠ 0 by omega); omega, by have := Int.emod_lt_of_pos a (show 0 < (s.size : Int) by omega); have := Int.emod_nonneg a (show (s.size : Int) ≠ 0 by omega); omega⟩
    have b1 : 0 ≤ (i : Int) ∧ (i : Int) ≤ s.size := by omega
    have b2 : 0 ≤ (i : Int) + 1 ∧ (i : Int) + 1 ≤ s.size := by omega
    rcases (show h % 6 = 0 ∨ h % 6 = 1 ∨ h % 6 = 2 ∨ h % 6 = 3 ∨ h % 6 = 4 ∨ h % 6 = 5 by omega) with h6 | h6 | h6 | h6 | h6 | h6
    · go_upto_region 6 with fail
      go_region
      go_wp2_with fail
      go_ret
      exact ⟨_, rfl, by simp [ByteArray.size_append, ByteArray.size_extract]; show _ + 1 + _ ≤ _; omega, bdrew ((Below.refl _ _).alloc (Nat.le_refl _) _) 1⟩
    · go_upto_region 8 with fail
      go_region
      go_wp2_with fail
      go_ret
      exact ⟨_, rfl, by simp [ByteArray.size_append, ByteArray.size_extract]; show _ + 1 + _ ≤ _; omega, bdrew ((Below.refl _ _).alloc (Nat.le_refl _) _) 1⟩
    · go_upto_region 10 with fail
      go_region
      go_wp2_with fail
      go_ret
      exact ⟨_, rfl, by simp [ByteArray.size_append, ByteArray.size_extract]; omega, bdrew (Below.refl _ _) 1⟩
    · go_wp2_with fail
      go_ret
      exact ⟨_, rfl, by simp [ByteArray.size_extract]; omega, Below.refl _ _⟩
    · go_wp2_with fail
      go_ret
      exact ⟨_, rfl, by simp [ByteArray.size_append, ByteArray.size_extract]; omega, Below.refl _ _⟩
    · go_wp2_with fail
      go_ret
      exact ⟨_, rfl, by omega, Below.refl _ _⟩
/-- The same, by lists. -/
theorem spoil_list (s : List UInt8) (a h c : Int) (w : World) (ha : 0 ≤ a ∧ a ≤ 65535) (hh : 0 ≤ h ∧ h ≤ 65535) (hc : 0 ≤ c ∧ c ≤ 255) (hl : s.length ≤ 1000000) :
    Calls Tryz.prog 5 #[.string ⟨s.toArray⟩, .int .u16 a, .int .u16 h, .int .u8 c] w fun e w' => ∃ t : List UInt8, e = .returned (.string ⟨t.toArray⟩) ∧ t.length ≤ 2 * s.length + 1 ∧ Below w.heap.size w w' := by
  refine (spoil_any ⟨s.toArray⟩ a h c w ha hh hc hl).mono ?_
  rintro e w' ⟨⟨⟨l⟩⟩, rfl, h1, h2⟩
  exact ⟨l, rfl, h1, h2⟩
end Go.Proofs.YtfffalfnjficaaaGreatDoor
