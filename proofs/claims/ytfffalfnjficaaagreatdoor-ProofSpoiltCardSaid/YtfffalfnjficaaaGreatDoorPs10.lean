/-
  CONTRACTS: strings.Cut, strings.Split and strconv.Atoi in this seat's words.
  CONTRACTS: strconv.Atoi in this seat's words; what the library's variables hold.
-/
import Derived.Test.YtfffalfnjficaaaGreatDoorShelf
import Derived.Test.YtfffalfnjficaaaGreatDoorPs7
import Derived.Test.YtfffalfnjficaaaGreatDoorPs9
import Derived.Test.YtfffalfnjficaaaGreatDoorPs6
namespace Go.Proofs.YtfffalfnjficaaaGreatDoor
open Go.RowKit

/-- The library's variable MaxLen lies where it was. -/
def ML (w : World) : Prop := 0 < w.heap.size ∧ ∃ m, w.cell? ⟨0, 0, none⟩ = some (.int .i64 m)
theorem ML.keep {B : Nat} {w w' : World} (h : ML w) (hb : Below B w w') (hB : 0 < B) : ML w' := by
  obtain ⟨h1, m, h2⟩ := h
  exact ⟨Nat.lt_of_lt_of_le h1 hb.size, m, (hb.cell (p := ⟨0, 0, none⟩) hB).trans h2⟩
/-- The value v is a slice of the texts l. -/
def Txts (w : World) (v : Value) (l : List (List UInt8)) : Prop :=
  ∃ A c, v = .slice A l.length c ∧ l.length ≤ c ∧ c ≤ maxLen ∧ Rd w A (l.map fun s => Value.string ⟨s.toArray⟩)
theorem Txts.keep {w w' : World} {v : Value} {l : List (List UInt8)} (h : Txts w v l) (hb : Below w.heap.size w w') : Txts w' v l := by
  obtain ⟨A, c, h1, h2, h3, h4⟩ := h
  exact ⟨A, c, h1, h2, h3, h4.keep hb⟩
theorem pieces_len (c : UInt8) (s : List UInt8) : (pieces c s).length ≤ s.length + 1 := by
  induction s with
  | nil => simp [pieces]
  | cons x r ih =>
    unfold pieces
    split
    · simp; omega
    · split
      · simp
      · rename_i q qs e
        rw [e] at ih
        simp at ih ⊢; omega
theorem bytes_eta (s : ByteArray) : (⟨s.data.toList.toArray⟩ : ByteArray) = s := by cases s; rfl
theorem splitB_eq (c : UInt8) (l : List UInt8) : Lib.splitB ⟨#[c]⟩ 0 (Lib.countB ⟨l.toArray⟩ ⟨#[c]⟩) ⟨l.toArray⟩ = (pieces c l).map fun s => (⟨s.toArray⟩ : ByteArray) := by
  have h := split_pieces c ⟨l.toArray⟩
  simp only at h
  rw [← h, List.map_map]
  conv => lhs; rw [← List.map_id (Lib.splitB ⟨#[c]⟩ 0 (Lib.countB ⟨l.toArray⟩ ⟨#[c]⟩) ⟨l.toArray⟩)]
  exact List.map_congr_left fun s _ => (bytes_eta s).symm
theorem count_eq (c : UInt8) (l : List UInt8) : Lib.countB ⟨l.toArray⟩ ⟨#[c]⟩ + 1 = (pieces c l).length := by
  have h1 := Lib.splitB_all ⟨#[c]⟩ (Nat.le_refl 1) 0 _ ⟨l.toArray⟩ rfl
  rw [splitB_eq, List.length_map] at h1
  exact h1.symm

theorem split_new (c : UInt8) (l : List UInt8) (w : World) (hl : l.length ≤ 1000000000) (hm : ML w) :
    Calls Tryz.prog 39 #[.string ⟨l.toArray⟩, .string ⟨#[c]⟩] w fun e w' => ∃ k, e = .returned (.slice (some ⟨w.heap.size, 0, none⟩) (pieces c l).length k) ∧ Txts w' (.slice (some ⟨w.heap.size, 0, none⟩) (pieces c l).length k) (pieces c l) ∧ Below w.heap.size w w' := by
  obtain ⟨h0, m, hm⟩ := hm
  refine (Tryz.strings_Split ⟨l.toArray⟩ ⟨#[c]⟩ m w (by show l.toArray.size < _; simp; omega) hm (Nat.le_refl 1)).mono ?_
  rintro e w' ⟨rfl, rfl⟩
  have hp := pieces_len c l
  refine ⟨_, by rw [count_eq], ⟨_, _, rfl, Nat.le_refl _, by unfold maxLen; omega, fun _ => ⟨_, 0, rfl, by simp, fun j u hu => ?_⟩⟩, by go_grown⟩
  have hB := Blk.new w 9 ((Lib.splitB ⟨#[c]⟩ 0 (Lib.countB ⟨l.toArray⟩ ⟨#[c]⟩) ⟨l.toArray⟩).map Value.string).toArray
  rw [Nat.zero_add, hB.cell, List.getElem?_toArray, splitB_eq, List.map_map]
  exact hu
theorem split_any (c : UInt8) (l : List UInt8) (w : World) (hl : l.length ≤ 1000000000) (hm : ML w) :
    Calls Tryz.prog 39 #[.string ⟨l.toArray⟩, .string ⟨#[c]⟩] w fun e w' => ∃ A k, e = .returned (.slice A (pieces c l).length k) ∧ Txts w' (.slice A (pieces c l).length k) (pieces c l) ∧ Below w.heap.size w w' :=
  (split_new c l w hl hm).mono fun _ _ ⟨k, h⟩ => ⟨_, k, h⟩
theorem cut_any (c : UInt8) (l : List UInt8) (w : World) (hl : l.length ≤ 1000000000) (hm : ML w) :
    Calls Tryz.prog 20 #[.string ⟨l.toArray⟩, .string ⟨#[c]⟩] w fun e w' => e = .returned (.tuple #[.string ⟨(Lib.cut l [c]).1.toArray⟩, .string ⟨(Lib.cut l [c]).2.1.toArray⟩, .bool (Lib.cut l [c]).2.2]) ∧ ∃ n, w' = w.drewN n := by
  obtain ⟨h0, m, hm⟩ := hm
  exact (Tryz.strings_Cut ⟨l.toArray⟩ ⟨#[c]⟩ m w (by show l.toArray.size < _; simp; omega) hm).mono fun e w' h => h
theorem cut_fromT (A : Option Addr) (n c k : Nat) (hk : k ≤ n) (hn : n ≤ c) :
    ∃ dp, (∀ w, (Instr.slice 66 (.slice A n c) (some (.int .i64 (k : Int))) none none).run Tryz.prog w = .ok (.slice dp (n - k) (c - k)) w) ∧ (k < n → dp = A.map fun a => a.add k) := by
  refine ⟨if c = k then A else A.map fun a => a.add k, fun w => ?_, fun h => by rw [if_neg (by omega)]⟩
  rw [run_slice_l (P := Tryz.prog) (w := w) 66 _ n c (by kernel_rfl) .i64 (k : Int) (by omega) (by omega), show (sizeOf (Tryz.prog.elem 66)).run Tryz.prog w = .ok 1 w by kernel_rfl]
  simp only [Result.andThen, sliced, Int.toNat_natCast, Nat.mul_one]
end Go.Proofs.YtfffalfnjficaaaGreatDoor

namespace Go.Proofs.YtfffalfnjficaaaGreatDoor
open Go.RowKit

/-- An error, or none. -/
def IsErr (v : Value) : Prop := v = .nilIface ∨ ∃ te pe, v = .iface te pe
def GB (B : Nat) : Prop := 0 < B ∧ 1 < B ∧ 2 < B ∧ 3 < B
/-- What the library's variables hold. -/
structure PL (w : World) : Prop where
  gb : GB w.heap.size
  ml : ML w
  tab : Tab w
  e1 : ∃ v, w.cell? ⟨1, 0, none⟩ = some v ∧ IsErr v
  e2 : ∃ v, w.cell? ⟨2, 0, none⟩ = some v ∧ IsErr v
theorem PL.keep {B : Nat} {w w' : World} (h : PL w) (hb : Below B w w') (hB : GB B) : PL w' := by
  obtain ⟨v, h1, h2⟩ := h.e1
  obtain ⟨u, h3, h4⟩ := h.e2
  obtain ⟨b0, b1, b2, b3⟩ := hB
  obtain ⟨g0, g1, g2, g3⟩ := h.gb
  have hs := hb.size
  exact ⟨⟨by omega, by omega, by omega, by omega⟩, h.ml.keep hb b0, h.tab.keep hb b3, ⟨v, (hb.cell (p := ⟨1, 0, none⟩) b1).trans h1, h2⟩, ⟨u, (hb.cell (p := ⟨2, 0, none⟩) b2).trans h3, h4⟩⟩
theorem PL.below {w w' : World} (h : PL w) (hb : Below w.heap.size w w') : PL w' := h.keep hb h.gb
theorem PL.grown {w w' : World} {g B : Nat} (h : PL w) (hg : w.grownBy w' (some g)) (hB : B ≤ g) (hs : B ≤ w.heap.size) (hB2 : GB B) : PL w' :=
  h.keep (grownBy_below hg hs fun k e => by injection e with e; omega) hB2

theorem atoi_ok (p : List UInt8) (v : Int) (w : World) (h : Lib.atoiAll p = .ok v) (hl : p.length ≤ 1000000000) :
    Calls Tryz.prog 40 #[.string ⟨p.toArray⟩] w fun e w' => e = .returned (.tuple #[.int .i64 v, .nilIface]) ∧ Below w.heap.size w w' := by
  refine (Tryz.strconv_Atoi_ok ⟨p.toArray⟩ (by show p.toArray.size ≤ _; simp; omega) v h w).mono ?_
  rintro e w' ⟨rfl, hw⟩
  refine ⟨rfl, ?_⟩
  rcases hw with rfl | ⟨t, rfl⟩
  · exact Below.refl _ _
  · exact Lib.bytesWorld_below _ _ _
/-- What Atoi does to a text that is no number. -/
def AtoiBad (p : List UInt8) (w : World) (e : Ending) (w' : World) : Prop :=
  ∃ v N, e = .returned (.tuple #[.int .i64 v, .iface 122 (.pointer (some ⟨N, 0, none⟩))]) ∧ Lib.itoa v ≠ p ∧ I64 v ∧ Below w.heap.size w w'
theorem atoi_bad (p : List UInt8) (w : World) (h : ∀ v, Lib.atoiAll p ≠ .ok v) (hl : p.length ≤ 1000000000) (hp : PL w) : Calls Tryz.prog 40 #[.string ⟨p.toArray⟩] w (AtoiBad p w) := by
  rcases atoi_three p with ⟨v, hs⟩ | hs | hs
  · exact absurd hs (h v)
  · obtain ⟨ev, h1, h2⟩ := hp.e1
    refine (Tryz.strconv_Atoi_syntax ⟨p.toArray⟩ (by show p.toArray.size ≤ _; simp; omega) hs ev w h1 h2).mono ?_
    rintro e w' ⟨N, rfl, _, _, hb⟩
    exact ⟨0, N, rfl, (canonI_syntax hs).2, by unfold I64; omega, hb⟩
  · obtain ⟨ev, h1, h2⟩ := hp.e2
    refine (Tryz.strconv_Atoi_range ⟨p.toArray⟩ (by show p.toArray.size ≤ _; simp; omega) hs ev w h1 h2).mono ?_
    rintro e w' ⟨N, rfl, _, _, hb⟩
    exact ⟨Lib.atoiSat p, N, rfl, (canonI_range hs).2, by unfold I64 Lib.atoiSat; split <;> omega, hb⟩
end Go.Proofs.YtfffalfnjficaaaGreatDoor
