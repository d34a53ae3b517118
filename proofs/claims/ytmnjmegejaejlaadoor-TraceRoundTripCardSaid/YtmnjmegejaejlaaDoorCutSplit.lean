/-
  CONTRACTS: strings.Cut, strings.Split and strconv.Atoi in this seat's words.
-/
import Derived.Test.YtmnjmegejaejlaaDoorShelf
import Derived.Test.YtmnjmegejaejlaaDoorCanon
import Derived.Test.YtmnjmegejaejlaaDoorOwnG
import Derived.Test.YtmnjmegejaejlaaDoorTextP
namespace Go.Proofs.YtmnjmegejaejlaaDoor
open Go.RowKit

/-- The library's variable MaxLen lies where it was. -/
def ML (w : World) : Prop := 1 < w.heap.size ∧ ∃ m, w.cell? ⟨1, 0, none⟩ = some (.int .i64 m)
theorem ML.keep {B : Nat} {w w' : World} (h : ML w) (hb : Below B w w') (hB : 1 < B) : ML w' := by
  obtain ⟨h1, m, h2⟩ := h
  exact ⟨Nat.lt_of_lt_of_le h1 hb.size, m, (hb.cell (p := ⟨1, 0, none⟩) hB).trans h2⟩
/-- The value v is a slice of the texts l. -/
def Txts (w : World) (v : Value) (l : List (List UInt8)) : Prop :=
  ∃ A c, v = .slice A l.length c ∧ l.length ≤ c ∧ c ≤ maxLen ∧ Rd w A (l.map fun s => Value.string ⟨s.toArray⟩)
theorem Txts.keep {w w' : World} {v : Value} {l : List (List UInt8)} (h : Txts w v l) (hb : Below w.heap.size w w') : Txts w' v l := by
  obtain ⟨A, c, h1, h2, h3, h4⟩ := h
  exact ⟨A, c, h1, h2, h3, h4.keep hb⟩
theorem pieces_len (c : UInt8) (s : List UInt8) : (pieces c s).length ≤ s.length + 1 := by
  induction s with
  | nil => simp [pieces]
  | cons x r ih =>
    unfold pieces
    split
    · simp; omega
    · split
      · simp
      · rename_i q qs e
        rw [e] at ih
        simp at ih ⊢; omega
theorem bytes_eta (s : ByteArray) : (⟨s.data.toList.toArray⟩ : ByteArray) = s := by cases s; rfl
theorem splitB_eq (c : UInt8) (l : List UInt8) : Lib.splitB ⟨#[c]⟩ 0 (Lib.countB ⟨l.toArray⟩ ⟨#[c]⟩) ⟨l.toArray⟩ = (pieces c l).map fun s => (⟨s.toArray⟩ : ByteArray) := by
  have h := split_pieces c ⟨l.toArray⟩
  simp only at h
  rw [← h, List.map_map]
  conv => lhs; rw [← List.map_id (Lib.splitB ⟨#[c]⟩ 0 (Lib.countB ⟨l.toArray⟩ ⟨#[c]⟩) ⟨l.toArray⟩)]
  exact List.map_congr_left fun s _ => (bytes_eta s).symm
theorem count_eq (c : UInt8) (l : List UInt8) : Lib.countB ⟨l.toArray⟩ ⟨#[c]⟩ + 1 = (pieces c l).length := by
  have h1 := Lib.splitB_all ⟨#[c]⟩ (Nat.le_refl 1) 0 _ ⟨l.toArray⟩ rfl
  rw [splitB_eq, List.length_map] at h1
  exact h1.symm

theorem split_new (c : UInt8) (l : List UInt8) (w : World) (hl : l.length ≤ 1000000000) (hm : ML w) :
    Calls Tryd.prog 17 #[.string ⟨l.toArray⟩, .string ⟨#[c]⟩] w fun e w' => ∃ k, e = .returned (.slice (some ⟨w.heap.size, 0, none⟩) (pieces c l).length k) ∧ Txts w' (.slice (some ⟨w.heap.size, 0, none⟩) (pieces c l).length k) (pieces c l) ∧ Below w.heap.size w w' := by
  obtain ⟨h0, m, hm⟩ := hm
  refine (Tryd.strings_Split ⟨l.toArray⟩ ⟨#[c]⟩ m w (by show l.toArray.size < _; simp; omega) hm (Nat.le_refl 1)).mono ?_
  rintro e w' ⟨rfl, rfl⟩
  have hp := pieces_len c l
  refine ⟨_, by rw [count_eq], ⟨_, _, rfl, Nat.le_refl _, by unfold maxLen; omega, fun _ => ⟨_, 0, rfl, by simp, fun j u hu => ?_⟩⟩, by go_grown⟩
  have hB := Blk.new w 9 ((Lib.splitB ⟨#[c]⟩ 0 (Lib.countB ⟨l.toArray⟩ ⟨#[c]⟩) ⟨l.toArray⟩).map Value.string).toArray
  rw [Nat.zero_add, hB.cell, List.getElem?_toArray, splitB_eq, List.map_map]
  exact hu
theorem split_any (c : UInt8) (l : List UInt8) (w : World) (hl : l.length ≤ 1000000000) (hm : ML w) :
    Calls Tryd.prog 17 #[.string ⟨l.toArray⟩, .string ⟨#[c]⟩] w fun e w' => ∃ A k, e = .returned (.slice A (pieces c l).length k) ∧ Txts w' (.slice A (pieces c l).length k) (pieces c l) ∧ Below w.heap.size w w' :=
  (split_new c l w hl hm).mono fun _ _ ⟨k, h⟩ => ⟨_, k, h⟩
theorem cut_any (c : UInt8) (l : List UInt8) (w : World) (hl : l.length ≤ 1000000000) (hm : ML w) :
    Calls Tryd.prog 15 #[.string ⟨l.toArray⟩, .string ⟨#[c]⟩] w fun e w' => e = .returned (.tuple #[.string ⟨(Lib.cut l [c]).1.toArray⟩, .string ⟨(Lib.cut l [c]).2.1.toArray⟩, .bool (Lib.cut l [c]).2.2]) ∧ ∃ n, w' = w.drewN n := by
  obtain ⟨h0, m, hm⟩ := hm
  exact (Tryd.strings_Cut ⟨l.toArray⟩ ⟨#[c]⟩ m w (by show l.toArray.size < _; simp; omega) hm).mono fun e w' h => h
theorem cut_fromT (A : Option Addr) (n c k : Nat) (hk : k ≤ n) (hn : n ≤ c) :
    ∃ dp, (∀ w, (Instr.slice 25 (.slice A n c) (some (.int .i64 (k : Int))) none none).run Tryd.prog w = .ok (.slice dp (n - k) (c - k)) w) ∧ (k < n → dp = A.map fun a => a.add k) := by
  refine ⟨if c = k then A else A.map fun a => a.add k, fun w => ?_, fun h => by rw [if_neg (by omega)]⟩
  rw [run_slice_l (P := Tryd.prog) (w := w) 25 _ n c (by kernel_rfl) .i64 (k : Int) (by omega) (by omega), show (sizeOf (Tryd.prog.elem 25)).run Tryd.prog w = .ok 1 w by kernel_rfl]
  simp only [Result.andThen, sliced, Int.toNat_natCast, Nat.mul_one]
end Go.Proofs.YtmnjmegejaejlaaDoor
