/-
  WALK: trace.writer's line.
-/
import Derived.Test.YtmnjmegejaejlaaDoorTT41
import Derived.Test.YtmnjmegejaejlaaDoorTT32
import Derived.Deep.RegionHeld3
import Derived.Deep.Cut
namespace Go.Proofs.YtmnjmegejaejlaaDoor
open Go.RowKit

/-- The writer at block b holds the text l. -/
def WrAt (B b : Nat) (l : List UInt8) (w : World) : Prop :=
  (l = [] ∧ B ≤ b ∧ w.heap[b]? = some (.cells #[.pointer none, .slice none 0 0] 66 (0, 0))) ∨ (l ≠ [] ∧ Lib.IsBuilder 66 5 B b (Lib.byteCells l) w)
theorem WrAt.is {B b : Nat} {l : List UInt8} {w : World} (h : WrAt B b l w) : Lib.IsBuilder 66 5 B b (Lib.byteCells l) w := by
  rcases h with ⟨rfl, hB, hb⟩ | ⟨_, h⟩
  · exact .inl ⟨hB, .slice none 0 0, hb, World.ownsRow_nil _ _ _ _, by simp [Value.ownBlock]⟩
  · exact h
theorem WrAt.keep {B b : Nat} {l : List UInt8} {w w' : World} (h : WrAt B b l w) (hb : Below w.heap.size w w') : WrAt B b l w' := by
  rcases h with ⟨h1, h2, h3⟩ | ⟨h1, h2⟩
  · exact .inl ⟨h1, h2, (hb.block b (Array.getElem?_eq_some_iff.1 h3).1).trans h3⟩
  · exact .inr ⟨h1, isBuilder_keep h2 hb⟩
theorem WrAt.some {B b : Nat} {l : List UInt8} {w : World} (h0 : l ≠ []) (h : Lib.BuilderAt 66 5 B b (.pointer (some ⟨b, 0, none⟩)) (Lib.byteCells l) w) : WrAt B b l w := .inr ⟨h0, .inr h⟩
theorem tailS_len (r : List (List UInt8)) : r.length ≤ (tailS r).length := by
  induction r with
  | nil => simp
  | cons x r ih => rw [tailS_cons]; simp; omega
set_option maxRecDepth 100000 in
set_option maxHeartbeats 4000000 in
theorem wline_any (B b : Nat) (l : List UInt8) (A : Option Addr) (c : Nat) (h : List UInt8) (r : List (List UInt8)) (w : World) (hw : WrAt B b l w) (hx : Txts w (.slice A (r.length + 1) c) (h :: r)) (hlen : l.length + (h ++ tailS r).length + 1 ≤ 140737488355328) (hBw : B ≤ w.heap.size) :
    Calls Tryd.prog 22 #[.pointer (some ⟨b, 0, none⟩), .slice A (r.length + 1) c] w fun e w' => e = .returned (.tuple #[]) ∧ WrAt B b (l ++ ((h ++ tailS r) ++ [10])) w' ∧ Kept B b w w' := by
  obtain ⟨A', c', ex, k1, k2, hrd⟩ := hx
  injection ex with ex1 ex2 ex3
  subst ex1 ex3
  obtain ⟨ab, off, rfl, hab, hc⟩ := hrd (by simp)
  have hlx : ((h :: r).map fun s => (⟨s.toArray⟩ : ByteArray)).length = r.length + 1 := by simp
  have hjx : Lib.join (((h :: r).map fun s => (⟨s.toArray⟩ : ByteArray)).map (·.data.toList)) [32] = h ++ tailS r := by
    rw [List.map_map, show ((fun x : ByteArray => x.data.toList) ∘ fun s : List UInt8 => (⟨s.toArray⟩ : ByteArray)) = id from by funext s; simp, List.map_id, join_tail]
  have HJ : Hid (Calls Tryd.prog 41 #[.slice (some ⟨ab, off, none⟩) (r.length + 1) c, .string ⟨#[32]⟩] w.drew fun e w' => e = .returned (.string ⟨(h ++ tailS r).toArray⟩) ∧ Below w.heap.size w w') := by
    have := Tryd.strings_Join ab off c ((h :: r).map fun s => (⟨s.toArray⟩ : ByteArray)) ⟨#[32]⟩ w.drew (fun j x hj => by
      rw [List.getElem?_map] at hj
      cases e : (h :: r)[j]? with
      | none => rw [e] at hj; cases hj
      | some s => rw [e] at hj; injection hj with hj; rw [← hj]; exact hc j _ (by rw [List.getElem?_map, e]; rfl)) hab (by rw [hlx]; have := tailS_len r; rw [List.length_append] at hlen; omega) (by rw [hlx]; simpa using k1) (by show (Lib.join _ [32]).length ≤ _; rw [hjx]; omega)
    rw [hlx] at this
    refine this.mono ?_
    rintro e w' ⟨rfl, hb⟩
    refine ⟨?_, (Below.refl w.heap.size w).drew.trans hb⟩
    show Ending.returned (.string ⟨(Lib.join _ [32]).toArray⟩) = _
    rw [hjx]
  have HWS : Hid (∀ w1, Below w.heap.size w w1 → Calls Tryd.prog 40 #[.pointer (some ⟨b, 0, none⟩), .string ⟨(h ++ tailS r).toArray⟩] w1 fun e w' => e = .returned (.tuple #[.int .i64 ((h ++ tailS r).length : Int), .nilIface]) ∧ (Lib.IsBuilder 66 5 B b (Lib.byteCells (l ++ (h ++ tailS r))) w' ∧ Kept B b w1 w')) := Lib.hid (fun w1 hb1 => by
    refine (writeStringW_any B b (Lib.byteCells l) ⟨(h ++ tailS r).toArray⟩ w1 (isBuilder_keep hw.is hb1) (by rw [Lib.byteCells_length, bsize]; omega) (by have := hb1.size; omega)).mono ?_
    rintro e w' ⟨rfl, hbd, hk⟩
    rw [strCells_of, ← byteCells_append] at hbd
    refine ⟨?_, .inr hbd, hk⟩
    rw [bsize])
  have HBW := Lib.hid hBw
  have HLEN := Lib.hid hlen
  clear hrd hc hlx hjx hw hlen hBw k1 k2 ex2 hab
  generalize hy : h ++ tailS r = y at *
  clear hy
  go_enter Tryd.func22, Tryd.ntmps22
  go_upto_region 0 with fail
  go_region_held3 (fun _ => True) (trivial) (first
    | (go_at_call 41; refine HJ.out.mono ?_; rintro e w1 ⟨rfl, hb1⟩)
    | (go_at_call 40; refine (HWS.out _ hb1).mono ?_; rintro e w2 ⟨rfl, hb2, hk2⟩))
  have HWB : Hid (Calls Tryd.prog 42 #[.pointer (some ⟨b, 0, none⟩), .int .u8 10] w2 fun e w' => e = .returned .nilIface ∧ (WrAt B b (l ++ (y ++ [10])) w' ∧ Kept B b w2 w')) := by
    refine Lib.hid ((writeByteW_any B b (Lib.byteCells (l ++ y)) 10 w2 hb2 (by rw [Lib.byteCells_length, List.length_append]; exact HLEN.out) (by have := HBW.out; have := hb1.size; have := hk2.below.size; omega)).mono ?_)
    rintro e w' ⟨rfl, hbd, hk⟩
    refine ⟨rfl, .inr ⟨by simp, .inr ?_⟩, hk⟩
    have : Lib.byteCells (l ++ y) ++ [.int .u8 10] = Lib.byteCells (l ++ (y ++ [10])) := by rw [← List.append_assoc, byteCells_append (l ++ y) [10]]; rfl
    rw [← this]; exact hbd
  have HK2 : Hid (Kept B b w w2) := Lib.hid ((Kept.of_below hb1 HBW.out).trans hk2)
  clear hb1 hb2 hk2
  go_wp2_with (go_at_call 42; refine HWB.out.mono ?_)
  rintro e w3 ⟨rfl, h3, hk3⟩
  go_wp2_with fail
  go_end0
  exact ⟨rfl, h3, HK2.out.trans hk3⟩
end Go.Proofs.YtmnjmegejaejlaaDoor
