/-
  WORDS: rows that the call has made.
-/
import Derived.Test.YtmnjmegejaejlaaDoorTT1
import Derived.Test.YtmnjmegejaejlaaDoorTT2
namespace Go.Proofs.YtmnjmegejaejlaaDoor
open Go.RowKit

theorem info_int : (Tryd.prog.info? 3).map (fun i => (i.zero, i.size, i.bytes)) = some (some (.int .i64 0), 1, 8) := by kernel_rfl
theorem info_ints : (Tryd.prog.info? 51).map (fun i => (i.zero, i.size, i.bytes)) = some (some (.slice none 0 0), 1, 24) := by kernel_rfl
/-- A slice of numbers that the call has made. -/
def Own (w' : World) (base : Nat) (v : Value) (xs : List Int) : Prop :=
  w'.ownsRow base 3 1 v xs.length (xs.map (Value.int .i64)) ∧ ∀ x ∈ xs, I64 x

theorem rd_of_row {w : World} {base g n cap k : Nat} {e : TypeId} {xs : List Value} (h : w.ownsRow base e k (.slice (some ⟨g, 0, none⟩) n cap) n xs) : base ≤ g ∧ g < w.heap.size ∧ n ≤ cap ∧ cap ≤ maxLen ∧ ∀ j u, xs[j]? = some u → w.cell? ⟨g, 0 + j, none⟩ = some u := by
  rcases h.2 with ⟨h0, _⟩ | ⟨g', cap', cur, hv, hg, hh, hn, hm, hs, ht⟩
  · cases h0
  · cases hv
    refine ⟨hg, (Array.getElem?_eq_some_iff.1 hh).1, hn, hm, fun j u hu => ?_⟩
    rw [Nat.zero_add, cell_of_row w g j cur e (0, 0) hh]
    rw [← ht, List.getElem?_take] at hu
    split at hu
    · simpa using hu
    · cases hu

theorem owns_shape {w : World} {base n k : Nat} {e : TypeId} {v : Value} {xs : List Value} (h : w.ownsRow base e k v n xs) : (v = .slice none 0 0 ∧ n = 0 ∧ xs = []) ∨ ∃ g cap, v = .slice (some ⟨g, 0, none⟩) n cap := by
  rcases h.2 with ⟨rfl, rfl⟩ | ⟨g, cap, _, rfl, _⟩
  · exact .inl ⟨rfl, rfl, List.eq_nil_of_length_eq_zero (by simpa using h.1)⟩
  · exact .inr ⟨g, cap, rfl⟩

theorem owns_rd {w : World} {base n k : Nat} {e : TypeId} {v : Value} {xs : List Value} (h : w.ownsRow base e k v n xs) : ∃ A c, v = .slice A n c ∧ n ≤ c ∧ c ≤ maxLen ∧ Rd w A xs := by
  rcases owns_shape h with ⟨rfl, rfl, rfl⟩ | ⟨g, cap, rfl⟩
  · exact ⟨none, 0, rfl, Nat.le_refl _, by simp [maxLen], Rd.nil _ _⟩
  · obtain ⟨h1, h2, h3, h4, h5⟩ := rd_of_row h
    exact ⟨_, cap, rfl, h3, h4, fun _ => ⟨g, 0, rfl, h2, h5⟩⟩

theorem Own.ints {w : World} {base : Nat} {v : Value} {xs : List Int} (h : Own w base v xs) : Ints w v xs := by
  obtain ⟨A, c, h1, h2, h3, h4⟩ := owns_rd h.1
  exact ⟨A, c, h1, h2, h3, h.2, h4⟩

/-- A slice of numbers whose block is one of P. -/
def IntsO (w : World) (P : Nat → Prop) (v : Value) (xs : List Int) : Prop :=
  ∃ A c, v = .slice A xs.length c ∧ xs.length ≤ c ∧ c ≤ maxLen ∧ (∀ x ∈ xs, I64 x) ∧
    (0 < xs.length → ∃ b off, A = some ⟨b, off, none⟩ ∧ b < w.heap.size ∧ P b ∧ ∀ j u, (xs.map (Value.int .i64))[j]? = some u → w.cell? ⟨b, off + j, none⟩ = some u)

section
variable {w w' : World} {P Q : Nat → Prop} {v : Value} {xs : List Int} {base : Nat}

theorem IntsO.ints (h : IntsO w P v xs) : Ints w v xs := by
  obtain ⟨A, c, h1, h2, h3, h4, h5⟩ := h
  exact ⟨A, c, h1, h2, h3, h4, fun h0 => by obtain ⟨b, off, a1, a2, _, a4⟩ := h5 (by simpa using h0); exact ⟨b, off, a1, a2, a4⟩⟩
theorem IntsO.mono (h : IntsO w P v xs) (hP : ∀ b, b < w.heap.size → P b → Q b) : IntsO w Q v xs := by
  obtain ⟨A, c, h1, h2, h3, h4, h5⟩ := h
  exact ⟨A, c, h1, h2, h3, h4, fun h0 => by obtain ⟨b, off, a1, a2, a3, a4⟩ := h5 h0; exact ⟨b, off, a1, a2, hP b a2 a3, a4⟩⟩
theorem IntsO.grown {row : Option Nat} (h : IntsO w P v xs) (hg : w.grownBy w' row) (hne : ∀ b, P b → some b ≠ row) : IntsO w' P v xs := by
  obtain ⟨A, c, h1, h2, h3, h4, h5⟩ := h
  exact ⟨A, c, h1, h2, h3, h4, fun h0 => by obtain ⟨b, off, a1, a2, a3, a4⟩ := h5 h0; exact ⟨b, off, a1, Nat.lt_of_lt_of_le a2 hg.size, a3, fun j u hu => hg.cell (a4 j u hu) (hne b a3)⟩⟩
theorem IntsO.keep (h : IntsO w P v xs) (hb : Below w.heap.size w w') : IntsO w' P v xs := by
  obtain ⟨A, c, h1, h2, h3, h4, h5⟩ := h
  exact ⟨A, c, h1, h2, h3, h4, fun h0 => by obtain ⟨b, off, a1, a2, a3, a4⟩ := h5 h0; exact ⟨b, off, a1, Nat.lt_of_lt_of_le a2 hb.size, a3, fun j u hu => (hb.cell (p := ⟨b, off + j, none⟩) a2).trans (a4 j u hu)⟩⟩
theorem Own.intsO (h : Own w base v xs) (hP : ∀ b, base ≤ b → b < w.heap.size → v.ownBlock = some b → P b) : IntsO w P v xs := by
  rcases owns_shape h.1 with ⟨rfl, h0, _⟩ | ⟨g, cap, rfl⟩
  · obtain rfl : xs = [] := List.eq_nil_of_length_eq_zero h0
    exact ⟨none, 0, rfl, by simp, by simp [maxLen], by simp, by simp⟩
  · obtain ⟨h1, h2, h3, h4, h5⟩ := rd_of_row h.1
    exact ⟨_, cap, rfl, h3, h4, h.2, fun _ => ⟨g, 0, rfl, h2, hP g h1 h2 rfl, h5⟩⟩
theorem Ints.intsO (h : Ints w v xs) (hP : ∀ b, b < w.heap.size → P b) : IntsO w P v xs := by
  obtain ⟨A, c, h1, h2, h3, h4, h5⟩ := h
  exact ⟨A, c, h1, h2, h3, h4, fun h0 => by obtain ⟨b, off, a1, a2, a4⟩ := h5 (by simpa using h0); exact ⟨b, off, a1, a2, hP b a2, a4⟩⟩
end

theorem owns_keep {w w' : World} {base n k : Nat} {e : TypeId} {v : Value} {xs : List Value} (h : w.ownsRow base e k v n xs) (hb : Below w.heap.size w w') : w'.ownsRow base e k v n xs := by
  refine ⟨h.1, ?_⟩
  rcases h.2 with hn | ⟨g, cap, cur, rfl, hg, hgg, rest⟩
  · exact .inl hn
  · exact .inr ⟨g, cap, cur, rfl, hg, (hb.block g (Array.getElem?_eq_some_iff.1 hgg).1).trans hgg, rest⟩
theorem grown_alloc (w : World) (o : Obj) : w.grownBy (w.alloc o) none := World.grownBy_alloc w o none
/-- The cells of a block that was just made. -/
theorem cells_at (w : World) (t : TypeId) (cs : List Value) {B : Nat} (hB : w.heap.size = B) : ∀ j x, cs[j]? = some x → (w.alloc (.cells cs.toArray t)).cell? ((⟨B, 0, none⟩ : Addr).add j) = some x := by
  intro j x hx
  subst hB
  have h := (Blk.new w t cs.toArray).cell j
  rw [List.getElem?_toArray, hx] at h
  unfold Addr.add
  split
  · rename_i h0; subst h0; exact h
  · rw [Nat.zero_add]; exact h
theorem one_at (w : World) (u : Value) (t : TypeId) : ∀ j x, [u][j]? = some x → (w.alloc (.cells #[u] t)).cell? ((⟨w.heap.size, 0, none⟩ : Addr).add j) = some x := cells_at w t [u] rfl

theorem Blk.grown {w w' : World} {g : Nat} {t : TypeId} {cs : Array Value} {row : Option Nat} (h : Blk w g t cs) (hg : w.grownBy w' row) (hne : some g ≠ row) : Blk w' g t cs := (hg.block g h.lt hne).trans h
theorem grownBy_set0 (w : World) (g i : Nat) (u : Value) : w.grownBy (w.setCell ⟨g, i, none⟩ u) (some g) :=
  ⟨rfl, rfl, rfl, by simp, fun k _ hne => Below.heap_setCell w ⟨g, i, none⟩ u k (by simpa using hne)⟩
theorem grownBy_drew (w : World) (row : Option Nat) : w.grownBy w.drew row := ⟨rfl, rfl, rfl, Nat.le_refl _, fun _ _ _ => rfl⟩
theorem grownBy_trans {a b c : World} {row : Option Nat} (h1 : a.grownBy b row) (h2 : b.grownBy c row) : a.grownBy c row :=
  ⟨h2.os.trans h1.os, h2.tape.trans h1.tape, h2.output.trans h1.output, Nat.le_trans h1.size h2.size, fun k hk hne => (h2.block k (Nat.lt_of_lt_of_le hk h1.size) hne).trans (h1.block k hk hne)⟩
theorem grownBy_below {a b : World} {row : Option Nat} {B : Nat} (h : a.grownBy b row) (hB : B ≤ a.heap.size) (hr : ∀ g, row = some g → B ≤ g) : Below B a b :=
  ⟨h.os, h.tape, h.output, h.size, fun k hk => h.block k (Nat.lt_of_lt_of_le hk hB) fun e => by have := hr k e.symm; omega⟩

theorem own_ne {w : World} {base n k g : Nat} {e : TypeId} {v : Value} {xs : List Value} (h : w.ownsRow base e k v n xs) (hg : g < base) : v.ownBlock = none ∨ v.ownBlock ≠ some g := by
  cases e : v.ownBlock with
  | none => exact .inl rfl
  | some g' => right; have := h.lt g' e; simp; omega
theorem own_none (v : Value) : v.ownBlock = none ∨ v.ownBlock ≠ none := Classical.em _
theorem own_ne2 {v u : Value} {B : Nat} (hv : ∀ g, v.ownBlock = some g → g < B) (hu : ∀ g, u.ownBlock = some g → B ≤ g) : v.ownBlock = none ∨ v.ownBlock ≠ u.ownBlock := by
  cases e : v.ownBlock with
  | none => exact .inl rfl
  | some g => right; intro e'; have := hv g e; have := hu g e'.symm; omega

/-- Two rows that lie in different blocks. -/
def Apart (u v : Value) : Prop := ∀ g, u.ownBlock = some g → v.ownBlock ≠ some g
theorem Apart.nil_left (v : Value) : Apart (.slice none 0 0) v := fun g h => by cases h
theorem Apart.nil_right (u : Value) : Apart u (.slice none 0 0) := fun g _ h => by cases h
theorem Apart.symm {u v : Value} (h : Apart u v) : Apart v u := fun g e1 e2 => h g e2 e1
theorem Apart.ne {u v : Value} (h : Apart u v) : u.ownBlock = none ∨ u.ownBlock ≠ v.ownBlock := by
  cases e : u.ownBlock with
  | none => exact .inl rfl
  | some g => right; exact fun e' => h g e e'.symm
theorem Apart.append {u v v' : Value} {n : Nat} (h : Apart u v) (hu : ∀ g, u.ownBlock = some g → g < n) (hat : v'.ownBlock = v.ownBlock ∨ v'.ownBlock = some n) : Apart u v' := by
  intro g e1 e2
  rcases hat with h1 | h1
  · exact h g e1 (h1.symm.trans e2)
  · rw [h1] at e2; injection e2 with e2; have := hu g e1; omega
end Go.Proofs.YtmnjmegejaejlaaDoor
