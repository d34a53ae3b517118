/-
  WORDS: rows of steps that the call has made.
-/
import Derived.Test.YtfffalfnjficaaaDoorDerive
import Derived.Test.YtfffalfnjficaaaDoorOwn
namespace Go.Proofs.YtfffalfnjficaaaDoor
open Go.RowKit

/-- A row of steps that the call has made; their literals lie outside of it, in blocks of P. -/
def OwnStps (w : World) (base : Nat) (P : Nat → Prop) (v : Value) (ps : List (Stp × Value)) : Prop :=
  w.ownsRow base 81 6 v ps.length (ps.flatMap Stp.cells) ∧ ∀ q ∈ ps, IntsO w (fun b => P b ∧ some b ≠ v.ownBlock) q.2 q.1.lits ∧ q.1.ok
section
variable {w w' : World} {base : Nat} {P Q : Nat → Prop} {v : Value} {ps : List (Stp × Value)}
theorem OwnStps.nil (w : World) (base : Nat) (P : Nat → Prop) : OwnStps w base P (.slice none 0 0) [] := ⟨World.ownsRow_nil _ _ _ _, by simp⟩
theorem OwnStps.stps (h : OwnStps w base P v ps) : Stps w v (ps.map (·.1)) := by
  obtain ⟨A, c, h1, h2, h3, h4⟩ := owns_rd h.1
  exact ⟨A, c, ps, rfl, h1, h2, h3, h4, fun q hq => ⟨(h.2 q hq).1.ints, (h.2 q hq).2⟩⟩
theorem OwnStps.keep (h : OwnStps w base P v ps) (hb : Below w.heap.size w w') : OwnStps w' base P v ps := ⟨owns_keep h.1 hb, fun q hq => ⟨(h.2 q hq).1.keep hb, (h.2 q hq).2⟩⟩
theorem OwnStps.mono (h : OwnStps w base P v ps) (hP : ∀ b, b < w.heap.size → P b → Q b) : OwnStps w base Q v ps := ⟨h.1, fun q hq => ⟨(h.2 q hq).1.mono fun b hb hp => ⟨hP b hb hp.1, hp.2⟩, (h.2 q hq).2⟩⟩
theorem OwnStps.grown {row : Option Nat} (h : OwnStps w base P v ps) (hg : w.grownBy w' row) (hv : v.ownBlock = none ∨ v.ownBlock ≠ row) (hne : ∀ b, P b → some b ≠ row) : OwnStps w' base P v ps :=
  ⟨h.1.kept hg hv, fun q hq => ⟨(h.2 q hq).1.grown hg fun b hb => hne b hb.1, (h.2 q hq).2⟩⟩
theorem OwnStps.push {v' : Value} {o : Obj} {s : Stp} {lv : Value} (h : OwnStps w base P v ps) (hu : IntsO w (fun b => P b ∧ some b ≠ v.ownBlock) lv s.lits) (hs : s.ok)
    (ho : w'.ownsRow base 81 6 v' (ps.length + 1) (ps.flatMap Stp.cells ++ Stp.cells (s, lv))) (hg : (w.alloc o).grownBy w' v.ownBlock) (hat : v'.ownBlock = v.ownBlock ∨ v'.ownBlock = some (w.alloc o).heap.size) : OwnStps w' base P v' (ps ++ [(s, lv)]) := by
  have key : ∀ {u xs}, IntsO w (fun b => P b ∧ some b ≠ v.ownBlock) u xs → IntsO w' (fun b => P b ∧ some b ≠ v'.ownBlock) u xs := by
    intro u xs h
    refine IntsO.mono (P := fun b => (P b ∧ some b ≠ v.ownBlock) ∧ b < w.heap.size) ?_ fun b _ hb => ⟨hb.1.1, ?_⟩
    · have h1 : IntsO w (fun b => (P b ∧ some b ≠ v.ownBlock) ∧ b < w.heap.size) u xs := h.mono fun b h1 h2 => ⟨h2, h1⟩
      exact (h1.grown (grown_alloc w o) (fun b _ => by simp)).grown hg fun b hb => hb.1.2
    · rcases hat with e | e <;> rw [e]
      · exact hb.1.2
      · simp; have := hb.2; omega
  refine ⟨by simpa using ho, fun q hq => ?_⟩
  rcases List.mem_append.1 hq with hq | hq
  · exact ⟨key (h.2 q hq).1, (h.2 q hq).2⟩
  · rw [List.mem_singleton] at hq; subst hq; exact ⟨key hu, hs⟩
end
end Go.Proofs.YtfffalfnjficaaaDoor
