/-
  WORDS: a row of findings that the call has made; findings as numbers.
-/
import Derived.Test.YtccpelfnkjckiaaDoorRepRow
import Derived.Test.YtccpelfnkjckiaaDoorRepFnd
import Derived.Test.YtccpelfnkjckiaaDoorTape
namespace Go.Proofs.YtccpelfnkjckiaaDoor
open Go.RowKit Go.Sort

/-- The sites of a finding, as a value. -/
def Fnd.sv (q : Fnd × FndM) : Value := .slice q.2.sA q.1.sites.length q.2.sc
/-- A row of findings that the call has made; their sites lie outside of it, from base on. -/
def OwnFnds (w : World) (base : Nat) (v : Value) (ps : List (Fnd × FndM)) : Prop :=
  w.ownsRow base 58 12 v ps.length (ps.flatMap Fnd.cells) ∧ ∀ q ∈ ps, IntsO w (fun b => base ≤ b ∧ some b ≠ v.ownBlock) (Fnd.sv q) q.1.sites ∧ I64 q.1.start ∧ I64 q.1.kind ∧ q.1.wl ≤ maxLen ∧ q.1.sites.length ≤ 4
section
variable {w w' : World} {base : Nat} {v : Value} {ps : List (Fnd × FndM)}
theorem OwnFnds.nil (w : World) (base : Nat) : OwnFnds w base (.slice none 0 0) [] := ⟨World.ownsRow_nil _ _ _ _, by simp⟩
theorem OwnFnds.keep (h : OwnFnds w base v ps) (hb : Below w.heap.size w w') : OwnFnds w' base v ps := ⟨owns_keep h.1 hb, fun q hq => ⟨(h.2 q hq).1.keep hb, (h.2 q hq).2⟩⟩
theorem OwnFnds.fnds (h : OwnFnds w base v ps) : ∃ A c, v = .slice A ps.length c ∧ ps.length ≤ c ∧ c ≤ maxLen ∧ Rd w A (ps.flatMap Fnd.cells) ∧ (∀ q ∈ ps, FndOk w q) ∧ ∀ q ∈ ps, q.1.sites.length ≤ 4 := by
  obtain ⟨A, c, h1, h2, h3, h4⟩ := owns_rd h.1
  exact ⟨A, c, h1, h2, h3, h4, fun q hq => ⟨(h.2 q hq).1.ints, (h.2 q hq).2.1, (h.2 q hq).2.2.1, (h.2 q hq).2.2.2.1⟩, fun q hq => (h.2 q hq).2.2.2.2⟩
theorem OwnFnds.push {v' : Value} {o : Obj} {q0 : Fnd × FndM} (h : OwnFnds w base v ps) (hu : IntsO w (fun b => base ≤ b ∧ some b ≠ v.ownBlock) (Fnd.sv q0) q0.1.sites) (hs : I64 q0.1.start ∧ I64 q0.1.kind ∧ q0.1.wl ≤ maxLen ∧ q0.1.sites.length ≤ 4)
    (ho : w'.ownsRow base 58 12 v' (ps.length + 1) (ps.flatMap Fnd.cells ++ Fnd.cells q0)) (hg : (w.alloc o).grownBy w' v.ownBlock) (hat : v'.ownBlock = v.ownBlock ∨ v'.ownBlock = some (w.alloc o).heap.size) : OwnFnds w' base v' (ps ++ [q0]) := by
  have key : ∀ {u xs}, IntsO w (fun b => base ≤ b ∧ some b ≠ v.ownBlock) u xs → IntsO w' (fun b => base ≤ b ∧ some b ≠ v'.ownBlock) u xs := by
    intro u xs h
    refine IntsO.mono (P := fun b => (base ≤ b ∧ some b ≠ v.ownBlock) ∧ b < w.heap.size) ?_ fun b _ hb => ⟨hb.1.1, ?_⟩
    · have h1 : IntsO w (fun b => (base ≤ b ∧ some b ≠ v.ownBlock) ∧ b < w.heap.size) u xs := h.mono fun b h1 h2 => ⟨h2, h1⟩
      exact (h1.grown (grown_alloc w o) (fun b _ => by simp)).grown hg fun b hb => hb.1.2
    · rcases hat with e | e <;> rw [e]
      · exact hb.1.2
      · simp; have := hb.2; omega
  refine ⟨by simpa using ho, fun q hq => ?_⟩
  rcases List.mem_append.1 hq with hq | hq
  · exact ⟨key (h.2 q hq).1, (h.2 q hq).2⟩
  · rw [List.mem_singleton] at hq; subst hq; exact ⟨key hu, hs⟩
end

/-- A finding made of numbers. -/
structure FIn where
  st : Int
  kd : Int
  ln : Int
  sites : List Int
  lost : Bool
def FIn.cells (q : FIn × (Option Addr × Nat)) : List Value := [.int .u8 q.1.st, .int .u8 q.1.kd, .int .u8 q.1.ln, .slice q.2.1 q.1.sites.length q.2.2, .bool q.1.lost]
def FInOk (w : World) (q : FIn × (Option Addr × Nat)) : Prop := Byts w (.slice q.2.1 q.1.sites.length q.2.2) q.1.sites ∧ (0 ≤ q.1.st ∧ q.1.st ≤ 255) ∧ (0 ≤ q.1.kd ∧ q.1.kd ≤ 255) ∧ (0 ≤ q.1.ln ∧ q.1.ln ≤ 255)
/-- The value v is a slice of findings made of numbers. -/
def FIns (w : World) (v : Value) (qs : List (FIn × (Option Addr × Nat))) : Prop := ∃ A c, v = .slice A qs.length c ∧ qs.length ≤ c ∧ c ≤ maxLen ∧ Rd w A (qs.flatMap FIn.cells) ∧ ∀ q ∈ qs, FInOk w q
theorem FInOk.keep {w w' : World} {q : FIn × (Option Addr × Nat)} (h : FInOk w q) (hb : Below w.heap.size w w') : FInOk w' q := ⟨h.1.keep hb, h.2⟩
theorem FIns.keep {w w' : World} {v : Value} {qs : List (FIn × (Option Addr × Nat))} (h : FIns w v qs) (hb : Below w.heap.size w w') : FIns w' v qs := by
  obtain ⟨A, c, h1, h2, h3, h4, h5⟩ := h
  exact ⟨A, c, h1, h2, h3, h4.keep hb, fun q hq => (h5 q hq).keep hb⟩
theorem FIns.at_ {w : World} {A : Option Addr} {qs : List (FIn × (Option Addr × Nat))} (h : Rd w A (qs.flatMap FIn.cells)) {k : Nat} {q : FIn × (Option Addr × Nat)} (hk : qs[k]? = some q) :
    ∃ b off, A = some ⟨b, off, none⟩ ∧ b < w.heap.size ∧ w.cell? ⟨b, off + k * 5, none⟩ = some (.int .u8 q.1.st) ∧ w.cell? ⟨b, off + k * 5 + 1, none⟩ = some (.int .u8 q.1.kd) ∧ w.cell? ⟨b, off + k * 5 + 2, none⟩ = some (.int .u8 q.1.ln) ∧ w.cell? ⟨b, off + k * 5 + 3, none⟩ = some (.slice q.2.1 q.1.sites.length q.2.2) ∧ w.cell? ⟨b, off + k * 5 + 4, none⟩ = some (.bool q.1.lost) := by
  have hg : ∀ r, r < 5 → (qs.flatMap FIn.cells)[k * 5 + r]? = (FIn.cells q)[r]? := fun r hr => flat_getR (g := FIn.cells) (m := 5) (fun _ => rfl) hk hr
  obtain ⟨b, off, hA, hlt, hc⟩ := h (by have := (List.getElem?_eq_some_iff.1 ((hg 0 (by omega)).trans (show (FIn.cells q)[0]? = some _ from rfl))).1; omega)
  have hx : ∀ r u, r < 5 → (FIn.cells q)[r]? = some u → w.cell? ⟨b, off + k * 5 + r, none⟩ = some u := fun r u hr hu => by
    have := hc _ _ ((hg r hr).trans hu)
    rwa [← Nat.add_assoc] at this
  exact ⟨b, off, hA, hlt, hx 0 _ (by omega) rfl, hx 1 _ (by omega) rfl, hx 2 _ (by omega) rfl, hx 3 _ (by omega) rfl, hx 4 _ (by omega) rfl⟩
/-- What Findings returns: at most 30 findings of at most four sites. -/
def FRet (w : World) (e : Ending) (w' : World) : Prop :=
  ∃ v ps, e = .returned v ∧ OwnFnds w' w.heap.size v ps ∧ ps.length ≤ 30 ∧ Below w.heap.size w w'
end Go.Proofs.YtccpelfnkjckiaaDoor
