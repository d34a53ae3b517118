/-
  PLAIN LAW: what the reference reads line by line is what a text is read as.
-/
import Derived.Test.YtfffalfnjficaaaDoorParseSpec
import Derived.Test.YtfffalfnjficaaaDoorNumsL
namespace Go.Proofs.YtfffalfnjficaaaDoor

/-- The head by the reference. -/
theorem headF_ok {line : List UInt8} {a b : Int} (h : numsL wFormula line = some [a, b]) : headF line = some ⟨a, b, [], []⟩ := by
  unfold headF; rw [numsW_numsL, h]; rfl
theorem headF_no {line : List UInt8} (h : ∀ a b, numsL wFormula line ≠ some [a, b]) : headF line = none := by
  unfold headF
  rw [numsW_numsL]
  cases hn : numsL wFormula line with
  | none => rfl
  | some ns =>
    rcases ns with _ | ⟨a, _ | ⟨b, _ | ⟨c, r⟩⟩⟩
    · rfl
    · rfl
    · exact absurd hn (h a b)
    · simp
theorem wAtom_ne : wAtom ≠ wClause := by decide
/-- A further line by the reference: an atom. -/
theorem stepF_isAtom {f : Form} {line : List UInt8} {x y c : Int} (h : numsL wAtom line = some [x, y, c]) (hc : f.clauses = []) : stepF f line = some { f with atoms := f.atoms ++ [⟨x, y, c⟩] } := by
  have hw := numsW_numsL (word := wAtom) (line := line) (c := 3)
  rw [h] at hw
  cases hp : pieces 32 line with
  | nil => exact absurd hp (pieces_ne _ _)
  | cons p ps =>
    rw [hp] at hw
    have e : p = wAtom := by
      unfold numsL at h; rw [hp] at h; simp only at h
      split at h
      · assumption
      · cases h
    rw [stepF_atom hp e hc, hw]; rfl
/-- .. a clause. -/
theorem stepF_isClause {f : Form} {line : List UInt8} {ns : List Int} (h : numsL wClause line = some ns) : stepF f line = some { f with clauses := f.clauses ++ [ns] } := by
  cases hp : pieces 32 line with
  | nil => exact absurd hp (pieces_ne _ _)
  | cons p ps =>
    have e : p = wClause := by
      unfold numsL at h; rw [hp] at h; simp only at h
      split at h
      · assumption
      · cases h
    have hm : ps.mapM canonI = some ns := by
      unfold numsL at h; rw [hp] at h; simp only at h
      rwa [if_pos e] at h
    rw [stepF_clause hp (fun a => wAtom_ne (a.1.symm.trans e))]
    have h2 : numsW wClause ps.length (p :: ps) = some ns := by
      show (if p = wClause ∧ ps.length = ps.length then ps.mapM canonI else none) = some ns
      rw [if_pos ⟨e, rfl⟩]; exact hm
    rw [h2]; rfl
/-- .. none of them. -/
theorem stepF_no {f : Form} {line : List UInt8} (h1 : f.clauses = [] → ∀ x y c, numsL wAtom line ≠ some [x, y, c]) (h2 : numsL wClause line = none) : stepF f line = none := by
  cases hp : pieces 32 line with
  | nil => exact absurd hp (pieces_ne _ _)
  | cons p ps =>
    by_cases ha : p = wAtom ∧ f.clauses = []
    · rw [stepF_atom hp ha.1 ha.2, ← hp, numsW_numsL]
      cases hn : numsL wAtom line with
      | none => rfl
      | some ns =>
        rcases ns with _ | ⟨a, _ | ⟨b, _ | ⟨c, _ | ⟨d, r⟩⟩⟩⟩
        · rfl
        · rfl
        · rfl
        · exact absurd hn (h1 ha.2 a b c)
        · simp [stepAtom]
    · rw [stepF_clause hp ha]
      unfold numsL at h2
      rw [hp] at h2
      simp only at h2
      have : numsW wClause ps.length (p :: ps) = none := by
        show (if p = wClause ∧ ps.length = ps.length then ps.mapM canonI else none) = none
        split
        · rename_i e
          rwa [if_pos e.1] at h2
        · rfl
      rw [this]; rfl

/-- What the reference has read ahead of line i + 1. -/
structure RdL (s : List UInt8) (i : Nat) (f : Form) (r : List UInt8) : Prop where
  rest : pieces 10 r = (pieces 10 s).drop i
  zero : i = 0 → f = ⟨0, 0, [], []⟩ ∧ r = s
  goes : 0 < i → ∀ e, RunR f (i + 1) r e → ParseR s e
theorem RdL.start (s : List UInt8) : RdL s 0 ⟨0, 0, [], []⟩ s := ⟨rfl, fun _ => ⟨rfl, rfl⟩, fun h => absurd h (Nat.lt_irrefl 0)⟩
theorem RdL.line {s r line : List UInt8} {i : Nat} {f : Form} (h : RdL s i f r) (hi : i + 1 < (pieces 10 s).length) (hl : (pieces 10 s)[i]? = some line) :
    ∃ t, r = line ++ 10 :: t ∧ pieces 10 t = (pieces 10 s).drop (i + 1) ∧ (10 : UInt8) ∉ line := by
  obtain ⟨l2, hl2⟩ : ∃ l2, (pieces 10 s)[i + 1]? = some l2 := ⟨_, List.getElem?_eq_getElem hi⟩
  have e1 : (pieces 10 s).drop i = line :: (pieces 10 s).drop (i + 1) := by
    rw [List.drop_eq_getElem_cons (by omega)]
    rw [List.getElem?_eq_getElem (by omega)] at hl
    injection hl with hl
    rw [hl]
  have e2 : (pieces 10 s).drop (i + 1) = l2 :: (pieces 10 s).drop (i + 1 + 1) := by
    rw [List.drop_eq_getElem_cons hi]
    rw [List.getElem?_eq_getElem hi] at hl2
    injection hl2 with hl2
    rw [hl2]
  have h1 := h.rest
  rw [e1, e2] at h1
  obtain ⟨t, a1, a2, a3⟩ := pieces_tail h1
  exact ⟨t, a1, by rw [a2, e2], a3⟩
theorem RdL.head {s r line : List UInt8} {f f' : Form} (h : RdL s 0 f r) (hi : 0 + 1 < (pieces 10 s).length) (hl : (pieces 10 s)[0]? = some line) (hf : headF line = some f') : ∃ t, RdL s 1 f' t := by
  obtain ⟨t, a1, a2, a3⟩ := h.line hi hl
  obtain ⟨_, rfl⟩ := h.zero rfl
  exact ⟨t, a2, fun e => absurd e (by omega), fun _ e he => .go a1 a3 hf he⟩
theorem RdL.headBad {s r line : List UInt8} {f : Form} (h : RdL s 0 f r) (hi : 0 + 1 < (pieces 10 s).length) (hl : (pieces 10 s)[0]? = some line) (hf : headF line = none) : ParseR s (.bad 1) := by
  obtain ⟨t, a1, a2, a3⟩ := h.line hi hl
  obtain ⟨_, rfl⟩ := h.zero rfl
  exact .wrong a1 a3 hf
theorem RdL.step {s r line : List UInt8} {i : Nat} {f f' : Form} (h : RdL s i f r) (h0 : 0 < i) (hi : i + 1 < (pieces 10 s).length) (hl : (pieces 10 s)[i]? = some line) (hf : stepF f line = some f') : ∃ t, RdL s (i + 1) f' t := by
  obtain ⟨t, a1, a2, a3⟩ := h.line hi hl
  exact ⟨t, a2, fun e => absurd e (by omega), fun _ e he => h.goes h0 e (.next a1 a3 hf he)⟩
theorem RdL.stepBad {s r line : List UInt8} {i : Nat} {f : Form} (h : RdL s i f r) (h0 : 0 < i) (hi : i + 1 < (pieces 10 s).length) (hl : (pieces 10 s)[i]? = some line) (hf : stepF f line = none) : ParseR s (.bad (i + 1)) := by
  obtain ⟨t, a1, a2, a3⟩ := h.line hi hl
  exact h.goes h0 _ (.wrong a1 a3 hf)
theorem RdL.last {s r line : List UInt8} {i : Nat} {f : Form} (h : RdL s i f r) (hi : i + 1 = (pieces 10 s).length) (hl : (pieces 10 s)[i]? = some line) : r = line ∧ (10 : UInt8) ∉ line := by
  have e1 : (pieces 10 s).drop i = [line] := by
    rw [List.drop_eq_getElem_cons (by omega)]
    rw [List.getElem?_eq_getElem (by omega)] at hl
    injection hl with hl
    rw [hl, List.drop_eq_nil_of_le (by omega)]
  exact pieces_one (h.rest.trans e1)
theorem RdL.endBad {s r line : List UInt8} {i : Nat} {f : Form} (h : RdL s i f r) (hi : i + 1 = (pieces 10 s).length) (hl : (pieces 10 s)[i]? = some line) (hb : line ≠ [] ∨ i = 0) : ParseR s (.bad (i + 1)) := by
  obtain ⟨rfl, h2⟩ := h.last hi hl
  by_cases h0 : i = 0
  · subst h0
    obtain ⟨_, rfl⟩ := h.zero rfl
    exact .cut h2
  · exact h.goes (by omega) _ (.cut (hb.resolve_right h0) h2)
theorem RdL.endOk {s r : List UInt8} {i : Nat} {f : Form} (h : RdL s i f r) (hi : i + 1 = (pieces 10 s).length) (hl : (pieces 10 s)[i]? = some []) (h0 : 0 < i) : ParseR s (.ok f) := by
  obtain ⟨rfl, h2⟩ := h.last hi hl
  exact h.goes h0 _ (.done _ _)
end Go.Proofs.YtfffalfnjficaaaDoor
