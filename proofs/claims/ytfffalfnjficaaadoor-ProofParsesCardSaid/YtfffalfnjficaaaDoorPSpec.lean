/-
  PLAIN LAW: what a text of steps is read as: line by line.
-/
import Derived.Test.YtfffalfnjficaaaDoorNumsT
import Derived.Test.YtfffalfnjficaaaDoorWords33
namespace Go.Proofs.YtfffalfnjficaaaDoor

/-- The step that a line's word and numbers denote. -/
def stepOf (h : List UInt8) (ns : List Int) : Option Stp :=
  if h = wInput ∧ ns.length = 1 then some ⟨1, ns.getD 0 0, [], 0, 0, 0⟩
  else if h = wCycle then some ⟨2, 0, ns, 0, 0, 0⟩
  else if h = wResolve ∧ ns.length = 3 then some ⟨3, 0, [], ns.getD 0 0, ns.getD 1 0, ns.getD 2 0⟩
  else if h = wStep ∧ ns.length = 1 ∧ (ns.getD 0 0 < 1 ∨ 3 < ns.getD 0 0) then some ⟨ns.getD 0 0, 0, [], 0, 0, 0⟩
  else none
/-- The step that a line denotes. -/
def stepP (line : List UInt8) : Option Stp := match pieces 32 line with
  | [] => none
  | h :: ps => (ps.mapM canonI).bind (stepOf h)
theorem stepP_of {line h : List UInt8} {ps : List (List UInt8)} (hp : pieces 32 line = h :: ps) : stepP line = (ps.mapM canonI).bind (stepOf h) := by unfold stepP; rw [hp]
/-- How a reading ends. -/
inductive SEnd where
  | ok (l : List Stp)
  | bad (line : Nat)
/-- The reading of what is behind line k - 1, with the steps l read. -/
inductive RunP : List Stp → Nat → List UInt8 → SEnd → Prop where
  | done (l : List Stp) (k : Nat) : RunP l k [] (.ok l)
  | cut {l : List Stp} {k : Nat} {r : List UInt8} : r ≠ [] → (10 : UInt8) ∉ r → RunP l k r (.bad k)
  | wrong {l : List Stp} {k : Nat} {r a b : List UInt8} : r = a ++ 10 :: b → (10 : UInt8) ∉ a → stepP a = none → RunP l k r (.bad k)
  | next {l : List Stp} {s : Stp} {k : Nat} {r a b : List UInt8} {e : SEnd} : r = a ++ 10 :: b → (10 : UInt8) ∉ a → stepP a = some s → RunP (l ++ [s]) (k + 1) b e → RunP l k r e
theorem nl_uniqueP {a b a' b' : List UInt8} (h1 : (10 : UInt8) ∉ a) (h2 : (10 : UInt8) ∉ a') (h : a ++ 10 :: b = a' ++ 10 :: b') : a = a' ∧ b = b' := by
  have e := congrArg (fun l => pieces 10 l) h
  simp only [pieces_app b h1, pieces_app b' h2, List.cons.injEq] at e
  have e1 := e.1
  subst e1
  have e2 := List.append_cancel_left h
  injection e2 with _ e2
  exact ⟨rfl, e2⟩
theorem RunP.fn {l : List Stp} {k : Nat} {r : List UInt8} {e e' : SEnd} (h : RunP l k r e) (h' : RunP l k r e') : e = e' := by
  induction h with
  | done l k =>
    cases h' with
    | done => rfl
    | cut h1 _ => exact absurd rfl h1
    | wrong h1 _ _ => simp at h1
    | next h1 _ _ _ => simp at h1
  | cut h1 h2 =>
    cases h' with
    | done => exact absurd rfl h1
    | cut _ _ => rfl
    | wrong h3 _ _ => exact absurd (by rw [h3]; simp) h2
    | next h3 _ _ _ => exact absurd (by rw [h3]; simp) h2
  | wrong h1 h2 h3 =>
    cases h' with
    | done => simp at h1
    | cut _ h4 => exact absurd (by rw [h1]; simp) h4
    | wrong _ _ _ => rfl
    | next h4 h5 h6 _ =>
      obtain ⟨rfl, rfl⟩ := nl_uniqueP h2 h5 (h1.symm.trans h4)
      rw [h3] at h6; cases h6
  | next h1 h2 h3 _ ih =>
    cases h' with
    | done => simp at h1
    | cut _ h4 => exact absurd (by rw [h1]; simp) h4
    | wrong h4 h5 h6 =>
      obtain ⟨rfl, rfl⟩ := nl_uniqueP h2 h5 (h1.symm.trans h4)
      rw [h3] at h6; cases h6
    | next h4 h5 h6 h7 =>
      obtain ⟨rfl, rfl⟩ := nl_uniqueP h2 h5 (h1.symm.trans h4)
      rw [h3] at h6
      injection h6 with h6
      subst h6
      exact ih h7

/-- What the reference has read ahead of line i + 1. -/
structure RdP (s : List UInt8) (i : Nat) (l : List Stp) (r : List UInt8) : Prop where
  rest : pieces 10 r = (pieces 10 s).drop i
  goes : ∀ e, RunP l (i + 1) r e → RunP [] 1 s e
theorem RdP.start (s : List UInt8) : RdP s 0 [] s := ⟨rfl, fun _ h => h⟩
theorem RdP.line {s r line : List UInt8} {i : Nat} {l : List Stp} (h : RdP s i l r) (hi : i + 1 < (pieces 10 s).length) (hl : (pieces 10 s)[i]? = some line) :
    ∃ t, r = line ++ 10 :: t ∧ pieces 10 t = (pieces 10 s).drop (i + 1) ∧ (10 : UInt8) ∉ line := by
  obtain ⟨l2, hl2⟩ : ∃ l2, (pieces 10 s)[i + 1]? = some l2 := ⟨_, List.getElem?_eq_getElem hi⟩
  have e1 : (pieces 10 s).drop i = line :: (pieces 10 s).drop (i + 1) := by
    rw [List.drop_eq_getElem_cons (by omega)]
    rw [List.getElem?_eq_getElem (by omega)] at hl
    injection hl with hl
    rw [hl]
  have e2 : (pieces 10 s).drop (i + 1) = l2 :: (pieces 10 s).drop (i + 1 + 1) := by
    rw [List.drop_eq_getElem_cons hi]
    rw [List.getElem?_eq_getElem hi] at hl2
    injection hl2 with hl2
    rw [hl2]
  have h1 := h.rest
  rw [e1, e2] at h1
  obtain ⟨t, a1, a2, a3⟩ := pieces_tail h1
  exact ⟨t, a1, by rw [a2, e2], a3⟩
theorem RdP.step {s r line : List UInt8} {i : Nat} {l : List Stp} {x : Stp} (h : RdP s i l r) (hi : i + 1 < (pieces 10 s).length) (hl : (pieces 10 s)[i]? = some line) (hf : stepP line = some x) : ∃ t, RdP s (i + 1) (l ++ [x]) t := by
  obtain ⟨t, a1, a2, a3⟩ := h.line hi hl
  exact ⟨t, a2, fun e he => h.goes e (.next a1 a3 hf he)⟩
theorem RdP.stepBad {s r line : List UInt8} {i : Nat} {l : List Stp} (h : RdP s i l r) (hi : i + 1 < (pieces 10 s).length) (hl : (pieces 10 s)[i]? = some line) (hf : stepP line = none) : RunP [] 1 s (.bad (i + 1)) := by
  obtain ⟨t, a1, a2, a3⟩ := h.line hi hl
  exact h.goes _ (.wrong a1 a3 hf)
theorem RdP.last {s r line : List UInt8} {i : Nat} {l : List Stp} (h : RdP s i l r) (hi : i + 1 = (pieces 10 s).length) (hl : (pieces 10 s)[i]? = some line) : r = line ∧ (10 : UInt8) ∉ line := by
  have e1 : (pieces 10 s).drop i = [line] := by
    rw [List.drop_eq_getElem_cons (by omega)]
    rw [List.getElem?_eq_getElem (by omega)] at hl
    injection hl with hl
    rw [hl, List.drop_eq_nil_of_le (by omega)]
  exact pieces_one (h.rest.trans e1)
theorem RdP.endBad {s r line : List UInt8} {i : Nat} {l : List Stp} (h : RdP s i l r) (hi : i + 1 = (pieces 10 s).length) (hl : (pieces 10 s)[i]? = some line) (hb : line ≠ []) : RunP [] 1 s (.bad (i + 1)) := by
  obtain ⟨rfl, h2⟩ := h.last hi hl
  exact h.goes _ (.cut hb h2)
theorem RdP.endOk {s r : List UInt8} {i : Nat} {l : List Stp} (h : RdP s i l r) (hi : i + 1 = (pieces 10 s).length) (hl : (pieces 10 s)[i]? = some []) : RunP [] 1 s (.ok l) := by
  obtain ⟨rfl, h2⟩ := h.last hi hl
  exact h.goes _ (.done _ _)
/-- A step whose text is read as that step. -/
def Stp.plain (s : Stp) : Prop :=
  (s.kind = 1 ∧ s.lits = [] ∧ s.p = 0 ∧ s.q = 0 ∧ s.var = 0) ∨ (s.kind = 2 ∧ s.index = 0 ∧ s.p = 0 ∧ s.q = 0 ∧ s.var = 0) ∨ (s.kind = 3 ∧ s.index = 0 ∧ s.lits = []) ∨ ((s.kind < 1 ∨ 3 < s.kind) ∧ s.index = 0 ∧ s.lits = [] ∧ s.p = 0 ∧ s.q = 0 ∧ s.var = 0)
theorem stepP_line {word : List UInt8} {ns : List Int} {x : Stp} (hw : (32 : UInt8) ∉ word) (hn : ∀ n ∈ ns, I64 n) (h : stepOf word ns = some x) : stepP (word ++ numsText ns) = some x := by
  rw [stepP_of (pieces_nums ns word hw), mapM_itoa ns hn]
  exact h
/-- The text of plain steps is read as these. -/
theorem steps_read (l : List Stp) (hp : ∀ s ∈ l, s.plain ∧ s.ok ∧ ∀ x ∈ s.lits, I64 x) : ∀ (r : List Stp) (k : Nat), RunP r k (stepsText l) (.ok (r ++ l)) := by
  induction l with
  | nil => intro r k; simpa [stepsText] using RunP.done r k
  | cons s t ih =>
    intro r k
    obtain ⟨h1, ⟨o1, o2, o3, o4, o5⟩, h3⟩ := hp s (by simp)
    have ih := ih (fun y hy => hp y (by simp [hy])) (r ++ [s]) (k + 1)
    rw [List.append_assoc, List.singleton_append] at ih
    have hs : ∃ word ns, stepText s = lineText word ns ∧ (10 : UInt8) ∉ word ∧ stepP (word ++ numsText ns) = some s := by
      obtain ⟨kind, index, lits, p, q, var⟩ := s
      simp only [Stp.plain] at h1
      simp only at o1 o2 o3 o4 o5 h3
      rcases h1 with ⟨rfl, rfl, rfl, rfl, rfl⟩ | ⟨rfl, rfl, rfl, rfl, rfl⟩ | ⟨rfl, rfl, rfl⟩ | ⟨hk, rfl, rfl, rfl, rfl, rfl⟩
      · exact ⟨wInput, [index], rfl, by decide, stepP_line (by decide) (by simpa using o2) rfl⟩
      · exact ⟨wCycle, lits, rfl, by decide, stepP_line (by decide) h3 (by unfold stepOf; rw [if_neg (fun e => absurd e.1 (by decide)), if_pos rfl])⟩
      · exact ⟨wResolve, [p, q, var], rfl, by decide, stepP_line (by decide) (by simp; exact ⟨o3, o4, o5⟩) rfl⟩
      · refine ⟨wStep, [kind], ?_, by decide, stepP_line (by decide) (by simpa using o1) ?_⟩
        · unfold stepText
          rw [if_neg (by show ¬ kind = 1; omega), if_neg (by show ¬ kind = 2; omega), if_neg (by show ¬ kind = 3; omega)]
        · unfold stepOf
          rw [if_neg (fun e => absurd e.1 (by decide)), if_neg (by decide), if_neg (fun e => absurd e.1 (by decide)), if_pos ⟨rfl, rfl, by simpa using hk⟩]
          rfl
    obtain ⟨word, ns, e1, e2, e3⟩ := hs
    have e : stepsText (s :: t) = (word ++ numsText ns) ++ 10 :: stepsText t := by
      simp [stepsText, e1, lineText]
    rw [e]
    exact .next rfl (line_not word ns e2) e3 ih
end Go.Proofs.YtfffalfnjficaaaDoor
