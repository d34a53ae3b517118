/-
  PLAIN LAW: steps of a refutation and their clauses. No program.
-/
import Derived.Test.YtfffalfnjficaaaDoorNorm
import Derived.Test.YtfffalfnjficaaaDoorForm
namespace Go.Proofs.YtfffalfnjficaaaDoor

/-- A step of a refutation. -/
structure Stp where
  kind : Int
  index : Int
  lits : List Int
  p : Int
  q : Int
  var : Int

/-- The constraints up to place k are linked: each ends where the next begins, the last where the first begins. -/
def Linked (ds : List Diff) (k : Nat) : Prop := ∀ (i : Nat) (a b : Diff), i < k → ds[i]? = some a → ds[(i + 1) % ds.length]? = some b → a.y = b.x
def csum (ds : List Diff) : Int := (ds.map Diff.c).sum
/-- A negative cycle. -/
def Cyc (ds : List Diff) : Prop := 0 < ds.length ∧ Linked ds ds.length ∧ csum ds < 0
open Classical in
noncomputable def cycB (ds : List Diff) : Bool := decide (Cyc ds)

/-- The constraints of literals. -/
def bnds (atoms : List Diff) : List Int → Option (List Diff)
  | [] => some []
  | x :: r => match bound atoms x, bnds atoms r with
    | some d, some ds => some (d :: ds)
    | _, _ => none

theorem bnds_some {atoms : List Diff} {lits : List Int} {ds : List Diff} : bnds atoms lits = some ds ↔ lits.map (bound atoms) = ds.map some := by
  induction lits generalizing ds with
  | nil => cases ds <;> simp [bnds]
  | cons x r ih =>
    rw [bnds]
    cases h : bound atoms x with
    | none => cases ds <;> simp [h]
    | some d =>
      cases h2 : bnds atoms r with
      | none =>
        constructor
        · intro h; cases h
        · intro h3
          cases ds with
          | nil => simp at h3
          | cons e es =>
            rw [List.map_cons, List.map_cons] at h3
            injection h3 with _ h4
            rw [← ih, h2] at h4
            cases h4
      | some es =>
        cases ds with
        | nil => simp
        | cons e rs =>
          rw [List.map_cons, List.map_cons, h]
          constructor
          · intro h3
            injection h3 with h3
            injection h3 with h3 h4
            subst h3 h4
            rw [ih.1 h2]
          · intro h3
            injection h3 with h3 h4
            injection h3 with h3
            rw [← ih, h2] at h4
            injection h4 with h4
            rw [h3, h4]
theorem bnds_none {atoms : List Diff} {lits : List Int} {x : Int} (hx : x ∈ lits) (h : bound atoms x = none) : bnds atoms lits = none := by
  cases e : bnds atoms lits with
  | none => rfl
  | some ds =>
    have h1 := bnds_some.1 e
    have h2 : bound atoms x ∈ ds.map some := by rw [← h1]; exact List.mem_map.2 ⟨x, hx, rfl⟩
    rw [h] at h2
    obtain ⟨d, _, hd⟩ := List.mem_map.1 h2
    cases hd

/-- The clause of a negative cycle. -/
noncomputable def cyc (atoms : List Diff) (lits : List Int) : Option (List Int) :=
  match bnds atoms lits with
  | some ds => if cycB ds = true then norm (lits.map (fun x => -x)) else none
  | none => none

/-- The resolvent. -/
def res (p q : List Int) (v : Int) : Option (List Int) :=
  if 0 ≤ v ∧ v < 1024 ∧ v + 1 ∈ p ∧ -(v + 1) ∈ q then norm (p.filter (fun x => decide (x ≠ v + 1)) ++ q.filter (fun x => decide (x ≠ -(v + 1)))) else none

/-- The clause of a step behind the clauses cs. -/
noncomputable def deriv (f : Form) (s : Stp) (cs : List (List Int)) : Option (List Int) :=
  if s.kind = 1 then (if 0 ≤ s.index then (f.clauses[s.index.toNat]?).bind norm else none)
  else if s.kind = 2 then cyc f.atoms s.lits
  else if s.kind = 3 then (if 0 ≤ s.p ∧ 0 ≤ s.q then (cs[s.p.toNat]?).bind fun a => (cs[s.q.toNat]?).bind fun b => res a b s.var else none)
  else none

/-- The clauses of steps: of all, or of those ahead of the first wrong one. -/
noncomputable def runS (f : Form) : List (List Int) → List Stp → List (List Int) × Bool
  | cs, [] => (cs, true)
  | cs, s :: r => match deriv f s cs with
    | some c => runS f (cs ++ [c]) r
    | none => (cs, false)

theorem runS_step {f : Form} {cs : List (List Int)} {l : List Stp} {k : Nat} {s : Stp} (hk : l[k]? = some s) {c : List Int} (hd : deriv f s cs = some c) : runS f (cs ++ [c]) (l.drop (k + 1)) = runS f cs (l.drop k) := by
  obtain ⟨h1, h2⟩ := List.getElem?_eq_some_iff.1 hk
  rw [List.drop_eq_getElem_cons h1, h2, runS, hd]
theorem runS_stop {f : Form} {cs : List (List Int)} {l : List Stp} {k : Nat} {s : Stp} (hk : l[k]? = some s) (hd : deriv f s cs = none) : runS f cs (l.drop k) = (cs, false) := by
  obtain ⟨h1, h2⟩ := List.getElem?_eq_some_iff.1 hk
  rw [List.drop_eq_getElem_cons h1, h2, runS, hd]
theorem runS_end {f : Form} {cs : List (List Int)} {l : List Stp} {k : Nat} (hk : l.length ≤ k) : runS f cs (l.drop k) = (cs, true) := by
  rw [List.drop_eq_nil_of_le hk, runS]

theorem norm_up {xs l : List Int} (h : norm xs = some l) : Up l := by
  have := norm_spec xs
  rw [h] at this
  exact this.1
theorem up_nodup {l : List Int} (h : Up l) : l.Nodup := h.imp fun h e => by rw [e] at h; omega
theorem deriv_norm {f : Form} {s : Stp} {cs : List (List Int)} {c : List Int} (h : deriv f s cs = some c) : ∃ xs, norm xs = some c := by
  unfold deriv at h
  split at h
  · split at h
    · obtain ⟨a, _, h2⟩ := Option.bind_eq_some_iff.1 h; exact ⟨a, h2⟩
    · cases h
  · split at h
    · unfold cyc at h
      split at h
      · split at h
        · exact ⟨_, h⟩
        · cases h
      · cases h
    · split at h
      · split at h
        · obtain ⟨a, _, h2⟩ := Option.bind_eq_some_iff.1 h
          obtain ⟨b, _, h3⟩ := Option.bind_eq_some_iff.1 h2
          unfold res at h3
          split at h3
          · exact ⟨_, h3⟩
          · cases h3
        · cases h
      · cases h

/-- To strike one of different elements is to leave it out by its place. -/
theorem filter_ne {l : List Int} (hn : l.Nodup) {i : Nat} {x : Int} (hi : l[i]? = some x) : l.filter (fun y => decide (y ≠ x)) = l.take i ++ l.drop (i + 1) := by
  obtain ⟨h1, h2⟩ := List.getElem?_eq_some_iff.1 hi
  have hs : l = l.take i ++ x :: l.drop (i + 1) := by
    rw [← h2, ← List.drop_eq_getElem_cons h1, List.take_append_drop]
  have hn' := hn
  rw [hs, List.nodup_append] at hn'
  obtain ⟨n1, n2, n3⟩ := hn'
  rw [List.nodup_cons] at n2
  have e1 : (l.take i).filter (fun y => decide (y ≠ x)) = l.take i := List.filter_eq_self.2 fun y hy => by
    have := n3 y hy x (by simp)
    simpa using this
  have e2 : (l.drop (i + 1)).filter (fun y => decide (y ≠ x)) = l.drop (i + 1) := List.filter_eq_self.2 fun y hy => by
    have : y ≠ x := fun e => n2.1 (e ▸ hy)
    simpa using this
  conv => lhs; rw [hs]
  rw [List.filter_append, List.filter_cons, e1, e2]
  simp
end Go.Proofs.YtfffalfnjficaaaDoor
