/-
  PLAIN LAW: refutations by cases. No program.
-/
import Derived.Test.YtdmndikenejhiaaFails
import Derived.Test.YtdmndikenejhiaaNeg
namespace Go.Proofs.Ytdmndikenejhiaa

/-- The assumed literals: none, a boolean or its negation, each at its place. -/
def OkV (f : Form) (val : List Int) : Prop := (val.length : Int) = f.bools ∧ ∀ (i : Nat) (x : Int), val[i]? = some x → x = 0 ∨ x = (i : Int) + 1 ∨ x = -((i : Int) + 1)

/-- What the refuter needs of the formula. -/
structure SmallQ (f : Form) : Prop where
  i0 : 2 ≤ f.ints
  i1 : f.ints ≤ 6
  al : (f.atoms.length : Int) ≤ f.bools
  bl : f.bools ≤ 18
  cl : f.clauses.length ≤ 40
  at_ : ∀ d ∈ f.atoms, okAtom f.ints d = true ∧ -4 ≤ d.c ∧ d.c ≤ 2
  cs : ∀ xs ∈ f.clauses, xs.length ≤ 4 ∧ ∀ x ∈ xs, okLit f.bools x = true
theorem SmallF.q {a b c : Int} {f : Form} (h : SmallF a b c f) : SmallQ f := by
  obtain ⟨h1, h2, h3, h4, h5, h6⟩ := h
  exact ⟨by omega, by omega, by omega, by omega, h4, h5, fun xs hx => (h6 xs hx).2⟩

/-- The literals that are assumed for atoms. -/
def asgK (val : List Int) (k : Nat) : List Int := (val.take k).filter fun x => x != 0
def asg (f : Form) (val : List Int) : List Int := asgK val f.atoms.length
theorem asgK_yes {val : List Int} {k : Nat} {x : Int} (h : val[k]? = some x) (hx : x ≠ 0) : asgK val (k + 1) = asgK val k ++ [x] := by
  unfold asgK
  rw [List.take_add_one, h, Option.toList, List.filter_append]
  simp [hx]
theorem asgK_no {val : List Int} {k : Nat} (h : val[k]? = some 0) : asgK val (k + 1) = asgK val k := by
  unfold asgK
  rw [List.take_add_one, h, Option.toList, List.filter_append]
  simp
theorem asgK_len (val : List Int) (k : Nat) : (asgK val k).length ≤ k := by
  unfold asgK
  exact Nat.le_trans (List.length_filter_le _ _) (List.length_take_le _ _)
theorem bnds_snoc {atoms : List Diff} {xs : List Int} {ds : List Diff} {x : Int} {d : Diff} (h : bnds atoms xs = some ds) (hx : bound atoms x = some d) : bnds atoms (xs ++ [x]) = some (ds ++ [d]) := by
  rw [bnds_some] at h ⊢
  rw [List.map_append, List.map_append, h]; simp [hx]
theorem bnds_len {atoms : List Diff} {xs : List Int} {ds : List Diff} (h : bnds atoms xs = some ds) : ds.length = xs.length := by
  rw [bnds_some] at h
  have := congrArg List.length h
  simpa using this.symm
theorem bnds_at {atoms : List Diff} {xs : List Int} {ds : List Diff} (h : bnds atoms xs = some ds) {k : Nat} {x : Int} (hx : xs[k]? = some x) : ∃ d, ds[k]? = some d ∧ bound atoms x = some d := by
  rw [bnds_some] at h
  have h2 : (xs.map (bound atoms))[k]? = some (bound atoms x) := by rw [List.getElem?_map, hx]; rfl
  rw [h, List.getElem?_map] at h2
  cases e : ds[k]? with
  | none => rw [e] at h2; cases h2
  | some d => rw [e] at h2; injection h2 with h2; exact ⟨d, rfl, h2.symm⟩
theorem bnds_pick {atoms : List Diff} {xs : List Int} {ds : List Diff} (h : bnds atoms xs = some ds) {ks : List Nat} (hk : ∀ k ∈ ks, k < ds.length) : bnds atoms (ks.map fun k => xs.getD k 0) = some (ks.map fun k => ds.getD k ⟨0, 0, 0⟩) := by
  induction ks with
  | nil => rfl
  | cons k ks ih =>
    have hl := bnds_len h
    have hk1 := hk k (by simp)
    obtain ⟨d, h1, h2⟩ := bnds_at h (List.getElem?_eq_getElem (show k < xs.length by omega))
    rw [List.map_cons, List.map_cons, bnds, ih fun j hj => hk j (by simp [hj])]
    rw [List.getD_eq_getElem?_getD, List.getElem?_eq_getElem (show k < xs.length by omega), Option.getD_some, h2, List.getD_eq_getElem?_getD, h1]
    rfl

theorem falseB_at {val : List Int} {i : Nat} {x : Int} (h : val[i]? = some x) (hx : x = (i : Int) + 1 ∨ x = -((i : Int) + 1)) : falseB val (-x) = true := by
  unfold falseB
  rw [show (-x).natAbs - 1 = i by omega, List.getD_eq_getElem?_getD, h]
  simp

/-- A literal that is assumed. -/
def Asm (val : List Int) (x : Int) : Prop := x ≠ 0 ∧ val[x.natAbs - 1]? = some x
theorem Asm.false {val : List Int} {x : Int} (h : Asm val x) : falseB val (-x) = true := by
  unfold falseB
  rw [show (-x).natAbs - 1 = x.natAbs - 1 by omega, List.getD_eq_getElem?_getD, h.2]
  simp
theorem Asm.no {val : List Int} {x : Int} (h : Asm val x) (h2 : Asm val (-x)) : False := by
  have h3 := h2.2
  rw [show (-x).natAbs - 1 = x.natAbs - 1 by omega, h.2] at h3
  injection h3 with h3
  exact h.1 (by omega)
theorem asg_mem {f : Form} {val : List Int} (hv : OkV f val) {x : Int} (hx : x ∈ asg f val) : Asm val x ∧ x.natAbs - 1 < f.atoms.length := by
  unfold asg asgK at hx
  obtain ⟨h1, h2⟩ := List.mem_filter.1 hx
  obtain ⟨i, hi⟩ := List.getElem?_of_mem h1
  rw [List.getElem?_take] at hi
  split at hi
  · rename_i hlt
    have h0 : x ≠ 0 := by simpa using h2
    have := hv.2 i x hi
    have e : x.natAbs - 1 = i := by omega
    exact ⟨⟨h0, by rw [e]; exact hi⟩, by omega⟩
  · cases hi

/-- The negations of assumed literals have a normal form, and it fails. -/
theorem norm_neg {val used : List Int} (h : ∀ x ∈ used, Asm val x) (hb : ∀ x ∈ used, -1000 ≤ x ∧ x ≤ 1000) : ∃ c, norm (used.map fun x => -x) = some c ∧ failsB val c = true := by
  cases e : norm (used.map fun x => -x) with
  | none =>
    exfalso
    have hs := norm_spec (used.map fun x => -x)
    rw [e] at hs
    rcases hs with ⟨y, hy, hb2⟩ | ⟨y, hy, hy2, _⟩
    · obtain ⟨x, hx, rfl⟩ := List.mem_map.1 hy
      have h1 := (h x hx).1
      have h2 := hb x hx
      simp [badLit] at hb2
      omega
    · obtain ⟨x, hx, rfl⟩ := List.mem_map.1 hy
      obtain ⟨z, hz, e2⟩ := List.mem_map.1 hy2
      have : z = -x := by omega
      subst this
      exact (h x hx).no (h _ hz)
  | some c =>
    refine ⟨c, rfl, ?_⟩
    have hs := norm_spec (used.map fun x => -x)
    rw [e] at hs
    unfold failsB
    rw [List.all_eq_true]
    intro z hz
    obtain ⟨x, hx, rfl⟩ := List.mem_map.1 ((hs.2.1 z).1 hz)
    exact (h x hx).false

theorem bound_asm {f : Form} {val : List Int} {j : Nat} {x : Int} (hq : SmallQ f) (hv : OkV f val) (h : val[j]? = some x) (hx : x ≠ 0) (hj : j < f.atoms.length) :
    ∃ d, bound f.atoms x = some d ∧ 0 ≤ d.x ∧ d.x < f.ints ∧ 0 ≤ d.y ∧ d.y < f.ints ∧ d.x ≠ d.y ∧ -5 ≤ d.c ∧ d.c ≤ 5 := by
  obtain ⟨⟨a, b, c⟩, hd⟩ : ∃ d, f.atoms[j]? = some d := ⟨_, List.getElem?_eq_getElem hj⟩
  obtain ⟨h1, h2, h3⟩ := hq.at_ _ (List.mem_of_getElem? hd)
  obtain ⟨k1, k2, k3, k4, k5, k6, k7⟩ := okAtom_iff.1 h1
  simp only at h2 h3
  rcases hv.2 j x h with h | h | h
  · exact absurd h hx
  · subst h
    exact ⟨⟨a, b, c⟩, by rw [bound_pos]; exact hd, k1, k2, k3, k4, k5, by simp only; omega, by simp only; omega⟩
  · subst h
    exact ⟨Diff.opp ⟨a, b, c⟩, by rw [bound_neg, hd]; rfl, k3, k4, k1, k2, fun e => k5 e.symm, by simp only [Diff.opp]; omega, by simp only [Diff.opp]; omega⟩

/-- No clause fails, and the constraints of the assumed literals have a solution. -/
def NoConf (f : Form) (val : List Int) : Prop :=
  (∀ xs ∈ f.clauses, ∀ n, norm xs = some n → failsB val n = false) ∧ ∃ l sol, bnds f.atoms (asg f val) = some l ∧ ∀ d ∈ l, gi sol d.x ≤ gi sol d.y + d.c
end Go.Proofs.Ytdmndikenejhiaa
